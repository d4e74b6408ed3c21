import Derived.Test.YtehjmhgedbfddaaDoorLg13
import Derived.Deep.LoopGhost
set_option linter.unusedVariables false
set_option linter.unusedSimpArgs false
set_option linter.unusedSectionVars false
namespace Lg
open Go Go.RowKit
variable [GLay]

/-! ### Code -/
inductive AEx where
  | normal
  | exit (id : Nat)
  | ret
  | pan (v : AV)

abbrev QA := AEx → Env → List AO → Prop

def Post (s0 : CS) (N : Nat) (Q : QA) : Exit → Act → World → Prop := fun ex a w => ∃ s, s.w = w ∧ Good s ∧ Ext s0 s ∧ ∃ e, EnvOK s N e a ∧
  match ex with
  | .normal => Q .normal e s.σ
  | .exit id => Q (.exit id) e s.σ
  | .ret => Q .ret e s.σ
  | .panic [en] => en = { v := en.v, recovered := false } ∧ ∃ v, V s v en.v ∧ Q (.pan v) e s.σ
  | _ => False

/-- From σ and the slots e the code comes to Q. -/
def AWp (P : Program) (N : Nat) (c : Code) (e : Env) (σ : List AO) (Q : QA) : Prop :=
  ∀ (s0 s : CS) (a : Act), s.σ = σ → Good s → Ext s0 s → EnvOK s N e a → c.wp P (Post s0 N Q) a s.w
def AOps (P : Program) (N : Nat) (ops : Array Oper) (l : List Oper) (e : Env) (σ : List AO) (Q : QA) : Prop :=
  ∀ (s0 s : CS) (a : Act), s.σ = σ → Good s → Ext s0 s → EnvOK s N e a → wpList P ops (Post s0 N Q) l a s.w

section code
variable {P : Program} {N : Nat} {e : Env} {σ : List AO} {Q : QA} {ops : Array Oper}

theorem AWp.mono {c : Code} {Q' : QA} (h : AWp P N c e σ Q) (hq : ∀ ex e σ, Q ex e σ → Q' ex e σ) : AWp P N c e σ Q' := fun s0 s a hs g x he =>
  wp_mono (h s0 s a hs g x he) fun ex a' w' hp => by
    obtain ⟨s', h1, h2, h3, e', h4, h5⟩ := hp
    refine ⟨s', h1, h2, h3, e', h4, ?_⟩
    cases ex with
    | normal => exact hq _ _ _ h5
    | exit id => exact hq _ _ _ h5
    | ret => exact hq _ _ _ h5
    | goto l => exact h5
    | outgrown => exact h5
    | panic ch =>
      cases ch with
      | nil => exact h5
      | cons en r =>
        cases r with
        | nil => obtain ⟨h6, v, h7, h8⟩ := h5; exact ⟨h6, v, h7, hq _ _ _ h8⟩
        | cons => exact h5

theorem AWp_skip (h : Q .normal e σ) : AWp P N .skip e σ Q := fun s0 s a hs g x he => wp_skip ⟨s, rfl, g, x, e, he, by rw [hs]; exact h⟩
theorem AWp_ret (h : Q .ret e σ) : AWp P N .ret e σ Q := fun s0 s a hs g x he => wp_ret ⟨s, rfl, g, x, e, he, by rw [hs]; exact h⟩
theorem AWp_exit {id : Nat} (h : Q (.exit id) e σ) : AWp P N (.exit id) e σ Q := fun s0 s a hs g x he => wp_exit ⟨s, rfl, g, x, e, he, by rw [hs]; exact h⟩
/-- What follows in a sequence. -/
def thenQ (P : Program) (N : Nat) (c : Code) (Q : QA) : QA
  | .normal, e, σ => AWp P N c e σ Q
  | ex, e, σ => Q ex e σ
theorem AWp_seq {c d : Code} (h : AWp P N c e σ (thenQ P N d Q)) : AWp P N (.seq c d) e σ Q := fun s0 s a hs g x he =>
  wp_seq (wp_mono (h s0 s a hs g x he) fun ex a' w' hp => by
    obtain ⟨s', h1, h2, h3, e', h4, h5⟩ := hp
    cases ex with
    | normal => subst h1; exact h5 s0 s' a' rfl h2 h3 h4
    | exit id => exact ⟨s', h1, h2, h3, e', h4, h5⟩
    | ret => exact ⟨s', h1, h2, h3, e', h4, h5⟩
    | goto l => exact h5.elim
    | outgrown => exact h5.elim
    | panic ch =>
      cases ch with
      | nil => exact h5.elim
      | cons en r =>
        cases r with
        | nil => exact ⟨s', h1, h2, h3, e', h4, h5⟩
        | cons => exact h5.elim)
theorem AWp_cond {x : Operand} {c d : Code} {b : Bool} (hb : opv e x = .bool b) (ht : b = true → AWp P N c e σ Q) (hf : b = false → AWp P N d e σ Q) : AWp P N (.cond x c d) e σ Q := fun s0 s a hs g hx he =>
  wp_cond_split (t := b) ((hb ▸ he.eval x).inv_bool) (fun h => ht h s0 s a hs g hx he) (fun h => hf h s0 s a hs g hx he)
def blockQ (id : Nat) (Q : QA) : QA
  | .exit id', e, σ => bif Nat.beq id' id then Q .normal e σ else Q (.exit id') e σ
  | ex, e, σ => Q ex e σ
theorem AWp_block {id : Nat} {c : Code} (h : AWp P N c e σ (blockQ id Q)) : AWp P N (.block id c) e σ Q := fun s0 s a hs g x he =>
  wp_block (wp_mono (h s0 s a hs g x he) fun ex a' w' hp => by
    obtain ⟨s', h1, h2, h3, e', h4, h5⟩ := hp
    cases ex with
    | normal => exact ⟨s', h1, h2, h3, e', h4, h5⟩
    | exit id' =>
      simp only [Exit.inBlock]
      by_cases hid : id' = id
      · subst hid
        rw [if_pos rfl]
        have : Nat.beq id' id' = true := Nat.beq_refl _
        simp only [blockQ, this, cond_true] at h5
        exact ⟨s', h1, h2, h3, e', h4, h5⟩
      · rw [if_neg hid]
        have : Nat.beq id' id = false := by
          cases hb : Nat.beq id' id with
          | false => rfl
          | true => exact absurd (Nat.eq_of_beq_eq_true hb) hid
        simp only [blockQ, this, cond_false] at h5
        exact ⟨s', h1, h2, h3, e', h4, h5⟩
    | ret => exact ⟨s', h1, h2, h3, e', h4, h5⟩
    | goto l => exact h5.elim
    | outgrown => exact h5.elim
    | panic ch =>
      cases ch with
      | nil => exact h5.elim
      | cons en r =>
        cases r with
        | nil => exact ⟨s', h1, h2, h3, e', h4, h5⟩
        | cons => exact h5.elim)

/-! ### Fewer slots known -/
def AllLook (e : Env) : List (Nat × AV) → Prop
  | [] => True
  | (t, v) :: r => e.look t = v ∧ AllLook e r
def Sub (e e' : Env) : Prop := e'.D = e.D ∧ AllLook e e'.l
theorem AllLook.look {e : Env} : ∀ {l : List (Nat × AV)}, AllLook e l → ∀ t, lookL l t = .any ∨ lookL l t = e.look t
  | [], _, t => .inl rfl
  | (k, v) :: r, ⟨h1, h2⟩, t => by
    simp only [lookL]
    cases hb : Nat.beq k t with
    | true =>
      have : k = t := Nat.eq_of_beq_eq_true hb
      subst this
      right; simp [h1]
    | false => simpa [hb] using h2.look t
theorem Sub.ok {s : CS} {e e' : Env} {a : Act} (h : Sub e e') (k : EnvOK s N e a) : EnvOK s N e' a :=
  ⟨k.size, by rw [h.1]; exact k.defers, fun t => by
    rcases h.2.look t with h1 | h1
    · show V s (lookL e'.l t) _; rw [h1]; exact .any _
    · show V s (lookL e'.l t) _; rw [h1]; exact k.tmps t⟩
theorem AWp_sub {c : Code} (e' : Env) (h : Sub e e') (k : AWp P N c e' σ Q) : AWp P N c e σ Q := fun s0 s a hs g x he => k s0 s a hs g x (h.ok he)

/-- The objects below n name none from n on. -/
def closed (n : Nat) (σ : List AO) : Prop := ∀ p o, p < n → σ[p]? = some o → AV.ltL n o.cells
/-- So do the slots. -/
def ltE (n : Nat) (e : Env) : Prop := (∀ q ∈ e.l, q.2.lt n) ∧ ∀ d ∈ e.D, AV.ltL n d.2

theorem DefOK.cut {s : CS} {n : Nat} : ∀ {D : List (FuncId × List AV)} {ds : List Deferred}, (∀ d ∈ D, AV.ltL n d.2) → DefOK s D ds → DefOK (s.cut n) D ds
  | [], [], _, _ => trivial
  | (f, l) :: r, d :: r', h, ⟨⟨h1, vs, h2, h3⟩, h4⟩ => by
    refine ⟨⟨h1, vs, h2, h3.1, fun i c v e1 e2 => (h3.2 i c v e1 e2).cut ?_⟩, DefOK.cut (fun d hd => h d (by simp [hd])) h4⟩
    have := h (f, l) (by simp)
    rw [AV.ltL_iff] at this
    exact this c (List.mem_of_getElem? e1)
theorem lookL_lt {n : Nat} : ∀ {l : List (Nat × AV)}, (∀ q ∈ l, q.2.lt n) → ∀ t, (lookL l t).lt n
  | [], _, t => by simp [lookL, AV.lt]
  | (k, v) :: r, h, t => by
    simp only [lookL]
    cases hb : Nat.beq k t with
    | true => exact h (k, v) (by simp)
    | false => exact lookL_lt (fun q hq => h q (by simp [hq])) t
theorem EnvOK.cut {s : CS} {n : Nat} {e : Env} {a : Act} (h : EnvOK s N e a) (k : ltE n e) : EnvOK (s.cut n) N e a :=
  ⟨h.size, h.defers.cut k.2, fun t => (h.tmps t).cut (lookL_lt k.1 t)⟩
theorem Ext.cutm {s0 s : CS} (x : Ext s0 s) {m : Nat} (hm : s0.σ.length ≤ m) : Ext s0 (s.cut m) where
  objs := fun p o h => by
    obtain ⟨o', h', r⟩ := x.objs p o h
    have := (List.getElem?_eq_some_iff.1 h).1
    exact ⟨o', by show (s.σ.take _)[p]? = _; rw [List.getElem?_take, if_pos (by omega)]; exact h', r⟩
  ok := x.ok
  mun := fun p h => x.mun p (by
    unfold CS.live at h ⊢
    change (match (s.σ.take m)[p]? with | some (.box _) => True | some (.arr _ _ _) => (s.μ p).tot ≠ 0 | _ => False) at h
    rw [List.getElem?_take] at h
    split at h <;> rename_i e <;> split at e <;> simp_all)
  frame := x.frame
  size := x.size
  tape := x.tape
  os := x.os
  output := x.output

/-- A loop: what holds at each round's head, by an index; each round lowers the measure; what a round has made is let go. -/
theorem AWp_loop {ι : Type} {c : Code} (I : ι → Prop) (E : ι → Env) (S : ι → List AO) (m : ι → Nat) (i0 : ι) (hI : I i0) (h0 : Sub e (E i0)) (hσ : σ = S i0)
    (round : ∀ i, I i → AWp P N c (E i) (S i) fun ex e' σ' => match ex with
      | .normal => ∃ j n, I j ∧ m j < m i ∧ σ.length ≤ n ∧ Sub e' (E j) ∧ closed n σ' ∧ ltE n (E j) ∧ σ'.take n = S j
      | ex => Q ex e' σ') : AWp P N (.loop c) e σ Q := fun s0 s a hs g x he =>
  wp_loop_ghost (fun n a w => ∃ i s', I i ∧ m i = n ∧ s'.w = w ∧ s'.σ = S i ∧ Good s' ∧ Ext s s' ∧ EnvOK s' N (E i) a) (m i0) ⟨i0, s, hI, rfl, rfl, by rw [hs, hσ], g, Ext.refl s, h0.ok he⟩
    fun n a' w' ⟨i, s', h0', h1, h2, h3, h4, h5, h6⟩ => by
      subst h2
      refine wp_mono (round i h0' s s' a' h3 h4 h5 h6) fun ex a'' w'' hp => ?_
      obtain ⟨s'', k1, k2, k3, e'', k4, k5⟩ := hp
      cases ex with
      | normal =>
        obtain ⟨j, n', hIj, hj, hn, hsub, hcl, hlt, hσ'⟩ := k5
        exact ⟨m j, by omega, j, s''.cut n', hIj, rfl, k1, hσ', k2.cut hcl, k3.cutm (by rw [hs]; exact hn), (hsub.ok k4).cut hlt⟩
      | exit id => exact ⟨s'', k1, k2, x.trans k3, e'', k4, k5⟩
      | ret => exact ⟨s'', k1, k2, x.trans k3, e'', k4, k5⟩
      | goto l => exact k5.elim
      | outgrown => exact k5.elim
      | panic ch =>
        cases ch with
        | nil => exact k5.elim
        | cons en r =>
          cases r with
          | nil => exact ⟨s'', k1, k2, x.trans k3, e'', k4, k5⟩
          | cons => exact k5.elim

/-! ### Regions that keep the text's order -/
theorem AWp_region {id : Nat} (h : AOps P N ops ops.toList e σ Q) : AWp P N (.region id ops false) e σ Q := fun s0 s a hs g x he => wp_region_list (h s0 s a hs g x he)
theorem AOps_nil (h : Q .normal e σ) : AOps P N ops [] e σ Q := fun s0 s a hs g x he => wpList_nil ⟨s, rfl, g, x, e, he, by rw [hs]; exact h⟩
theorem AOps_consR {o : Oper} {rest : List Oper} {Nn X : AV → List AO → Prop} (hg : o.guard = none) (hd : ∀ d, o.dst = some d → d < N) (h : AOpR P σ e o Nn X)
    (k : ∀ v σ', Nn v σ' → AOps P N ops rest (e.put o.dst v) σ' Q) (kx : ∀ v σ', X v σ' → Q (.pan v) e σ') : AOps P N ops (o :: rest) e σ Q := fun s0 s a hs g x he => by
  refine wpList_plain hg fun K hK => h s a hs g (fun y _ => he.eval y) K _ (fun v cv s' hn g' x' hv => hK _ _ ?_) (fun v cv s' hn g' x' hv => ?_)
  · exact k v s'.σ hn s0 s' _ rfl g' (x.trans x') ((he.mono g x').put o.dst hv hd)
  · exact ⟨s', rfl, g', x.trans x', e, he.mono g x', rfl, v, hv, kx v s'.σ hn⟩
theorem AOps_cons {o : Oper} {rest : List Oper} {v : AV} {σ' : List AO} (hg : o.guard = none) (hd : ∀ d, o.dst = some d → d < N) (h : AOp P σ e o v σ')
    (k : AOps P N ops rest (e.put o.dst v) σ' Q) : AOps P N ops (o :: rest) e σ Q :=
  AOps_consR hg hd h (fun v' σ'' hn => by rw [hn.1, hn.2]; exact k) (fun _ _ hx => hx.elim)
theorem yielded_of {s : CS} {a : Act} {j d : Nat} {b : Bool} (he : EnvOK s N e a) (hj : (ops[j]?).bind (·.dst) = some d) (hb : e.look d = .bool b) (hdN : d < N) : yielded ops a.tmps j = some b := by
  have h1 := he.tmps d
  rw [hb] at h1
  have h2 := h1.inv_bool
  simp only [Act.eval] at h2
  unfold yielded
  rw [hj]
  have h3 : a.tmps[d]? = some (.bool b) := by
    have hlt : d < a.tmps.size := by rw [he.size]; exact hdN
    rw [Array.getD_eq_getD_getElem?, Array.getElem?_eq_getElem hlt] at h2
    rw [Array.getElem?_eq_getElem hlt]
    simpa using h2
  simp [h3]
theorem yielded_undef {s : CS} {a : Act} {j d : Nat} (he : EnvOK s N e a) (hj : (ops[j]?).bind (·.dst) = some d) (hb : e.look d = .tup []) (hdN : d < N) : yielded ops a.tmps j = none := by
  have h1 := he.tmps d
  rw [hb] at h1
  have h2 := h1.inv_undef
  simp only [Act.eval] at h2
  unfold yielded
  rw [hj]
  have h3 : a.tmps[d]? = some undef := by
    have hlt : d < a.tmps.size := by rw [he.size]; exact hdN
    rw [Array.getD_eq_getD_getElem?, Array.getElem?_eq_getElem hlt] at h2
    rw [Array.getElem?_eq_getElem hlt]
    simpa using h2
  simp [h3, undef]
theorem AOps_consGR {o : Oper} {rest : List Oper} {Nn X : AV → List AO → Prop} {j d : Nat} {want : Bool} (hg : o.guard = some (j, want)) (hj : (ops[j]?).bind (·.dst) = some d) (hdN : d < N) (hb : e.look d = .bool want) (hd : ∀ d, o.dst = some d → d < N)
    (h : AOpR P σ e o Nn X) (k : ∀ v σ', Nn v σ' → AOps P N ops rest (e.put o.dst v) σ' Q) (kx : ∀ v σ', X v σ' → Q (.pan v) e σ') : AOps P N ops (o :: rest) e σ Q := fun s0 s a hs g x he => by
  refine wpList_step fun K hK => ?_
  have hy := yielded_of he hj hb hdN
  rw [if_pos (by simp [Region.wanted, hg, hy])]
  refine h s a hs g (fun y _ => he.eval y) K _ (fun v cv s' hn g' x' hv => hK _ _ ?_) (fun v cv s' hn g' x' hv => ?_)
  · exact k v s'.σ hn s0 s' _ rfl g' (x.trans x') ((he.mono g x').put o.dst hv hd)
  · exact ⟨s', rfl, g', x.trans x', e, he.mono g x', rfl, v, hv, kx v s'.σ hn⟩
theorem AOps_consG {o : Oper} {rest : List Oper} {v : AV} {σ' : List AO} {j d : Nat} {want : Bool} (hg : o.guard = some (j, want)) (hj : (ops[j]?).bind (·.dst) = some d) (hdN : d < N) (hb : e.look d = .bool want) (hd : ∀ d, o.dst = some d → d < N)
    (h : AOp P σ e o v σ') (k : AOps P N ops rest (e.put o.dst v) σ' Q) : AOps P N ops (o :: rest) e σ Q :=
  AOps_consGR hg hj hdN hb hd h (fun v' σ'' hn => by rw [hn.1, hn.2]; exact k) (fun _ _ hx => hx.elim)
theorem AOps_consS {o : Oper} {rest : List Oper} {j d : Nat} {want : Bool} (hg : o.guard = some (j, want)) (hj : (ops[j]?).bind (·.dst) = some d) (hdN : d < N) (hb : e.look d = .bool (!want) ∨ e.look d = .tup []) (hd : ∀ d, o.dst = some d → d < N)
    (k : AOps P N ops rest (e.put o.dst (.tup [])) σ Q) : AOps P N ops (o :: rest) e σ Q := fun s0 s a hs g x he => by
  refine wpList_step fun K hK => ?_
  rcases hb with hb | hb
  · have hy := yielded_of he hj hb hdN
    rw [if_neg (by simp [Region.wanted, hg, hy])]
    exact hK _ _ (k s0 s _ hs g x (he.put o.dst (V.undef s) hd))
  · have hy := yielded_undef he hj hb hdN
    rw [if_neg (by simp [Region.wanted, hg, hy])]
    exact hK _ _ (k s0 s _ hs g x (he.put o.dst (V.undef s) hd))
end code

/-! ### Calls -/
inductive Out where
  | ret (v : AV)
  | pan (v : AV)

def CPost (s0 : CS) (R : Out → List AO → Prop) : Ending → World → Prop := fun e w => ∃ s, s.w = w ∧ Good s ∧ Ext s0 s ∧
  match e with
  | .returned cv => ∃ v, V s v cv ∧ R (.ret v) s.σ
  | .panicked [en] => en = { v := en.v, recovered := false } ∧ ∃ v, V s v en.v ∧ R (.pan v) s.σ
  | _ => False
theorem PW.ltL {s : CS} {cs : List AV} {vs : List Value} (h : PW s cs vs) : AV.ltL s.σ.length cs := by
  rw [AV.ltL_iff]
  intro a ha
  obtain ⟨i, hi, rfl⟩ := List.getElem_of_mem ha
  obtain ⟨v, _, hv⟩ := h.get (List.getElem?_eq_getElem hi)
  exact hv.lt
theorem Good.closed {s : CS} (g : Good s) : closed s.σ.length s.σ := fun p o _ ho => by
  have hor := g.obj p o ho
  cases o with
  | box cs => obtain ⟨_, vs, T, _, h3⟩ := hor; exact h3.ltL
  | arr sz gg cs =>
    rcases hor with ⟨_, rfl⟩ | ⟨_, _, vs, T, _, _, _, h5⟩
    · trivial
    · exact h5.ltL
  | gone => trivial
  | dead => trivial
/-- Called with these arguments the function comes to R. -/
def ACalls (P : Program) (f : FuncId) (args : List AV) (σ : List AO) (R : Out → List AO → Prop) : Prop :=
  ∀ (s : CS) (cargs : List Value), s.σ = σ → Good s → PW s args cargs → Calls P f cargs.toArray s.w (CPost s R)
/-- It answers v and leaves the heap σ'. -/
def Ret (v : AV) (σ' : List AO) : Out → List AO → Prop := fun r σ'' => r = .ret v ∧ σ'' = σ'

section calls
variable {P : Program} {N : Nat} {e : Env} {σ : List AO} {Q : QA} {ops : Array Oper}

theorem ACalls.mono {f : FuncId} {args : List AV} {R R' : Out → List AO → Prop} (h : ACalls P f args σ R) (hr : ∀ r σ, R r σ → R' r σ) : ACalls P f args σ R' := fun s cargs hs g hp =>
  (h s cargs hs g hp).mono fun ed w' hc => by
    obtain ⟨s', h1, h2, h3, h4⟩ := hc
    refine ⟨s', h1, h2, h3, ?_⟩
    cases ed with
    | returned cv => obtain ⟨v, h5, h6⟩ := h4; exact ⟨v, h5, hr _ _ h6⟩
    | outgrown => exact h4
    | panicked ch =>
      cases ch with
      | nil => exact h4
      | cons en r =>
        cases r with
        | nil => obtain ⟨h5, v, h6, h7⟩ := h4; exact ⟨h5, v, h6, hr _ _ h7⟩
        | cons => exact h4

theorem PW.map_eval {s : CS} {a : Act} {o : Oper} (hv : ∀ x ∈ o.op.operands, V s (opv e x) (a.eval x)) : ∀ (l : List Operand), (∀ x ∈ l, x ∈ o.op.operands) → PW s (l.map (opv e)) (l.map a.eval)
  | [], _ => .nil
  | x :: r, h => .cons (hv x (h x (by simp))) (PW.map_eval hv r fun y hy => h y (by simp [hy]))

theorem op_call {o : Oper} {c : Operand} {as : Array Operand} {T : Array TypeId} {k : FuncId} {fn : Func} {fs av cs : List AV} {R : Out → List AO → Prop} (ho : o.op = .call { callee := .value c, args := as, argTypes := T })
    (hc : opv e c = .func (.func k) fs cs) (ha : as.toList.map (opv e) = av) (hfn : P.funcs[k]? = some fn) (hname : (fn.name == "runtime.NumGoroutine") = false) (hb : fn.body.isNone = false)
    (h : ACalls P k (fs ++ av ++ cs) σ R) : AOpR P σ e o (fun v σ' => R (.ret v) σ') (fun v σ' => R (.pan v) σ') := by
  intro s a hs g hv K Q hk hq
  subst ha
  have hcv := hc ▸ hv c (by simp [ho, Op.operands, Call.operands])
  obtain ⟨vf, vc, h1, h2, h3⟩ := hcv.inv_func
  have hargs := PW.map_eval (o := o) hv as.toList (fun x hx => by simp only [ho, Op.operands, Call.operands]; simp; right; exact Array.mem_toList_iff.1 hx)
  have hall := (h2.append hargs).append h3
  have hcalls := h s _ hs g hall
  have hexec : (execOp a.eval o).run P s.w = .ok (.enter k (vf ++ as.toList.map a.eval ++ vc).toArray) s.w := by
    have hm : as.map a.eval = (as.toList.map a.eval).toArray := by apply Array.ext'; simp
    have hname' : ¬ fn.name = "runtime.NumGoroutine" := by simpa using hname
    have hb' : ¬ fn.body = none := by intro h; rw [h] at hb; cases hb
    simp [execOp, ho, resolve, invoke, Deferred.ofValue, h1, callFunc, hfn, hm]
    rw [if_neg hname', if_neg hb']
  unfold Oper.wp
  rw [hexec, Oper.upon_enter]
  refine hcalls.mono fun ed w' hc => ?_
  obtain ⟨s', e1, g', x', h4⟩ := hc
  subst e1
  cases ed with
  | returned cv => obtain ⟨v, h5, h6⟩ := h4; exact hk v cv s' h6 g' x' h5
  | outgrown => exact h4.elim
  | panicked ch =>
    cases ch with
    | nil => exact h4.elim
    | cons en r =>
      cases r with
      | nil =>
        obtain ⟨h5, v, h6, h7⟩ := h4
        have := hq v en.v s' h7 g' x' h6
        rw [h5]
        exact this
      | cons => exact h4.elim
/-- A call that is known to the letter. -/
theorem op_callF {o : Oper} {c : Operand} {as : Array Operand} {T : Array TypeId} {k : FuncId} {fn : Func} {fs av cs : List AV} {v : AV} {σ' : List AO} (ho : o.op = .call { callee := .value c, args := as, argTypes := T })
    (hc : opv e c = .func (.func k) fs cs) (ha : as.toList.map (opv e) = av) (hfn : P.funcs[k]? = some fn) (hname : (fn.name == "runtime.NumGoroutine") = false) (hb : fn.body.isNone = false)
    (h : ACalls P k (fs ++ av ++ cs) σ (Ret v σ')) : AOp P σ e o v σ' :=
  (op_call ho hc ha hfn hname hb h).mono (fun _ _ h => by obtain ⟨h1, h2⟩ := h; injection h1 with h1; exact ⟨h1, h2⟩) (fun _ _ h => by obtain ⟨h1, _⟩ := h; cases h1)

/-! ### A function's body -/
/-- The parameters' slots. -/
def penv : Nat → List AV → List (Nat × AV)
  | _, [] => []
  | k, a :: r => (k, a) :: penv (k + 1) r
theorem penv_look : ∀ (l : List AV) (k t : Nat), lookL (penv k l) t = if k ≤ t then (l[t - k]?).getD .any else .any
  | [], k, t => by simp [penv, lookL]
  | a :: r, k, t => by
    simp only [penv, lookL]
    cases hb : Nat.beq k t with
    | true =>
      have : k = t := Nat.eq_of_beq_eq_true hb
      subst this
      simp
    | false =>
      have hne : k ≠ t := fun e => by subst e; simp at hb
      have ih := penv_look r (k + 1) t
      simp only [cond_false, ih]
      by_cases h : k ≤ t
      · rw [if_pos (by omega), if_pos h]
        obtain ⟨j, rfl⟩ : ∃ j, t = k + 1 + j := ⟨t - (k + 1), by omega⟩
        rw [show k + 1 + j - (k + 1) = j by omega, show k + 1 + j - k = j + 1 by omega]
        simp
      · rw [if_neg (by omega), if_neg h]

/-- What stands in the slots that are handed back. -/
def resA (ts : List Nat) (e : Env) : AV :=
  match ts with
  | [t] => e.look t
  | ts => .tup (ts.map e.look)
/-- What a body's end is worth: m objects stay. -/
def ResQ (n : Nat) (ts : List Nat) (R : Out → List AO → Prop) : QA := fun ex e σ =>
  match ex with
  | .normal | .ret => e.D = [] ∧ ∃ m, n ≤ m ∧ closed m σ ∧ (resA ts e).lt m ∧ R (.ret (resA ts e)) (σ.take m)
  | .pan v => e.D = [] ∧ ∃ m, n ≤ m ∧ closed m σ ∧ v.lt m ∧ R (.pan v) (σ.take m)
  | _ => False

def resV (ts : List Nat) (tmps : Array Value) : Value :=
  match ts with
  | [t] => tmps.getD t undef
  | ts => .tuple (ts.map fun t => tmps.getD t undef).toArray
theorem resA_V {s : CS} {a : Act} (h : EnvOK s N e a) (ts : List Nat) : V s (resA ts e) (resV ts a.tmps) := by
  have hpw : ∀ ts : List Nat, PW s (ts.map e.look) (ts.map fun t => a.tmps.getD t undef) := fun ts => by
    induction ts with
    | nil => exact .nil
    | cons t r ih => exact .cons (h.tmps t) ih
  unfold resA resV
  split
  · exact h.tmps _
  · exact .tup _ _ (hpw ts).1 (hpw ts).2
/-- The function hands back what stands in these slots. -/
def ResT (P : Program) (fn : Func) (ts : List Nat) : Prop := ∀ (tmps : Array Value) (w : World), (results fn tmps).run P w = .ok (resV ts tmps) w
theorem res0 {fn : Func} (h : fn.results = #[]) : ResT P fn [] := fun tmps w => by simp [results, h, resV]
theorem res1 {fn : Func} {a : Nat} (h : fn.results = #[.tmp a]) : ResT P fn [a] := fun tmps w => by simp [results, h, resV]
theorem res2 {fn : Func} {a b : Nat} (h : fn.results = #[.tmp a, .tmp b]) : ResT P fn [a, b] := fun tmps w => by simp [results, h, resV]
theorem res3 {fn : Func} {a b c : Nat} (h : fn.results = #[.tmp a, .tmp b, .tmp c]) : ResT P fn [a, b, c] := fun tmps w => by simp [results, h, resV]
theorem res4 {fn : Func} {a b c d : Nat} (h : fn.results = #[.tmp a, .tmp b, .tmp c, .tmp d]) : ResT P fn [a, b, c, d] := fun tmps w => by simp [results, h, resV]

theorem ACalls_body {f : FuncId} {fn : Func} {c : Code} {args : List AV} {R : Out → List AO → Prop} {ts : List Nat} (hf : P.funcs[f]? = some fn) (hb : fn.body = some c) (hN : fn.ntmps = N) (hr : ResT P fn ts) (hl : args.length ≤ N)
    (h : closed σ.length σ → AV.ltL σ.length args → AWp P N c ⟨[], penv 0 args⟩ σ (ResQ σ.length ts R)) : ACalls P f args σ R := by
  intro s cargs hs g hp
  have hcl : closed σ.length σ := by rw [← hs]; exact g.closed
  have hal : AV.ltL σ.length args := by rw [← hs]; exact hp.ltL
  refine calls_of_wp hf hb ?_
  have henv : EnvOK s N ⟨[], penv 0 args⟩ { tmps := cargs.toArray ++ Array.replicate (fn.ntmps - cargs.toArray.size) undef, defers := [] } := by
    refine ⟨?_, trivial, fun t => ?_⟩
    · have := hp.1
      simp [hN]; omega
    · show V s (lookL (penv 0 args) t) _
      rw [penv_look]
      simp only [Nat.zero_le, if_true, Nat.sub_zero]
      cases ha : args[t]? with
      | none => exact .any _
      | some a =>
        obtain ⟨v, hv, hV⟩ := hp.get ha
        have hlt := (List.getElem?_eq_some_iff.1 hv).1
        have : (cargs.toArray ++ Array.replicate (fn.ntmps - cargs.toArray.size) undef).getD t undef = v := by
          rw [Array.getD_eq_getD_getElem?, Array.getElem?_append_left (by simpa using hlt)]
          simp [hv]
        simp only [Act.eval, this]
        exact hV
  refine wp_mono (h hcl hal s s _ hs g (Ext.refl s) henv) fun ex a w hpost => ?_
  obtain ⟨s', h1, h2, h3, e', h4, h5⟩ := hpost
  have hret : (e'.D = [] ∧ ∃ m, σ.length ≤ m ∧ closed m s'.σ ∧ (resA ts e').lt m ∧ R (.ret (resA ts e')) (s'.σ.take m)) → a.defers = [] ∧ ∃ v, (results fn a.tmps).run P w = .ok v w ∧ CPost s R (.returned v) w := fun ⟨k1, m, k2, k3, k4, k5⟩ => by
    have hD := h4.defers
    rw [k1] at hD
    have hd : a.defers = [] := by
      cases hd : a.defers with
      | nil => rfl
      | cons d r => rw [hd] at hD; exact hD.elim
    exact ⟨hd, _, hr a.tmps w, s'.cut m, h1, h2.cut k3, h3.cutm (by rw [hs]; exact k2), _, (resA_V h4 ts).cut k4, k5⟩
  cases ex with
  | normal => exact hret h5
  | ret => exact hret h5
  | exit id => exact h5.elim
  | goto l => exact h5.elim
  | outgrown => exact h5.elim
  | panic ch =>
    cases ch with
    | nil => exact h5.elim
    | cons en r =>
      cases r with
      | cons => exact h5.elim
      | nil =>
        obtain ⟨h6, v, h7, k1, m, k2, k3, k4, k5⟩ := h5
        have hD := h4.defers
        rw [k1] at hD
        have hd : a.defers = [] := by
          cases hd : a.defers with
          | nil => rfl
          | cons d r => rw [hd] at hD; exact hD.elim
        exact ⟨hd, s'.cut m, h1, h2.cut k3, h3.cutm (by rw [hs]; exact k2), h6, v, h7.cut k4, k5⟩
end calls
end Lg
