import Derived.Test.YtehjmhgedbfddaaDoorLg19
import Derived.ChangeKeysEq
set_option linter.unusedVariables false
set_option linter.unusedSimpArgs false
set_option linter.unusedSectionVars false
namespace Lg
open Go Go.RowKit
variable [GLay]

variable {P : Program} {N : Nat} {σ : List AO} {e : Env} {Q : QA} {ops : Array Oper} {o : Oper}

/-! ### Parting at a bool -/
section split
variable {D : List (FuncId × List AV)} {l : List (Nat × AV)} {b : Bool}
theorem bool_split {G : Prop} (b : Bool) (kt : b = true → G) (kf : b = false → G) : G := by
  cases b
  · exact kf rfl
  · exact kt rfl
theorem AOps_split {rest : List Oper} (d : Nat) (hb : lookO l d = some (.bool b)) (kt : b = true → AOps P N ops rest ⟨D, l⟩ σ Q) (kf : b = false → AOps P N ops rest ⟨D, l⟩ σ Q) : AOps P N ops rest ⟨D, l⟩ σ Q := bool_split b kt kf
theorem AWp_split {c : Code} (d : Nat) (hb : lookO l d = some (.bool b)) (kt : b = true → AWp P N c ⟨D, l⟩ σ Q) (kf : b = false → AWp P N c ⟨D, l⟩ σ Q) : AWp P N c ⟨D, l⟩ σ Q := bool_split b kt kf
theorem RP_split {tb : Array Nat} {QR : Env → List AO → Prop} {X : AV → List AO → Prop} {i : Nat} {past : List (Nat × List AO)} {held : List (Nat × (List AO → Prop))} (d : Nat) (hb : lookO l d = some (.bool b))
    (kt : b = true → RP P N ops tb QR X i ⟨D, l⟩ σ past held) (kf : b = false → RP P N ops tb QR X i ⟨D, l⟩ σ past held) : RP P N ops tb QR X i ⟨D, l⟩ σ past held := bool_split b kt kf
theorem AWp_condT {x : Operand} {c d : Code} (hb : opO e x = some (.bool true)) (h : AWp P N c e σ Q) : AWp P N (.cond x c d) e σ Q := AWp_cond (opO_eq hb) (fun _ => h) (fun h => by cases h)
theorem AWp_condF {x : Operand} {c d : Code} (hb : opO e x = some (.bool false)) (h : AWp P N d e σ Q) : AWp P N (.cond x c d) e σ Q := AWp_cond (opO_eq hb) (fun h => by cases h) (fun _ => h)
end split

/-! ### Joining ways -/
theorem AWp_join {ι : Type} {c d : Code} (I : ι → Prop) (E : ι → Env) (S : ι → List AO) (hc : AWp P N c e σ fun ex e' σ' => match ex with
      | .normal => ∃ i, I i ∧ Sub e' (E i) ∧ σ' = S i
      | ex => Q ex e' σ') (hd : ∀ i, I i → AWp P N d (E i) (S i) Q) : AWp P N (.seq c d) e σ Q :=
  AWp_seq (hc.mono fun ex e' σ' h => by
    cases ex with
    | normal => obtain ⟨i, h1, h2, h3⟩ := h; subst h3; exact AWp_sub _ h2 (hd i h1)
    | exit id => exact h
    | ret => exact h
    | pan v => exact h)
theorem AWp_joinB {ι : Type} {id : Nat} {c d : Code} (I : ι → Prop) (E : ι → Env) (S : ι → List AO) (hc : AWp P N c e σ (blockQ id fun ex e' σ' => match ex with
      | .normal => ∃ i, I i ∧ Sub e' (E i) ∧ σ' = S i
      | ex => Q ex e' σ')) (hd : ∀ i, I i → AWp P N d (E i) (S i) Q) : AWp P N (.seq (.block id c) d) e σ Q :=
  AWp_join I E S (AWp_block hc) hd

/-! ### What is as good -/
/-- What is the one is the other, too. -/
def AVle (a b : AV) : Prop := ∀ (s : CS) (v : Value), V s a v → V s b v
theorem AVle.refl (a : AV) : AVle a a := fun _ _ h => h
theorem AVle.trans {a b c : AV} (h : AVle a b) (k : AVle b c) : AVle a c := fun s v x => k s v (h s v x)
theorem AVle.nils (f : Bool) (sz : Nat) : AVle .nils (.sl f sz []) := fun s v h => by rw [h.inv_nils]; exact .sl0 f sz none
theorem AVle.any (a : AV) : AVle a .any := fun _ v _ => .any v
theorem AVle.full (sz : Nat) (es : List (List AV)) : AVle (.sl true sz es) (.sl false sz es) := fun s v h => by
  cases h with
  | sl _ _ _ b off cap vs hok hsz hl hc hv hcap hf => exact .sl false sz es b off cap vs hok hsz hl hc hv hcap (by simp)
  | sl0 _ _ ad => exact .sl0 false sz ad
def AVleL : List AV → List AV → Prop
  | [], [] => True
  | a :: l, b :: r => AVle a b ∧ AVleL l r
  | _, _ => False
theorem AVleL.refl : ∀ l : List AV, AVleL l l
  | [] => trivial
  | a :: l => ⟨AVle.refl a, AVleL.refl l⟩
theorem AVleL.len : ∀ {l r : List AV}, AVleL l r → l.length = r.length
  | [], [], _ => rfl
  | _ :: _, _ :: _, h => by simp [h.2.len]
  | [], _ :: _, h => h.elim
  | _ :: _, [], h => h.elim
theorem AVleL.get : ∀ {l r : List AV}, AVleL l r → ∀ {i : Nat} {a b : AV}, l[i]? = some a → r[i]? = some b → AVle a b
  | [], [], _, i, a, b, h, _ => by simp at h
  | x :: l, y :: r, hh, i, a, b, h, k => by
    cases i with
    | zero => simp at h k; subst h; subst k; exact hh.1
    | succ i => simp at h k; exact hh.2.get h k
  | [], _ :: _, h, _, _, _, _, _ => h.elim
  | _ :: _, [], h, _, _, _, _, _ => h.elim
theorem AVleL.pw {l r : List AV} (h : AVleL l r) {s : CS} {vs : List Value} (k : PW s l vs) : PW s r vs :=
  ⟨k.1.trans h.len, fun i c v h1 h2 => by
    have hi : i < l.length := by rw [h.len]; exact (List.getElem?_eq_some_iff.1 h1).1
    exact h.get (List.getElem?_eq_getElem hi) h1 s v (k.2 i _ v (List.getElem?_eq_getElem hi) h2)⟩
theorem AVle.agg {l r : List AV} (h : AVleL l r) : AVle (.agg l) (.agg r) := fun s v x => by
  obtain ⟨vs, rfl, hp⟩ := x.inv_agg
  have := h.pw hp
  exact .agg _ vs this.1 this.2
theorem AVle.tup {l r : List AV} (h : AVleL l r) : AVle (.tup l) (.tup r) := fun s v x => by
  obtain ⟨vs, rfl, hp⟩ := x.inv_tup
  have := h.pw hp
  exact .tup _ vs this.1 this.2
/-- A slice whose elements are as good. -/
theorem AVle.sl {f : Bool} {sz : Nat} {es es' : List (List AV)} (h : AVleL es.flatten es'.flatten) (hl : es.length = es'.length) (hs : ∀ r ∈ es', r.length = sz) : AVle (.sl f sz es) (.sl f sz es') := fun s v x => by
  cases x with
  | sl _ _ _ b off cap vs hok hsz hl' hc hv hcap hf =>
    have hp := h.pw (vs := vs) (s := s) ⟨hl', hv⟩
    rw [hl]
    refine .sl f sz es' b off cap vs ?_ hs hp.1 hc hp.2 (by omega) (fun h => by rw [hf h, hl])
    rcases hok with rfl | hok
    · left; cases es' with
      | nil => rfl
      | cons => simp at hl
    · exact .inr hok
  | sl0 _ _ ad =>
    cases es' with
    | nil => exact .sl0 f sz ad
    | cons => simp at hl
theorem ACalls.conv {f : FuncId} {args args' : List AV} {R : Out → List AO → Prop} (h : AVleL args args') (k : ACalls P f args' σ R) : ACalls P f args σ R := fun s cargs hs g hp => k s cargs hs g (h.pw hp)
/-- A slot's content taken for another. -/
theorem AOps_conv {D : List (FuncId × List AV)} {l : List (Nat × AV)} {rest : List Oper} {a : AV} (d : Nat) (b : AV) (hl : lookO l d = some a) (h : AVle a b) (k : AOps P N ops rest ⟨D, (d, b) :: l⟩ σ Q) : AOps P N ops rest ⟨D, l⟩ σ Q := fun s0 s ac hs g x he =>
  k s0 s ac hs g x ⟨he.size, he.defers, fun t => by
    have h0 := he.tmps t
    simp only [Env.look, lookL] at h0 ⊢
    by_cases ht : d = t
    · subst ht
      have : Nat.beq d d = true := Nat.beq_refl d
      simp only [this, cond_true]
      rw [lookO_eq hl] at h0
      exact h _ _ h0
    · have : Nat.beq d t = false := by
        cases hb : Nat.beq d t with
        | false => rfl
        | true => exact absurd (Nat.eq_of_beq_eq_true hb) ht
      simp only [this, cond_false]
      exact h0⟩
theorem AWp_conv {D : List (FuncId × List AV)} {l : List (Nat × AV)} {c : Code} {a : AV} (d : Nat) (b : AV) (hl : lookO l d = some a) (h : AVle a b) (k : AWp P N c ⟨D, (d, b) :: l⟩ σ Q) : AWp P N c ⟨D, l⟩ σ Q := fun s0 s ac hs g x he =>
  k s0 s ac hs g x ⟨he.size, he.defers, fun t => by
    have h0 := he.tmps t
    simp only [Env.look, lookL] at h0 ⊢
    by_cases ht : d = t
    · subst ht
      have : Nat.beq d d = true := Nat.beq_refl d
      simp only [this, cond_true]
      rw [lookO_eq hl] at h0
      exact h _ _ h0
    · have : Nat.beq d t = false := by
        cases hb : Nat.beq d t with
        | false => rfl
        | true => exact absurd (Nat.eq_of_beq_eq_true hb) ht
      simp only [this, cond_false]
      exact h0⟩

/-! ### More operations -/
def notNil : AV → Bool
  | .ptr _ _ | .pp _ => true
  | _ => false
theorem op_nilCheck {x : Operand} {v : AV} (ho : o.op = .nilCheck x) (hx : opO e x = some v) (hn : notNil v = true) : AOp P σ e o v σ :=
  .of_run fun s a hs _ hv => by
    have h1 := (opO_eq hx) ▸ hv x (by simp [ho, Op.operands])
    refine ⟨a.eval x, ?_, h1⟩
    cases v with
    | ptr p off => have h2 := h1.inv_ptr; simp [execOp, ho, h2]
    | pp cs => obtain ⟨b, off, vs, h2, _⟩ := h1.inv_pp; simp [execOp, ho, h2]
    | _ => cases hn
theorem op_convInt {S T : TypeId} {x : Operand} {k k' : IntKind} {n : Int} (ho : o.op = .convert S T x) (hs : (P.underlying S).isSome = true) (hd : P.underlying T = some (.int k')) (hx : opv e x = .int k n) : AOp P σ e o (.int k' (k'.wrap n)) σ :=
  .of_run fun s a _ _ hv => by
    have h1 := (hx ▸ hv x (by simp [ho, Op.operands])).inv_int
    obtain ⟨d, hd'⟩ := Option.isSome_iff_exists.mp hs
    exact ⟨_, by simp [execOp, ho, h1, convert, run_underlying hd', run_underlying hd, Conv.intToInt], .int _ _⟩
theorem op_convIn {S T : TypeId} {x : Operand} {k k' : IntKind} {n : Int} (ho : o.op = .convert S T x) (hs : (P.underlying S).isSome = true) (hd : P.underlying T = some (.int k')) (hx : opv e x = .int k n) (hn : k'.wrap n = n) : AOp P σ e o (.int k' n) σ := by
  have := op_convInt (P := P) (σ := σ) ho hs hd hx; rwa [hn] at this
theorem op_convStr {S T : TypeId} {x : Operand} {a : ByteArray} (ho : o.op = .convert S T x) (hs : P.underlying S = some .string) (hd : P.underlying T = some .string) (hx : opv e x = .str a) : AOp P σ e o (.str a) σ :=
  .of_run fun s ac _ _ hv => by
    have h1 := (hx ▸ hv x (by simp [ho, Op.operands])).inv_str
    exact ⟨_, by simp [execOp, ho, h1, convert, run_underlying hs, run_underlying hd], .str _⟩
theorem op_max2 {T : Array TypeId} {x y : Operand} {k : IntKind} {a b : Int} (ho : o.op = .call { callee := .builtin .max, args := #[x, y], argTypes := T }) (hx : opv e x = .int k a) (hy : opv e y = .int k b) : AOp P σ e o (.int k (max a b)) σ :=
  .of_run fun s ac _ _ hv => by
    have h1 := (hx ▸ hv x (by simp [ho, Op.operands, Call.operands])).inv_int
    have h2 := (hy ▸ hv y (by simp [ho, Op.operands, Call.operands])).inv_int
    refine ⟨.int k (if b > a then b else a), by simp [execOp, ho, resolve, invoke, builtin, h1, h2, Builtin.max_, Builtin.max2], ?_⟩
    have : max a b = if b > a then b else a := by
      split <;> omega
    rw [this]; exact .int _ _
theorem op_min2 {T : Array TypeId} {x y : Operand} {k : IntKind} {a b : Int} (ho : o.op = .call { callee := .builtin .min, args := #[x, y], argTypes := T }) (hx : opv e x = .int k a) (hy : opv e y = .int k b) : AOp P σ e o (.int k (min a b)) σ :=
  .of_run fun s ac _ _ hv => by
    have h1 := (hx ▸ hv x (by simp [ho, Op.operands, Call.operands])).inv_int
    have h2 := (hy ▸ hv y (by simp [ho, Op.operands, Call.operands])).inv_int
    refine ⟨.int k (if b < a then b else a), by simp [execOp, ho, resolve, invoke, builtin, h1, h2, Builtin.min_, Builtin.min2], ?_⟩
    have : min a b = if b < a then b else a := by
      split <;> omega
    rw [this]; exact .int _ _
theorem op_quo64 {T T' : TypeId} {x y : Operand} {a b : Int} (ho : o.op = .binOp .quo T x y T') (hx : opv e x = .int .i64 a) (hy : opv e y = .int .i64 b) (h1 : 0 ≤ a) (h2 : 0 < b) (h3 : a ≤ 9223372036854775807) : AOp P σ e o (.int .i64 (a / b)) σ := by
  have hw : IntKind.i64.wrap (a.tdiv b) = a / b := by
    rw [Int.tdiv_eq_ediv_of_nonneg h1]
    have := Int.ediv_nonneg h1 (Int.le_of_lt h2)
    have := Int.ediv_le_self b h1
    exact wrap64_in (by omega) (by omega)
  exact op_int ho hx hy (cv := .int .i64 (a / b)) (fun w => by
    have : ¬ b = 0 := by omega
    simp [binOp, Op.intDiv, this, hw]) (fun _ => .int _ _)
theorem op_rem64 {T T' : TypeId} {x y : Operand} {k : IntKind} {a b : Int} (ho : o.op = .binOp .rem T x y T') (hx : opv e x = .int k a) (hy : opv e y = .int k b) (h1 : 0 ≤ a) (h2 : 0 < b) : AOp P σ e o (.int k (a % b)) σ := by
  have hw : a.tmod b = a % b := Int.tmod_eq_emod_of_nonneg h1
  exact op_int ho hx hy (cv := .int k (a % b)) (fun w => by
    have : ¬ b = 0 := by omega
    simp [binOp, Op.intDiv, this, hw]) (fun _ => .int _ _)
theorem op_remT {T T' : TypeId} {x y : Operand} {k : IntKind} {a b : Int} (ho : o.op = .binOp .rem T x y T') (hx : opv e x = .int k a) (hy : opv e y = .int k b) (h2 : b ≠ 0) : AOp P σ e o (.int k (a.tmod b)) σ :=
  op_int ho hx hy (cv := .int k (a.tmod b)) (fun w => by simp [binOp, Op.intDiv, h2]) (fun _ => .int _ _)

/-! ### Structs side by side -/
inductive FEq (P : Program) : Nat → List Field → List AV → List AV → Bool → Prop
  | nil (k) : FEq P k [] [] [] true
  | str (k f fs a b cs ds r) (hn : f.name ≠ "_") (ho : f.offset = k) (hu : P.underlying f.type = some .string) (h : FEq P (k + 1) fs cs ds r) : FEq P k (f :: fs) (.str a :: cs) (.str b :: ds) (decide (a = b) && r)
  | int (k f fs K K' a b cs ds r) (hn : f.name ≠ "_") (ho : f.offset = k) (hu : P.underlying f.type = some (.int K')) (h : FEq P (k + 1) fs cs ds r) : FEq P k (f :: fs) (.int K a :: cs) (.int K b :: ds) (decide (a = b) && r)
  | bool (k f fs) (a b : Bool) (cs ds r) (hn : f.name ≠ "_") (ho : f.offset = k) (hu : P.underlying f.type = some .bool) (h : FEq P (k + 1) fs cs ds r) : FEq P k (f :: fs) (.bool a :: cs) (.bool b :: ds) (decide (a = b) && r)
theorem FEq.run {k : Nat} {fs : List Field} {cs ds : List AV} {r : Bool} (h : FEq P k fs cs ds r) (d : Nat) (s : CS) (pc pd : List AV) (xs ys : List Value) (hc : PW s (pc ++ cs) xs) (hd : PW s (pd ++ ds) ys) (lc : pc.length = k) (ld : pd.length = k) :
    (Op.eqFields (d + 1) xs.toArray ys.toArray fs).run P s.w = .ok r s.w := by
  have hpart : ∀ {t : TypeId} {off : Nat} {l : List Value} {v : Value} {dd : TypeDesc}, P.underlying t = some dd → (match dd with | .string | .int _ | .bool => True | _ => False) → l[off]? = some v → (part t l.toArray off).run P s.w = .ok v s.w := fun {t off l v dd} hu hdd hl => by
    have hl' : l.toArray[off]? = some v := by simpa using hl
    cases dd <;> first | exact hdd.elim | simp [part, isAgg, run_underlying hu, hl']
  have hcell : ∀ {p : List AV} {c : AV} {q : List AV} {l : List Value}, PW s (p ++ c :: q) l → ∃ v, l[p.length]? = some v ∧ V s c v := fun {p c q l} hp => by
    obtain ⟨v, h1, h2⟩ := hp.get (i := p.length) (c := c) (by simp)
    exact ⟨v, h1, h2⟩
  induction h generalizing pc pd with
  | nil k => simp [Op.eqFields]
  | str k f fs a b cs ds r hn ho hu h ih =>
    obtain ⟨v, h1, h2⟩ := hcell hc
    obtain ⟨u, h3, h4⟩ := hcell hd
    rw [lc] at h1; rw [ld] at h3
    have ih' := ih (pc ++ [.str a]) (pd ++ [.str b]) (by simpa using hc) (by simpa using hd) (by simp [lc]) (by simp [ld])
    have e1 := h2.inv_str; have e2 := h4.inv_str
    subst e1; subst e2
    simp only [Op.eqFields, hn, ne_eq, not_false_eq_true, if_true, Sem.run_bind, ho, hpart hu trivial h1, hpart hu trivial h3, Result.andThen_ok, run_equalIn_string s.w d f.type a b hu]
    have hab : (a.toList == b.toList) = decide (a = b) := ba_beq a b
    rw [hab]
    by_cases hab' : a = b
    · simp [hab', ih']
    · simp [hab']
  | int k f fs K K' a b cs ds r hn ho hu h ih =>
    obtain ⟨v, h1, h2⟩ := hcell hc
    obtain ⟨u, h3, h4⟩ := hcell hd
    rw [lc] at h1; rw [ld] at h3
    have ih' := ih (pc ++ [.int K a]) (pd ++ [.int K b]) (by simpa using hc) (by simpa using hd) (by simp [lc]) (by simp [ld])
    have e1 := h2.inv_int; have e2 := h4.inv_int
    subst e1; subst e2
    simp only [Op.eqFields, hn, ne_eq, not_false_eq_true, if_true, Sem.run_bind, ho, hpart hu trivial h1, hpart hu trivial h3, Result.andThen_ok, run_equalIn_int s.w d f.type K K' a b hu]
    by_cases hab' : a = b
    · simp [hab', ih']
    · simp [hab']
  | bool k f fs a b cs ds r hn ho hu h ih =>
    obtain ⟨v, h1, h2⟩ := hcell hc
    obtain ⟨u, h3, h4⟩ := hcell hd
    rw [lc] at h1; rw [ld] at h3
    have ih' := ih (pc ++ [.bool a]) (pd ++ [.bool b]) (by simpa using hc) (by simpa using hd) (by simp [lc]) (by simp [ld])
    have e1 := h2.inv_bool; have e2 := h4.inv_bool
    subst e1; subst e2
    simp only [Op.eqFields, hn, ne_eq, not_false_eq_true, if_true, Sem.run_bind, ho, hpart hu trivial h1, hpart hu trivial h3, Result.andThen_ok, run_equalIn_bool s.w d f.type a b hu]
    by_cases hab' : a = b
    · simp [hab', ih']
    · simp [hab']
theorem op_eqS {T T' : TypeId} {x y : Operand} {fs : Array Field} {cs ds : List AV} {r : Bool} (ho : o.op = .binOp .eql T x y T') (hu : P.underlying T = some (.struct fs)) (hp : P.stoodInHeld T = false) (hm : P.eqGuardType P.depth T = false)
    (h : FEq P 0 fs.toList cs ds r) (hx : opv e x = .agg cs) (hy : opv e y = .agg ds) : AOp P σ e o (.bool r) σ :=
  op_bin ho hx hy fun s cx cy _ _ h1 h2 => by
    obtain ⟨xs, rfl, hxs⟩ := h1.inv_agg
    obtain ⟨ys, rfl, hys⟩ := h2.inv_agg
    have hf : P.fieldsOf T = fs := by simp [Program.fieldsOf, hu]
    refine ⟨.bool r, ?_, .bool _, run_eqGuard_agg s.w _ T x y _ _ hm⟩
    rw [run_eql_struct s.w T, run_equalIn_struct s.w 9999 T _ _ (by rw [hf, hu]) hp, hf, h.run 9998 s [] [] xs ys hxs hys rfl rfl]
    rfl
theorem op_neS {T T' : TypeId} {x y : Operand} {fs : Array Field} {cs ds : List AV} {r : Bool} (ho : o.op = .binOp .neq T x y T') (hu : P.underlying T = some (.struct fs)) (hp : P.stoodInHeld T = false) (hm : P.eqGuardType P.depth T = false)
    (h : FEq P 0 fs.toList cs ds r) (hx : opv e x = .agg cs) (hy : opv e y = .agg ds) : AOp P σ e o (.bool (!r)) σ :=
  op_bin ho hx hy fun s cx cy _ _ h1 h2 => by
    obtain ⟨xs, rfl, hxs⟩ := h1.inv_agg
    obtain ⟨ys, rfl, hys⟩ := h2.inv_agg
    have hf : P.fieldsOf T = fs := by simp [Program.fieldsOf, hu]
    refine ⟨.bool (!r), ?_, .bool _, run_eqGuard_agg s.w _ T x y _ _ hm⟩
    rw [run_neq_struct s.w T, run_equalIn_struct s.w 9999 T _ _ (by rw [hf, hu]) hp, hf, h.run 9998 s [] [] xs ys hxs hys rfl rfl]
    rfl
end Lg
