import Derived.Test.YtehjmhgedbfddaaDoorLg14
set_option linter.unusedVariables false
set_option linter.unusedSimpArgs false
set_option linter.unusedSectionVars false
namespace Lg
open Go Go.RowKit
variable [GLay]

/-! ### Regions whose order is drawn -/
/-- Must i be done ahead of j? -/
def befB (tb : Array Nat) (i j : Nat) : Bool := (tb.getD j 0).testBit i

/-- The slots that an operation looks at. -/
def readsOf (ops : Array Oper) (o : Oper) : List Nat :=
  (o.op.operands.toList.filterMap fun | .tmp t => some t | _ => none) ++
  (match o.guard with | some (j, _) => ((ops[j]?).bind (·.dst)).toList | none => [])

/-- The checks on a region's text. -/
def rchk (ops : Array Oper) (tb : Array Nat) : Bool :=
  (List.range ops.size).all fun i =>
    match ops[i]? with
    | none => true
    | some o =>
      (o.after.toList.all fun e => !Region.binds .any e || (Nat.blt e.on i && befB tb e.on i)) &&
      (List.range ops.size).all fun j =>
        match ops[j]? with
        | none => true
        | some p =>
          match p.dst with
          | none => true
          | some t =>
            Nat.beq i j ||
            ((!(readsOf ops o).contains t || (bif Nat.blt j i then befB tb j i else befB tb i j)) &&
             (!(o.dst == some t) || (bif Nat.blt j i then befB tb j i else befB tb i j)))

/-- Each bit of the table stands for a way of edges. -/
def tbOK (ops : Array Oper) (tb : Array Nat) : Bool :=
  (List.range ops.size).all fun j =>
    match ops[j]? with
    | none => true
    | some o => (List.range ops.size).all fun i => !befB tb i j || (o.after.toList.any fun e => Region.binds .any e && (Nat.beq e.on i || befB tb i e.on))

def PastOK (P : Program) (tb : Array Nat) (i : Nat) (e : Env) (o : Oper) (v : AV) : List (Nat × List AO) → Prop
  | [] => True
  | (j, σ) :: r => (befB tb j i = true ∨ AOp P σ e o v σ) ∧ PastOK P tb i e o v r
def HeldOK (tb : Array Nat) (i : Nat) (σ : List AO) : List (Nat × (List AO → Prop)) → Prop
  | [] => True
  | (k, p) :: r => (befB tb k i = true ∨ p σ) ∧ HeldOK tb i σ r
def ChainOK (tb : Array Nat) (i : Nat) : List (Nat × List AO) → Prop
  | [] => True
  | (j, _) :: r => befB tb j i = true ∧ ChainOK tb i r

/-- Does the guard let the operation run (t), or not? -/
def GuardA (ops : Array Oper) (N : Nat) (e : Env) (o : Oper) (t : Bool) : Prop :=
  match o.guard with
  | none => t = true
  | some (j, want) => ∃ d, (ops[j]?).bind (·.dst) = some d ∧ d < N ∧ (e.look d = .bool (if t = true then want else !want) ∨ (t = false ∧ e.look d = .tup []))

inductive RP (P : Program) (N : Nat) (ops : Array Oper) (tb : Array Nat) (Q : Env → List AO → Prop) (X : AV → List AO → Prop) : Nat → Env → List AO → List (Nat × List AO) → List (Nat × (List AO → Prop)) → Prop
  | nil {i e σ past held} (hi : i = ops.size) (h : Q e σ) : RP P N ops tb Q X i e σ past held
  | all {i e σ past held} (o : Oper) (v : AV) (ho : ops[i]? = some o) (hg : GuardA ops N e o true) (hd : ∀ d, o.dst = some d → d < N) (h : ∀ σ, AOp P σ e o v σ)
      (k : RP P N ops tb Q X (i + 1) (e.put o.dst v) σ past held) : RP P N ops tb Q X i e σ past held
  | pure {i e σ past held} (o : Oper) (v : AV) (ho : ops[i]? = some o) (hg : GuardA ops N e o true) (hd : ∀ d, o.dst = some d → d < N) (h : AOp P σ e o v σ) (hp : PastOK P tb i e o v past)
      (k : RP P N ops tb Q X (i + 1) (e.put o.dst v) σ past ((i, fun σ' => AOp P σ' e o v σ') :: held)) : RP P N ops tb Q X i e σ past held
  | eff {i e σ past held} (o : Oper) (v : AV) (σ' : List AO) (ho : ops[i]? = some o) (hg : GuardA ops N e o true) (hd : ∀ d, o.dst = some d → d < N) (h : AOp P σ e o v σ') (hh : HeldOK tb i σ' held) (hc : ChainOK tb i past)
      (k : RP P N ops tb Q X (i + 1) (e.put o.dst v) σ' ((i, σ) :: past) held) : RP P N ops tb Q X i e σ past held
  | skip {i e σ past held} (o : Oper) (ho : ops[i]? = some o) (hg : GuardA ops N e o false) (hd : ∀ d, o.dst = some d → d < N)
      (k : RP P N ops tb Q X (i + 1) (e.put o.dst (.tup [])) σ past held) : RP P N ops tb Q X i e σ past held
  | pan {i e σ past held} (o : Oper) (v : AV) (σ' : List AO) (ho : ops[i]? = some o) (hg : GuardA ops N e o true) (h : AOpR P σ e o (fun _ _ => False) (fun v' σ'' => v' = v ∧ σ'' = σ')) (hc : ChainOK tb i past)
      (hall : ((List.range ops.size).all fun j => Nat.ble j i || befB tb i j) = true) (hx : X v σ') : RP P N ops tb Q X i e σ past held

/-- One step of the plan. -/
inductive Kd | pure | eff | skip | pan
  deriving DecidableEq
structure Tr (P : Program) (N : Nat) (ops : Array Oper) (tb : Array Nat) (Q : Env → List AO → Prop) (X : AV → List AO → Prop) (i0 m : Nat) (E : Nat → Env) (H : Nat → List AO) (val : Nat → AV) (kd : Nat → Kd) : Prop where
  le : i0 ≤ m
  size : m ≤ ops.size
  step : ∀ i, i0 ≤ i → i < m → ∃ o, ops[i]? = some o ∧ (∀ d, o.dst = some d → d < N) ∧ E (i + 1) = (E i).put o.dst (val i) ∧ kd i ≠ .pan ∧
    (kd i = .pure → GuardA ops N (E i) o true ∧ AOp P (H i) (E i) o (val i) (H i) ∧ H (i + 1) = H i ∧
      (∀ j, i0 ≤ j → j < i → kd j = .eff → befB tb j i = true ∨ AOp P (H j) (E i) o (val i) (H j)) ∧
      (∀ j, i < j → j < m → kd j = .eff → befB tb i j = true ∨ AOp P (H (j + 1)) (E i) o (val i) (H (j + 1)))) ∧
    (kd i = .eff → GuardA ops N (E i) o true ∧ AOp P (H i) (E i) o (val i) (H (i + 1)) ∧ (∀ j, i0 ≤ j → j < i → kd j = .eff → befB tb j i = true)) ∧
    (kd i = .skip → GuardA ops N (E i) o false ∧ val i = .tup [] ∧ H (i + 1) = H i)
  fin : (m = ops.size ∧ Q (E m) (H m)) ∨ ∃ o v σ', ops[m]? = some o ∧ GuardA ops N (E m) o true ∧ AOpR P (H m) (E m) o (fun _ _ => False) (fun v' σ'' => v' = v ∧ σ'' = σ') ∧
    (∀ j, i0 ≤ j → j < m → kd j = .eff → befB tb j m = true) ∧ (∀ j, m < j → j < ops.size → befB tb m j = true) ∧ X v σ'

section rp
variable {P : Program} {N : Nat} {ops : Array Oper} {tb : Array Nat} {Q : Env → List AO → Prop} {X : AV → List AO → Prop}

theorem PastOK.mem {i : Nat} {e : Env} {o : Oper} {v : AV} : ∀ {past : List (Nat × List AO)}, PastOK P tb i e o v past → ∀ q ∈ past, befB tb q.1 i = true ∨ AOp P q.2 e o v q.2
  | [], _, q, h => by simp at h
  | (j, σ) :: r, ⟨h1, h2⟩, q, h => by
    rcases List.mem_cons.1 h with rfl | h
    · exact h1
    · exact PastOK.mem h2 q h
theorem HeldOK.mem {i : Nat} {σ : List AO} : ∀ {held : List (Nat × (List AO → Prop))}, HeldOK tb i σ held → ∀ q ∈ held, befB tb q.1 i = true ∨ q.2 σ
  | [], _, q, h => by simp at h
  | (j, p) :: r, ⟨h1, h2⟩, q, h => by
    rcases List.mem_cons.1 h with rfl | h
    · exact h1
    · exact HeldOK.mem h2 q h
theorem ChainOK.mem {i : Nat} : ∀ {past : List (Nat × List AO)}, ChainOK tb i past → ∀ q ∈ past, befB tb q.1 i = true
  | [], _, q, h => by simp at h
  | (j, σ) :: r, ⟨h1, h2⟩, q, h => by
    rcases List.mem_cons.1 h with rfl | h
    · exact h1
    · exact ChainOK.mem h2 q h

/-- The plan, laid out from i on; what went before is in past and held. -/
theorem RP.trace {i : Nat} {e : Env} {σ : List AO} {past : List (Nat × List AO)} {held : List (Nat × (List AO → Prop))} (h : RP P N ops tb Q X i e σ past held) (hi : i ≤ ops.size) :
    ∃ m E H val kd, E i = e ∧ H i = σ ∧ Tr P N ops tb Q X i m E H val kd ∧
      (∀ j, i ≤ j → j < m → kd j = .pure → ∀ q ∈ past, ∃ o, ops[j]? = some o ∧ (befB tb q.1 j = true ∨ AOp P q.2 (E j) o (val j) q.2)) ∧
      (∀ j, i ≤ j → j < m → kd j = .eff → (∀ q ∈ held, befB tb q.1 j = true ∨ q.2 (H (j + 1))) ∧ ∀ q ∈ past, befB tb q.1 j = true) ∧
      (m < ops.size → ∀ q ∈ past, befB tb q.1 m = true) := by
  induction h with
  | nil hi' h =>
    rename_i i e σ past held
    refine ⟨i, fun _ => e, fun _ => σ, fun _ => .any, fun _ => .pure, rfl, rfl, ⟨Nat.le_refl _, hi, fun j h1 h2 => by omega, .inl ⟨hi', h⟩⟩, fun j h1 h2 => by omega, fun j h1 h2 => by omega, fun h => by omega⟩
  | pan o v σ' ho hg h hc hall hx =>
    rename_i i e σ past held
    refine ⟨i, fun _ => e, fun _ => σ, fun _ => .any, fun _ => .pure, rfl, rfl, ⟨Nat.le_refl _, hi, fun j h1 h2 => by omega, .inr ⟨o, v, σ', ho, hg, h, fun j h1 h2 => by omega, fun j h1 h2 => ?_, hx⟩⟩, fun j h1 h2 => by omega, fun j h1 h2 => by omega, fun _ => hc.mem⟩
    have := List.all_eq_true.1 hall j (List.mem_range.2 h2)
    simp only [Bool.or_eq_true, Nat.ble_eq] at this
    exact this.resolve_left (by omega)
  | all o v ho hg hd h k ih =>
    rename_i i e σ past held
    have hlt : i < ops.size := (Array.getElem?_eq_some_iff.1 ho).1
    obtain ⟨m, E, H, val, kd, hE, hH, ht, h1, h2, h3⟩ := ih (by omega)
    refine ⟨m, fun j => if j = i then e else E j, fun j => if j = i then σ else H j, fun j => if j = i then v else val j, fun j => if j = i then .pure else kd j, if_pos rfl, if_pos rfl, ⟨by have := ht.le; omega, ht.size, fun j hj1 hj2 => ?_, ?_⟩, fun j hj1 hj2 hk q hq => ?_, fun j hj1 hj2 hk => ?_, h3⟩
    · by_cases hji : j = i
      · subst hji
        refine ⟨o, ho, hd, ?_, by simp, fun _ => ⟨by simpa using hg, by simpa using h σ, by simp [hH], fun j' h4 h5 => by omega, fun j' h4 h5 hk => .inr ?_⟩, fun hk => by simp at hk, fun hk => by simp at hk⟩
        · simp [hE]
        · simp only [if_true]; exact h _
      · obtain ⟨o', ho', hd', hE', hp', hpu, hef, hsk⟩ := ht.step j (by omega) hj2
        simp only [if_neg hji, if_neg (show j + 1 ≠ i by omega)]
        refine ⟨o', ho', hd', hE', hp', fun hk => ?_, fun hk => ?_, hsk⟩
        · obtain ⟨a1, a2, a3, a4, a5⟩ := hpu hk
          refine ⟨a1, a2, a3, fun j' h4 h5 hk' => ?_, fun j' h4 h5 hk' => ?_⟩
          · by_cases hj' : j' = i
            · subst hj'; simp at hk'
            · simp only [if_neg hj'] at hk' ⊢; exact a4 j' (by omega) h5 hk'
          · simp only [if_neg (show j' ≠ i by omega), if_neg (show j' + 1 ≠ i by omega)] at hk' ⊢; exact a5 j' h4 h5 hk'
        · obtain ⟨a1, a2, a3⟩ := hef hk
          refine ⟨a1, a2, fun j' h4 h5 hk' => ?_⟩
          by_cases hj' : j' = i
          · subst hj'; simp at hk'
          · simp only [if_neg hj'] at hk'; exact a3 j' (by omega) h5 hk'
    · have hmi : m ≠ i := by have := ht.le; omega
      simp only [if_neg hmi]
      rcases ht.fin with hf | ⟨o', v', σ'', f1, f2, f3, f4, f5, f6⟩
      · exact .inl hf
      · refine .inr ⟨o', v', σ'', f1, f2, f3, fun j h4 h5 hk => ?_, f5, f6⟩
        by_cases hj' : j = i
        · subst hj'; simp at hk
        · simp only [if_neg hj'] at hk; exact f4 j (by omega) h5 hk
    · by_cases hji : j = i
      · subst hji; exact ⟨o, ho, .inr (by simp only [if_true]; exact h _)⟩
      · simp only [if_neg hji] at hk ⊢; exact h1 j (by omega) hj2 hk q hq
    · by_cases hji : j = i
      · subst hji; simp at hk
      · simp only [if_neg hji, if_neg (show j + 1 ≠ i by omega)] at hk ⊢; exact h2 j (by omega) hj2 hk
  | pure o v ho hg hd h hp k ih =>
    rename_i i e σ past held
    have hlt : i < ops.size := (Array.getElem?_eq_some_iff.1 ho).1
    obtain ⟨m, E, H, val, kd, hE, hH, ht, h1, h2, h3⟩ := ih (by omega)
    refine ⟨m, fun j => if j = i then e else E j, fun j => if j = i then σ else H j, fun j => if j = i then v else val j, fun j => if j = i then .pure else kd j, if_pos rfl, if_pos rfl, ⟨by have := ht.le; omega, ht.size, fun j hj1 hj2 => ?_, ?_⟩, fun j hj1 hj2 hk q hq => ?_, fun j hj1 hj2 hk => ?_, h3⟩
    · by_cases hji : j = i
      · subst hji
        refine ⟨o, ho, hd, ?_, by simp, fun _ => ⟨by simpa using hg, by simpa using h, by simp [hH], fun j' h4 h5 => by omega, fun j' h4 h5 hk => ?_⟩, fun hk => by simp at hk, fun hk => by simp at hk⟩
        · simp [hE]
        · simp only [if_neg (show j' ≠ j by omega), if_neg (show j' + 1 ≠ j by omega)] at hk ⊢
          simp only [if_true]
          exact (h2 j' (by omega) h5 hk).1 (j, fun σ' => AOp P σ' e o v σ') (by simp)
      · obtain ⟨o', ho', hd', hE', hp', hpu, hef, hsk⟩ := ht.step j (by omega) hj2
        simp only [if_neg hji, if_neg (show j + 1 ≠ i by omega)]
        refine ⟨o', ho', hd', hE', hp', fun hk => ?_, fun hk => ?_, hsk⟩
        · obtain ⟨a1, a2, a3, a4, a5⟩ := hpu hk
          refine ⟨a1, a2, a3, fun j' h4 h5 hk' => ?_, fun j' h4 h5 hk' => ?_⟩
          · by_cases hj' : j' = i
            · subst hj'; simp at hk'
            · simp only [if_neg hj'] at hk' ⊢; exact a4 j' (by omega) h5 hk'
          · simp only [if_neg (show j' ≠ i by omega), if_neg (show j' + 1 ≠ i by omega)] at hk' ⊢; exact a5 j' h4 h5 hk'
        · obtain ⟨a1, a2, a3⟩ := hef hk
          refine ⟨a1, a2, fun j' h4 h5 hk' => ?_⟩
          by_cases hj' : j' = i
          · subst hj'; simp at hk'
          · simp only [if_neg hj'] at hk'; exact a3 j' (by omega) h5 hk'
    · have hmi : m ≠ i := by have := ht.le; omega
      simp only [if_neg hmi]
      rcases ht.fin with hf | ⟨o', v', σ'', f1, f2, f3, f4, f5, f6⟩
      · exact .inl hf
      · refine .inr ⟨o', v', σ'', f1, f2, f3, fun j h4 h5 hk => ?_, f5, f6⟩
        by_cases hj' : j = i
        · subst hj'; simp at hk
        · simp only [if_neg hj'] at hk; exact f4 j (by omega) h5 hk
    · by_cases hji : j = i
      · subst hji; exact ⟨o, ho, by simp only [if_true]; exact hp.mem q hq⟩
      · simp only [if_neg hji] at hk ⊢; exact h1 j (by omega) hj2 hk q hq
    · by_cases hji : j = i
      · subst hji; simp at hk
      · simp only [if_neg hji, if_neg (show j + 1 ≠ i by omega)] at hk ⊢
        obtain ⟨b1, b2⟩ := h2 j (by omega) hj2 hk
        exact ⟨fun q hq => b1 q (List.mem_cons_of_mem _ hq), b2⟩
  | eff o v σ' ho hg hd h hh hc k ih =>
    rename_i i e σ past held
    have hlt : i < ops.size := (Array.getElem?_eq_some_iff.1 ho).1
    obtain ⟨m, E, H, val, kd, hE, hH, ht, h1, h2, h3⟩ := ih (by omega)
    refine ⟨m, fun j => if j = i then e else E j, fun j => if j = i then σ else H j, fun j => if j = i then v else val j, fun j => if j = i then .eff else kd j, if_pos rfl, if_pos rfl, ⟨by have := ht.le; omega, ht.size, fun j hj1 hj2 => ?_, ?_⟩, fun j hj1 hj2 hk q hq => ?_, fun j hj1 hj2 hk => ?_, fun hm q hq => h3 hm q (List.mem_cons_of_mem _ hq)⟩
    · by_cases hji : j = i
      · subst hji
        refine ⟨o, ho, hd, ?_, by simp, fun hk => by simp at hk, fun _ => ⟨by simpa using hg, ?_, fun j' h4 h5 => by omega⟩, fun hk => by simp at hk⟩
        · simp [hE]
        · simp only [if_true, if_neg (show j + 1 ≠ j by omega), hH]; exact h
      · obtain ⟨o', ho', hd', hE', hp', hpu, hef, hsk⟩ := ht.step j (by omega) hj2
        simp only [if_neg hji, if_neg (show j + 1 ≠ i by omega)]
        refine ⟨o', ho', hd', hE', hp', fun hk => ?_, fun hk => ?_, hsk⟩
        · obtain ⟨a1, a2, a3, a4, a5⟩ := hpu hk
          refine ⟨a1, a2, a3, fun j' h4 h5 hk' => ?_, fun j' h4 h5 hk' => ?_⟩
          · by_cases hj' : j' = i
            · subst hj'
              simp only [if_true]
              obtain ⟨o2, ho2, hz⟩ := h1 j (by omega) hj2 hk (j', σ) (by simp)
              rw [ho'] at ho2; cases ho2
              exact hz
            · simp only [if_neg hj'] at hk' ⊢; exact a4 j' (by omega) h5 hk'
          · simp only [if_neg (show j' ≠ i by omega), if_neg (show j' + 1 ≠ i by omega)] at hk' ⊢; exact a5 j' h4 h5 hk'
        · obtain ⟨a1, a2, a3⟩ := hef hk
          refine ⟨a1, a2, fun j' h4 h5 hk' => ?_⟩
          by_cases hj' : j' = i
          · subst hj'; exact (h2 j (by omega) hj2 hk).2 (j', σ) (by simp)
          · simp only [if_neg hj'] at hk'; exact a3 j' (by omega) h5 hk'
    · have hmi : m ≠ i := by have := ht.le; omega
      simp only [if_neg hmi]
      rcases ht.fin with hf | ⟨o', v', σ'', f1, f2, f3, f4, f5, f6⟩
      · exact .inl hf
      · refine .inr ⟨o', v', σ'', f1, f2, f3, fun j h4 h5 hk => ?_, f5, f6⟩
        by_cases hj' : j = i
        · subst hj'; exact h3 (Array.getElem?_eq_some_iff.1 f1).1 (j, σ) (by simp)
        · simp only [if_neg hj'] at hk; exact f4 j (by omega) h5 hk
    · by_cases hji : j = i
      · subst hji; simp at hk
      · simp only [if_neg hji] at hk ⊢; exact h1 j (by omega) hj2 hk q (List.mem_cons_of_mem _ hq)
    · by_cases hji : j = i
      · subst hji
        simp only [if_neg (show j + 1 ≠ j by omega), hH]
        exact ⟨hh.mem, hc.mem⟩
      · simp only [if_neg hji, if_neg (show j + 1 ≠ i by omega)] at hk ⊢
        obtain ⟨b1, b2⟩ := h2 j (by omega) hj2 hk
        exact ⟨b1, fun q hq => b2 q (List.mem_cons_of_mem _ hq)⟩
  | skip o ho hg hd k ih =>
    rename_i i e σ past held
    have hlt : i < ops.size := (Array.getElem?_eq_some_iff.1 ho).1
    obtain ⟨m, E, H, val, kd, hE, hH, ht, h1, h2, h3⟩ := ih (by omega)
    refine ⟨m, fun j => if j = i then e else E j, fun j => if j = i then σ else H j, fun j => if j = i then .tup [] else val j, fun j => if j = i then .skip else kd j, if_pos rfl, if_pos rfl, ⟨by have := ht.le; omega, ht.size, fun j hj1 hj2 => ?_, ?_⟩, fun j hj1 hj2 hk q hq => ?_, fun j hj1 hj2 hk => ?_, h3⟩
    · by_cases hji : j = i
      · subst hji
        refine ⟨o, ho, hd, ?_, by simp, fun hk => by simp at hk, fun hk => by simp at hk, fun _ => ⟨by simpa using hg, by simp, by simp [hH]⟩⟩
        simp [hE]
      · obtain ⟨o', ho', hd', hE', hp', hpu, hef, hsk⟩ := ht.step j (by omega) hj2
        simp only [if_neg hji, if_neg (show j + 1 ≠ i by omega)]
        refine ⟨o', ho', hd', hE', hp', fun hk => ?_, fun hk => ?_, hsk⟩
        · obtain ⟨a1, a2, a3, a4, a5⟩ := hpu hk
          refine ⟨a1, a2, a3, fun j' h4 h5 hk' => ?_, fun j' h4 h5 hk' => ?_⟩
          · by_cases hj' : j' = i
            · subst hj'; simp at hk'
            · simp only [if_neg hj'] at hk' ⊢; exact a4 j' (by omega) h5 hk'
          · simp only [if_neg (show j' ≠ i by omega), if_neg (show j' + 1 ≠ i by omega)] at hk' ⊢; exact a5 j' h4 h5 hk'
        · obtain ⟨a1, a2, a3⟩ := hef hk
          refine ⟨a1, a2, fun j' h4 h5 hk' => ?_⟩
          by_cases hj' : j' = i
          · subst hj'; simp at hk'
          · simp only [if_neg hj'] at hk'; exact a3 j' (by omega) h5 hk'
    · have hmi : m ≠ i := by have := ht.le; omega
      simp only [if_neg hmi]
      rcases ht.fin with hf | ⟨o', v', σ'', f1, f2, f3, f4, f5, f6⟩
      · exact .inl hf
      · refine .inr ⟨o', v', σ'', f1, f2, f3, fun j h4 h5 hk => ?_, f5, f6⟩
        by_cases hj' : j = i
        · subst hj'; simp at hk
        · simp only [if_neg hj'] at hk; exact f4 j (by omega) h5 hk
    · by_cases hji : j = i
      · subst hji; simp at hk
      · simp only [if_neg hji] at hk ⊢; exact h1 j (by omega) hj2 hk q hq
    · by_cases hji : j = i
      · subst hji; simp at hk
      · simp only [if_neg hji, if_neg (show j + 1 ≠ i by omega)] at hk ⊢; exact h2 j (by omega) hj2 hk
end rp
end Lg
