import Derived.Test.YtehjmhgedbfddaaDoorLg17
set_option linter.unusedVariables false
set_option linter.unusedSimpArgs false
set_option linter.unusedSectionVars false
namespace Lg
open Go Go.RowKit
variable [GLay]

/-! ### Steps by sight: what a printed text calls -/
section steps
variable {P : Program} {N : Nat} {e : Env} {σ : List AO} {Q : QA} {ops : Array Oper} {o : Oper}

def dOK : Option Nat → Nat → Bool
  | none, _ => true
  | some d, N => Nat.blt d N
theorem dOK_lt {d : Option Nat} {N : Nat} (h : dOK d N = true) : ∀ t, d = some t → t < N := fun t e => by
  subst e; simpa [dOK, Nat.blt_eq] using h
/-- What an operand is, with its head in sight. -/
def lookO : List (Nat × AV) → Nat → Option AV
  | [], _ => none
  | (k, v) :: r, t => bif Nat.beq k t then some v else lookO r t
theorem lookO_eq : ∀ {l : List (Nat × AV)} {t : Nat} {v : AV}, lookO l t = some v → lookL l t = v
  | [], t, v, h => by cases h
  | (k, u) :: r, t, v, h => by
    simp only [lookO, lookL] at h ⊢
    cases hb : Nat.beq k t with
    | true => rw [hb] at h; simpa using h
    | false => rw [hb] at h; simpa using lookO_eq h
def opO (e : Env) : Operand → Option AV
  | .tmp t => lookO e.l t
  | .const (.int k n) => some (.int k n)
  | .const (.bool b) => some (.bool b)
  | .const (.string s) => some (.str s)
  | .const (.pointer none) => some .nilp
  | .const (.slice none 0 0) => some .nils
  | .const .nilIface => some .nili
  | .const .nilFunc => some .nilf
  | .const (.map none) => some .nilm
  | .const (.agg cs) => some (.agg (cs.toList.map ofConst1))
  | .func f => some (.func (.func f) [] [])
  | _ => none
theorem opO_eq {e : Env} {x : Operand} {v : AV} (h : opO e x = some v) : opv e x = v := by
  unfold opO at h
  split at h
  · exact lookO_eq h
  all_goals first | (cases h; rfl) | cases h
section
variable {D : List (FuncId × List AV)} {l : List (Nat × AV)}
theorem st {rest : List Oper} {v : AV} {σ' : List AO} {d : Nat} (hg : o.guard = none) (hd : o.dst = some d) (hN : Nat.blt d N = true) (h : AOp P σ ⟨D, l⟩ o v σ') (k : AOps P N ops rest ⟨D, (d, v) :: l⟩ σ' Q) : AOps P N ops (o :: rest) ⟨D, l⟩ σ Q :=
  AOps_cons hg (fun t ht => by rw [hd] at ht; cases ht; rwa [Nat.blt_eq] at hN) h (by rw [hd]; exact k)
theorem stN {rest : List Oper} {v : AV} {σ' : List AO} (hg : o.guard = none) (hd : o.dst = none) (h : AOp P σ e o v σ') (k : AOps P N ops rest e σ' Q) : AOps P N ops (o :: rest) e σ Q :=
  AOps_cons hg (fun t ht => by rw [hd] at ht; cases ht) h (by rw [hd]; exact k)
theorem stR {rest : List Oper} {Nn X : AV → List AO → Prop} {d : Nat} (hg : o.guard = none) (hd : o.dst = some d) (hN : Nat.blt d N = true) (h : AOpR P σ ⟨D, l⟩ o Nn X)
    (k : ∀ v σ', Nn v σ' → AOps P N ops rest ⟨D, (d, v) :: l⟩ σ' Q) (kx : ∀ v σ', X v σ' → Q (.pan v) ⟨D, l⟩ σ') : AOps P N ops (o :: rest) ⟨D, l⟩ σ Q :=
  AOps_consR hg (fun t ht => by rw [hd] at ht; cases ht; rwa [Nat.blt_eq] at hN) h (fun v σ' hn => by rw [hd]; exact k v σ' hn) kx
theorem stG {rest : List Oper} {v : AV} {σ' : List AO} {j d t : Nat} {want : Bool} (hg : o.guard = some (j, want)) (hj : (ops[j]?).bind (·.dst) = some d) (hdN : Nat.blt d N = true) (hb : lookO l d = some (.bool want)) (hd : o.dst = some t) (hN : Nat.blt t N = true)
    (h : AOp P σ ⟨D, l⟩ o v σ') (k : AOps P N ops rest ⟨D, (t, v) :: l⟩ σ' Q) : AOps P N ops (o :: rest) ⟨D, l⟩ σ Q :=
  AOps_consG hg hj (by rwa [Nat.blt_eq] at hdN) (lookO_eq hb) (fun t ht => by rw [hd] at ht; cases ht; rwa [Nat.blt_eq] at hN) h (by rw [hd]; exact k)
theorem stS {rest : List Oper} {j d t : Nat} {want : Bool} (hg : o.guard = some (j, want)) (hj : (ops[j]?).bind (·.dst) = some d) (hdN : Nat.blt d N = true) (hb : lookO l d = some (.bool (!want)) ∨ lookO l d = some (.tup [])) (hd : o.dst = some t) (hN : Nat.blt t N = true)
    (k : AOps P N ops rest ⟨D, (t, .tup []) :: l⟩ σ Q) : AOps P N ops (o :: rest) ⟨D, l⟩ σ Q :=
  AOps_consS hg hj (by rwa [Nat.blt_eq] at hdN) (hb.imp lookO_eq lookO_eq) (fun t ht => by rw [hd] at ht; cases ht; rwa [Nat.blt_eq] at hN) (by rw [hd]; exact k)
/-- The same in a region whose order is drawn. -/
theorem GuardA_none {t : Bool} (hg : o.guard = none) (h : t = true) : GuardA ops N e o t := by unfold GuardA; rw [hg]; exact h
theorem GuardA_some {t : Bool} {j d : Nat} {want : Bool} (hg : o.guard = some (j, want)) (hj : (ops[j]?).bind (·.dst) = some d) (hdN : Nat.blt d N = true) (hb : lookO e.l d = some (.bool (if t = true then want else !want))) : GuardA ops N e o t := by
  unfold GuardA; rw [hg]; exact ⟨d, hj, by rwa [Nat.blt_eq] at hdN, .inl (lookO_eq hb)⟩
theorem GuardA_skip {j d : Nat} {want : Bool} (hg : o.guard = some (j, want)) (hj : (ops[j]?).bind (·.dst) = some d) (hdN : Nat.blt d N = true) (hb : lookO e.l d = some (.bool (!want)) ∨ lookO e.l d = some (.tup [])) : GuardA ops N e o false := by
  unfold GuardA; rw [hg]; exact ⟨d, hj, by rwa [Nat.blt_eq] at hdN, hb.imp (fun h => by rw [if_neg (by decide)]; exact lookO_eq h) fun h => ⟨rfl, lookO_eq h⟩⟩
variable {tb : Array Nat} {QR : Env → List AO → Prop} {X : AV → List AO → Prop} {i : Nat} {past : List (Nat × List AO)} {held : List (Nat × (List AO → Prop))}
theorem rA {v : AV} {d : Nat} (ho : ops[i]? = some o) (hg : o.guard = none) (hd : o.dst = some d) (hN : Nat.blt d N = true) (h : ∀ σ, AOp P σ ⟨D, l⟩ o v σ) (k : RP P N ops tb QR X (i + 1) ⟨D, (d, v) :: l⟩ σ past held) : RP P N ops tb QR X i ⟨D, l⟩ σ past held :=
  .all o v ho (GuardA_none hg rfl) (fun t ht => by rw [hd] at ht; cases ht; rwa [Nat.blt_eq] at hN) h (by rw [hd]; exact k)
theorem rAG {v : AV} {d j t : Nat} {want : Bool} (ho : ops[i]? = some o) (hg : o.guard = some (j, want)) (hj : (ops[j]?).bind (·.dst) = some t) (htN : Nat.blt t N = true) (hb : lookO l t = some (.bool want)) (hd : o.dst = some d) (hN : Nat.blt d N = true) (h : ∀ σ, AOp P σ ⟨D, l⟩ o v σ) (k : RP P N ops tb QR X (i + 1) ⟨D, (d, v) :: l⟩ σ past held) : RP P N ops tb QR X i ⟨D, l⟩ σ past held :=
  .all o v ho (GuardA_some hg hj htN (by simpa using hb)) (fun t ht => by rw [hd] at ht; cases ht; rwa [Nat.blt_eq] at hN) h (by rw [hd]; exact k)
theorem rP {v : AV} {d : Nat} (ho : ops[i]? = some o) (hg : o.guard = none) (hd : o.dst = some d) (hN : Nat.blt d N = true) (h : AOp P σ ⟨D, l⟩ o v σ) (hp : PastOK P tb i ⟨D, l⟩ o v past) (k : RP P N ops tb QR X (i + 1) ⟨D, (d, v) :: l⟩ σ past ((i, fun σ' => AOp P σ' ⟨D, l⟩ o v σ') :: held)) : RP P N ops tb QR X i ⟨D, l⟩ σ past held :=
  .pure o v ho (GuardA_none hg rfl) (fun t ht => by rw [hd] at ht; cases ht; rwa [Nat.blt_eq] at hN) h hp (by rw [hd]; exact k)
theorem rPG {v : AV} {d j t : Nat} {want : Bool} (ho : ops[i]? = some o) (hg : o.guard = some (j, want)) (hj : (ops[j]?).bind (·.dst) = some t) (htN : Nat.blt t N = true) (hb : lookO l t = some (.bool want)) (hd : o.dst = some d) (hN : Nat.blt d N = true) (h : AOp P σ ⟨D, l⟩ o v σ) (hp : PastOK P tb i ⟨D, l⟩ o v past) (k : RP P N ops tb QR X (i + 1) ⟨D, (d, v) :: l⟩ σ past ((i, fun σ' => AOp P σ' ⟨D, l⟩ o v σ') :: held)) : RP P N ops tb QR X i ⟨D, l⟩ σ past held :=
  .pure o v ho (GuardA_some hg hj htN (by simpa using hb)) (fun t ht => by rw [hd] at ht; cases ht; rwa [Nat.blt_eq] at hN) h hp (by rw [hd]; exact k)
theorem rE {v : AV} {d : Nat} {σ' : List AO} (ho : ops[i]? = some o) (hg : o.guard = none) (hd : o.dst = some d) (hN : Nat.blt d N = true) (h : AOp P σ ⟨D, l⟩ o v σ') (hh : HeldOK tb i σ' held) (hc : ChainOK tb i past) (k : RP P N ops tb QR X (i + 1) ⟨D, (d, v) :: l⟩ σ' ((i, σ) :: past) held) : RP P N ops tb QR X i ⟨D, l⟩ σ past held :=
  .eff o v σ' ho (GuardA_none hg rfl) (fun t ht => by rw [hd] at ht; cases ht; rwa [Nat.blt_eq] at hN) h hh hc (by rw [hd]; exact k)
theorem rEN {v : AV} {σ' : List AO} (ho : ops[i]? = some o) (hg : o.guard = none) (hd : o.dst = none) (h : AOp P σ e o v σ') (hh : HeldOK tb i σ' held) (hc : ChainOK tb i past) (k : RP P N ops tb QR X (i + 1) e σ' ((i, σ) :: past) held) : RP P N ops tb QR X i e σ past held :=
  .eff o v σ' ho (GuardA_none hg rfl) (fun t ht => by rw [hd] at ht; cases ht) h hh hc (by rw [hd]; exact k)
theorem rEG {v : AV} {d j t : Nat} {want : Bool} {σ' : List AO} (ho : ops[i]? = some o) (hg : o.guard = some (j, want)) (hj : (ops[j]?).bind (·.dst) = some t) (htN : Nat.blt t N = true) (hb : lookO l t = some (.bool want)) (hd : o.dst = some d) (hN : Nat.blt d N = true) (h : AOp P σ ⟨D, l⟩ o v σ') (hh : HeldOK tb i σ' held) (hc : ChainOK tb i past) (k : RP P N ops tb QR X (i + 1) ⟨D, (d, v) :: l⟩ σ' ((i, σ) :: past) held) : RP P N ops tb QR X i ⟨D, l⟩ σ past held :=
  .eff o v σ' ho (GuardA_some hg hj htN (by simpa using hb)) (fun t ht => by rw [hd] at ht; cases ht; rwa [Nat.blt_eq] at hN) h hh hc (by rw [hd]; exact k)
theorem rS {d j t : Nat} {want : Bool} (ho : ops[i]? = some o) (hg : o.guard = some (j, want)) (hj : (ops[j]?).bind (·.dst) = some t) (htN : Nat.blt t N = true) (hb : lookO l t = some (.bool (!want)) ∨ lookO l t = some (.tup [])) (hd : o.dst = some d) (hN : Nat.blt d N = true) (k : RP P N ops tb QR X (i + 1) ⟨D, (d, .tup []) :: l⟩ σ past held) : RP P N ops tb QR X i ⟨D, l⟩ σ past held :=
  .skip o ho (GuardA_skip hg hj htN hb) (fun t ht => by rw [hd] at ht; cases ht; rwa [Nat.blt_eq] at hN) (by rw [hd]; exact k)
theorem rpanic {v : AV} {σ' : List AO} (ho : ops[i]? = some o) (hg : o.guard = none) (h : AOpR P σ e o (fun _ _ => False) (fun v' σ'' => v' = v ∧ σ'' = σ')) (hc : ChainOK tb i past)
    (hall : ((List.range ops.size).all fun j => Nat.ble j i || befB tb i j) = true) (hx : X v σ') : RP P N ops tb QR X i e σ past held := .pan o v σ' ho (GuardA_none hg rfl) h hc hall hx
theorem AWp_drawL {id : Nat} {ol : List Oper} {QA' : QA} (tb : Array Nat) (hm : P.follows .mixedOrders = true) (h1 : rchk ol.toArray tb = true) (h2 : tbOK ol.toArray tb = true)
    (h : RP P N ol.toArray tb (fun e σ => QA' .normal e σ) (fun v σ => ∀ e' : Env, e'.D = e.D → QA' (.pan v) e' σ) 0 e σ [] []) : AWp P N (.region id ol.toArray true) e σ QA' := AWp_draw hm h1 h2 h
end
theorem op_fieldAddrO {T : TypeId} {x : Operand} {f n fo : Nat} {fs : Array Field} {fd : Field} {v : AV} (ho : o.op = .fieldAddr T x f) (hu : P.underlying T = some (.struct fs)) (hf : fs[f]? = some fd)
    (hfo : fd.offset = fo) (hz : ∀ w, (Go.sizeOf fd.type).run P w = Result.ok n w) (hn : n ≠ 0) (hx : offv fo (opv e x) = some v) (hfr : fresh σ (opv e x)) : AOp P σ e o v σ :=
  op_fieldAddr ho hu hf hz hn (by rw [hfo]; exact hx) hfr
theorem AWp_regL {id : Nat} {l : List Oper} (h : AOps P N l.toArray l e σ Q) : AWp P N (.region id l.toArray false) e σ Q := AWp_region h
theorem op_moveO {x : Operand} {v : AV} (ho : o.op = .move x) (hx : opO e x = some v) : AOp P σ e o v σ := op_move ho (opO_eq hx)
theorem op_assignO {x : Operand} {v : AV} (ho : o.op = .assign x) (hx : opO e x = some v) : AOp P σ e o v σ := op_assign ho (opO_eq hx)
theorem op_pickTO {c x y : Operand} {v : AV} (ho : o.op = .pick c x y) (hc : opv e c = .bool true) (hv : opO e x = some v) : AOp P σ e o v σ := op_pick ho hc (by simpa using opO_eq hv)
theorem op_pickFO {c x y : Operand} {v : AV} (ho : o.op = .pick c x y) (hc : opv e c = .bool false) (hv : opO e y = some v) : AOp P σ e o v σ := op_pick ho hc (by simpa using opO_eq hv)
def isStr : AV → Bool
  | .str _ => true
  | _ => false
theorem op_lenS {T E : TypeId} {x : Operand} {n : Int} {c : Array TypeId} (ho : o.op = .call { callee := .builtin .len, args := #[x], argTypes := c }) (hc : c[0]? = some T) (hu : P.underlying T = some (.slice E))
    (hx : lenv (opv e x) = some n) (hns : isStr (opv e x) = false) (hfr : fresh σ (opv e x)) : AOp P σ e o (.int .i64 n) σ :=
  op_lenSl ho hc hu hx (fun b h => by rw [h] at hns; cases hns) hfr
theorem op_pickT {c x y : Operand} {v : AV} (ho : o.op = .pick c x y) (hc : opv e c = .bool true) (hv : opv e x = v) : AOp P σ e o v σ := op_pick ho hc (by simpa using hv)
theorem op_pickF {c x y : Operand} {v : AV} (ho : o.op = .pick c x y) (hc : opv e c = .bool false) (hv : opv e y = v) : AOp P σ e o v σ := op_pick ho hc (by simpa using hv)
section ints
variable {T T' : TypeId} {x y : Operand} {k : IntKind} {a b : Int}
theorem op_lssT (ho : o.op = .binOp .lss T x y T') (hx : opv e x = .int k a) (hy : opv e y = .int k b) (h : a < b) : AOp P σ e o (.bool true) σ := by
  have := op_lss (P := P) (σ := σ) ho hx hy; rwa [decide_eq_true h] at this
theorem op_lssF (ho : o.op = .binOp .lss T x y T') (hx : opv e x = .int k a) (hy : opv e y = .int k b) (h : ¬ a < b) : AOp P σ e o (.bool false) σ := by
  have := op_lss (P := P) (σ := σ) ho hx hy; rwa [decide_eq_false h] at this
theorem op_leqT (ho : o.op = .binOp .leq T x y T') (hx : opv e x = .int k a) (hy : opv e y = .int k b) (h : a ≤ b) : AOp P σ e o (.bool true) σ := by
  have := op_leq (P := P) (σ := σ) ho hx hy; rwa [decide_eq_true h] at this
theorem op_leqF (ho : o.op = .binOp .leq T x y T') (hx : opv e x = .int k a) (hy : opv e y = .int k b) (h : ¬ a ≤ b) : AOp P σ e o (.bool false) σ := by
  have := op_leq (P := P) (σ := σ) ho hx hy; rwa [decide_eq_false h] at this
theorem op_gtrT (ho : o.op = .binOp .gtr T x y T') (hx : opv e x = .int k a) (hy : opv e y = .int k b) (h : b < a) : AOp P σ e o (.bool true) σ := by
  have := op_gtr (P := P) (σ := σ) ho hx hy; rwa [decide_eq_true h] at this
theorem op_gtrF (ho : o.op = .binOp .gtr T x y T') (hx : opv e x = .int k a) (hy : opv e y = .int k b) (h : ¬ b < a) : AOp P σ e o (.bool false) σ := by
  have := op_gtr (P := P) (σ := σ) ho hx hy; rwa [decide_eq_false h] at this
theorem op_geqT (ho : o.op = .binOp .geq T x y T') (hx : opv e x = .int k a) (hy : opv e y = .int k b) (h : b ≤ a) : AOp P σ e o (.bool true) σ := by
  have := op_geq (P := P) (σ := σ) ho hx hy; rwa [decide_eq_true h] at this
theorem op_geqF (ho : o.op = .binOp .geq T x y T') (hx : opv e x = .int k a) (hy : opv e y = .int k b) (h : ¬ b ≤ a) : AOp P σ e o (.bool false) σ := by
  have := op_geq (P := P) (σ := σ) ho hx hy; rwa [decide_eq_false h] at this
theorem op_eqlT (ho : o.op = .binOp .eql T x y T') (hx : opv e x = .int k a) (hy : opv e y = .int k b) (h : a = b) : AOp P σ e o (.bool true) σ := by
  have := op_eql (P := P) (σ := σ) ho hx hy; rwa [decide_eq_true h] at this
theorem op_eqlF (ho : o.op = .binOp .eql T x y T') (hx : opv e x = .int k a) (hy : opv e y = .int k b) (h : ¬ a = b) : AOp P σ e o (.bool false) σ := by
  have := op_eql (P := P) (σ := σ) ho hx hy; rwa [decide_eq_false h] at this
theorem op_neqT (ho : o.op = .binOp .neq T x y T') (hx : opv e x = .int k a) (hy : opv e y = .int k b) (h : ¬ a = b) : AOp P σ e o (.bool true) σ := by
  have := op_neq (P := P) (σ := σ) ho hx hy; rwa [decide_eq_false h] at this
theorem op_neqF (ho : o.op = .binOp .neq T x y T') (hx : opv e x = .int k a) (hy : opv e y = .int k b) (h : a = b) : AOp P σ e o (.bool false) σ := by
  have := op_neq (P := P) (σ := σ) ho hx hy; rwa [decide_eq_true h] at this
end ints
section strs
variable {T T' : TypeId} {x y : Operand} {a b : ByteArray}
theorem op_seqlT (ho : o.op = .binOp .eql T x y T') (hx : opv e x = .str a) (hy : opv e y = .str b) (h : a = b) : AOp P σ e o (.bool true) σ := by
  have := op_seql (P := P) (σ := σ) ho hx hy; rwa [decide_eq_true h] at this
theorem op_seqlF (ho : o.op = .binOp .eql T x y T') (hx : opv e x = .str a) (hy : opv e y = .str b) (h : ¬ a = b) : AOp P σ e o (.bool false) σ := by
  have := op_seql (P := P) (σ := σ) ho hx hy; rwa [decide_eq_false h] at this
theorem op_sneqT (ho : o.op = .binOp .neq T x y T') (hx : opv e x = .str a) (hy : opv e y = .str b) (h : ¬ a = b) : AOp P σ e o (.bool true) σ := by
  have := op_sneq (P := P) (σ := σ) ho hx hy; rwa [decide_eq_false h] at this
theorem op_sneqF (ho : o.op = .binOp .neq T x y T') (hx : opv e x = .str a) (hy : opv e y = .str b) (h : a = b) : AOp P σ e o (.bool false) σ := by
  have := op_sneq (P := P) (σ := σ) ho hx hy; rwa [decide_eq_true h] at this
end strs

/-! ### Lookups in an own heap -/
theorem get_own {σ l : List AO} (k : Nat) : (σ ++ l)[σ.length + k]? = l[k]? := by
  rw [List.getElem?_append_right (by omega)]; congr 1; omega
theorem get_old {σ l : List AO} {p : Nat} {x : AO} (h : σ[p]? = some x) : (σ ++ l)[p]? = some x := by
  rw [List.getElem?_append_left (List.getElem?_eq_some_iff.1 h).1]; exact h
theorem set_own {σ l : List AO} (k : Nat) (x : AO) : (σ ++ l).set (σ.length + k) x = σ ++ l.set k x := by
  rw [List.set_append_right _ _ (by omega)]; congr 2; omega
theorem ldv_own {σ l : List AO} {k off n : Nat} {cs r : List AV} (h : l[k]? = some (.box cs)) (hr : tk n (cs.drop off) = some r) : ldv (σ ++ l) n (.ptr (σ.length + k) off) = some r := by
  simp only [ldv, get_own, h, hr]
theorem ldv_old {σ l : List AO} {p off n : Nat} {cs r : List AV} (h : σ[p]? = some (.box cs)) (hr : tk n (cs.drop off) = some r) : ldv (σ ++ l) n (.ptr p off) = some r := by
  simp only [ldv, get_old h, hr]
theorem ldv_ptr {σ : List AO} {p off n : Nat} {cs r : List AV} (h : σ[p]? = some (.box cs)) (hr : tk n (cs.drop off) = some r) : ldv σ n (.ptr p off) = some r := by
  simp only [ldv, h, hr]
theorem ldv_pp {σ : List AO} {n : Nat} {cs r : List AV} (hr : tk n cs = some r) : ldv σ n (.pp cs) = some r := hr
theorem stv_own {σ l : List AO} {k off : Nat} {cs ns r : List AV} (h : l[k]? = some (.box cs)) (hr : spl off cs ns = some r) : stv (σ ++ l) ns (.ptr (σ.length + k) off) = some (σ.length + k, .box r) := by
  simp only [stv, get_own, h, hr, Option.map_some]
theorem stv_ptr {σ : List AO} {p off : Nat} {cs ns r : List AV} (h : σ[p]? = some (.box cs)) (hr : spl off cs ns = some r) : stv σ ns (.ptr p off) = some (p, .box r) := by
  simp only [stv, h, hr, Option.map_some]

theorem op_box0 {T : TypeId} {x : Operand} {cs : List AV} (ho : o.op = .box T x) (hx : (opv e x).cells = cs) (h1 : ones cs = true) : AOp P σ e o (.ptr (σ.length + 0) 0) (σ ++ [.box cs]) := op_box ho hx h1
theorem op_boxO {σ l : List AO} {T : TypeId} {x : Operand} {cs : List AV} (n : Nat) (hn : l.length = n) (ho : o.op = .box T x) (hx : (opv e x).cells = cs) (h1 : ones cs = true) : AOp P (σ ++ l) e o (.ptr (σ.length + n) 0) (σ ++ (l ++ [.box cs])) := by
  have := op_box (P := P) (σ := σ ++ l) ho hx h1
  rwa [List.length_append, hn, List.append_assoc] at this
theorem op_alloc0 {T : TypeId} {z : Value} {cs : List AV} (ho : o.op = .alloc T) (hz : ∀ w, (zeroValue T).run P w = Result.ok z w) (hx : z.cells.toList.map ofConst1 = cs) : AOp P σ e o (.ptr (σ.length + 0) 0) (σ ++ [.box cs]) := op_alloc ho hz hx
theorem op_allocO {σ l : List AO} {T : TypeId} {z : Value} {cs : List AV} (n : Nat) (hn : l.length = n) (ho : o.op = .alloc T) (hz : ∀ w, (zeroValue T).run P w = Result.ok z w) (hx : z.cells.toList.map ofConst1 = cs) : AOp P (σ ++ l) e o (.ptr (σ.length + n) 0) (σ ++ (l ++ [.box cs])) := by
  have := op_alloc (P := P) (σ := σ ++ l) (e := e) ho hz hx
  rwa [List.length_append, hn, List.append_assoc] at this
theorem op_storeO {σ l : List AO} {T : TypeId} {x y : Operand} {n k off : Nat} {cs r : List AV} (ho : o.op = .store T x y) (hz : ∀ w, (Go.sizeOf T).run P w = Result.ok n w) (hn : (opv e y).cells.length = n)
    (h1 : ones (opv e y).cells = true) (hx : opv e x = .ptr (σ.length + k) off) (hl : l[k]? = some (.box cs)) (hr : spl off cs (opv e y).cells = some r) (hn0 : n ≠ 0) : AOp P (σ ++ l) e o .any (σ ++ l.set k (.box r)) := by
  have := op_store (P := P) (σ := σ ++ l) ho hz hn h1 (by rw [hx]; exact stv_own hl hr) hn0
  rwa [set_own] at this
theorem op_storeP {T : TypeId} {x y : Operand} {n p off : Nat} {cs r : List AV} (ho : o.op = .store T x y) (hz : ∀ w, (Go.sizeOf T).run P w = Result.ok n w) (hn : (opv e y).cells.length = n)
    (h1 : ones (opv e y).cells = true) (hx : opv e x = .ptr p off) (hl : σ[p]? = some (.box cs)) (hr : spl off cs (opv e y).cells = some r) (hn0 : n ≠ 0) : AOp P σ e o .any (σ.set p (.box r)) :=
  op_store (P := P) ho hz hn h1 (by rw [hx]; exact stv_ptr hl hr) hn0
end steps
end Lg
