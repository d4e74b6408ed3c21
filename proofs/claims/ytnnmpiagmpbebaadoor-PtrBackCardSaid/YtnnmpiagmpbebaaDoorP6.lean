/- A part of the proof of What was shown is parsed; what is parsed is shown; two pointers one behind the other are both's names.: Lr3 Lw1 W1 Sh5 P1 B1 B2 B3 Lq2 B4 Lg35 B5 Lg36 Lq3 B6 Lg37 B7 Lg38 B8 Lq4 Lg39. -/
import Derived.Test.YtnnmpiagmpbebaaDoorP4
import Derived.Test.YtnnmpiagmpbebaaDoorP5
import Derived.Test.YtnnmpiagmpbebaaDoorP3
import Derived.SliceStrings
import Derived.HandedShaped
import Derived.Shelf.Strings.Replace
import Derived.Shelf.Strings.Split
import Derived.Shelf.Strings.Shaped
import Derived.Test.YtnnmpiagmpbebaaDoorProg
import Derived.Laws.BitsLemmas
set_option linter.unusedVariables false
set_option linter.unusedSimpArgs false
set_option linter.unusedSectionVars false
namespace Lg
open Go Go.RowKit
section
variable [GLay] {P : Program} {N : Nat} {σ l : List AO} {e : Env} {Q : QA} {o : Oper}
/-- A place of an array of the call's own. -/
theorem op_indexAddrA {T E : TypeId} {x y : Operand} {sz p gg len : Nat} {k : IntKind} {n : Int} {cs : List AV} (ho : o.op = .indexAddr T x y) (hu : P.underlying T = some (.slice E))
    (hsz : ∀ w, (Go.sizeOf E).run P w = Result.ok sz w) (hx : opO e x = some (.arr p gg sz 0 len)) (hy : opO e y = some (.int k n)) (h0 : 0 ≤ n) (hlt : n < len) (hσ : σ[p]? = some (.arr sz gg cs)) : AOp P σ e o (.pel p gg (n.toNat * sz)) σ :=
  .of_run fun s a hs g hv => by
    subst hs
    have h1 := opO_eq hx ▸ hv x (by simp [ho, Op.operands])
    have h2 := (opO_eq hy ▸ hv y (by simp [ho, Op.operands])).inv_int
    rcases h1.inv_arr hσ with ⟨_, ⟨ad, h3, h4⟩ | ⟨cap, h3, h4, h5⟩⟩
    · omega
    · refine ⟨_, by simp only [execOp, ho, h3, h2, Sem.run_bind]; rw [run_indexAt_slice (cap := cap) hu hsz h0 hlt]; rfl, ?_⟩
      refine .pel _ _ _ _ rfl ?_
      unfold ArrAt
      rw [hσ]
      exact ⟨Nat.le_refl _, fun _ => by simp⟩
theorem op_indexAddrAO {T E : TypeId} {x y : Operand} {sz j gg len : Nat} {k : IntKind} {n : Int} {cs : List AV} (ho : o.op = .indexAddr T x y) (hu : P.underlying T = some (.slice E))
    (hsz : ∀ w, (Go.sizeOf E).run P w = Result.ok sz w) (hx : opO e x = some (.arr (σ.length + j) gg sz 0 len)) (hy : opO e y = some (.int k n)) (h0 : 0 ≤ n) (hlt : n < len) (hl : l[j]? = some (.arr sz gg cs)) : AOp P (σ ++ l) e o (.pel (σ.length + j) gg (n.toNat * sz)) (σ ++ l) :=
  op_indexAddrA ho hu hsz hx hy h0 hlt (by rw [get_own]; exact hl)
theorem AWp_freezeAO {c : Code} (t k gg sz n : Nat) (es : List (List AV)) (hl : lookO e.l t = some (.arr (σ.length + k) gg sz 0 n)) (hk : l[k]? = some (.arr sz gg es.flatten)) (hel : ∀ r ∈ es, r.length = sz) (hn : es.length = n) (hsz : sz ≠ 0) (h : AWp P N c (e.put (some t) (.sl false sz es)) (σ ++ l.set k .dead) Q) (ht : t < N) : AWp P N c e (σ ++ l) Q := by
  have hf : es.flatten.length = n * sz := by rw [flatten_len hel, hn]
  exact AWp_freezeArr t (σ.length + k) gg sz 0 n hl (by rw [get_own]; exact hk) es (by rw [Nat.zero_mul, List.drop_zero, ← hf, List.take_length]) hel hn hsz (by rw [hf, Nat.zero_add]; exact Nat.le_refl _) (by rw [set_own]; exact h) ht
end
/-! ### Rows of texts -/
def srow (l : List BL) : List (List AV) := l.map fun x => [AV.str (ba x)]
theorem srow_len (l : List BL) : (srow l).length = l.length := by simp [srow]
theorem srow_get {l : List BL} {i : Nat} {x : BL} (h : l[i]? = some x) : (srow l)[i]? = some [AV.str (ba x)] := by simp [srow, h]
theorem srow_el (l : List BL) : ∀ r ∈ srow l, r.length = 1 := by
  intro r hr; simp [srow] at hr; obtain ⟨x, _, rfl⟩ := hr; rfl
theorem srow_flat (l : List BL) : (srow l).flatten = l.map fun x => AV.str (ba x) := by
  induction l with
  | nil => rfl
  | cons a r ih => show [AV.str (ba a)] ++ (srow r).flatten = _; rw [ih]; rfl
@[simp] theorem srow_lt (m : Nat) (l : List BL) : AV.ltLL m (srow l) := by
  induction l with
  | nil => simp [srow, AV.ltLL]
  | cons a r ih => simpa [srow, AV.ltLL, AV.ltL, AV.lt] using ih
@[simp] theorem smap_lt (m : Nat) (l : List BL) : AV.ltL m (l.map fun x => AV.str (ba x)) := by
  induction l with
  | nil => simp [AV.ltL]
  | cons a r ih => simpa [AV.ltL, AV.lt] using ih
theorem ra1_len (c : UInt8) (nw : BL) (h : nw.length ≤ 2) : ∀ s : BL, (ra [c] nw s).length ≤ 2 * s.length := by
  intro s
  rw [ra_one]
  induction s with
  | nil => simp
  | cons b r ih =>
    rw [List.flatMap_cons, List.length_append, List.length_cons]
    have : (if b = c then nw else [b]).length ≤ 2 := by split <;> simp [h]
    omega
theorem shw_snoc (l : List BL) (x : BL) : shw (l ++ [x]) = shw l ++ 47 :: pesc x := by simp [shw]
theorem shw_len (B : Nat) : ∀ l : List BL, (∀ x ∈ l, x.length ≤ B) → (shw l).length ≤ l.length * (2 * B + 1)
  | [], _ => by simp [shw]
  | x :: l, h => by
    have ih := shw_len B l (fun y hy => h y (by simp [hy]))
    have hx := h x (by simp)
    have he := esc_len x
    rw [shw_cons, List.length_cons, List.length_append, List.length_cons, Nat.add_mul]
    omega
/-! ### What a pointer's text says -/
def tbad (s : BL) (i : Nat) : Bool := decide (s[i]? = some 126) && !(decide (s[i + 1]? = some 48) || decide (s[i + 1]? = some 49))
/-- Where something is amiss. -/
def pE (s : BL) : Option Nat := if s = [] then none else if ¬ s[0]? = some 47 then some 0 else (List.range s.length).find? (tbad s)
def pN (s : BL) : List BL := if s = [] then [] else if (pE s).isSome then [] else (pcs 47 (s.drop 1)).map pune
theorem tbad_no {s : BL} (h : ∀ i, i < s.length → tbad s i = false) : okP s := fun i hi => by
  have := h i (List.getElem?_eq_some_iff.1 hi).1
  unfold tbad at this
  rw [decide_eq_true hi, Bool.true_and] at this
  by_cases h2 : s[i + 1]? = some 48
  · exact .inl h2
  · simp [h2] at this; exact .inr this
theorem okP_tbad {s : BL} (h : okP s) (i : Nat) : tbad s i = false := by
  unfold tbad
  by_cases hi : s[i]? = some 126
  · rcases h i hi with h | h <;> simp [hi, h]
  · simp [hi]
theorem pE_none {s : BL} (h0 : ¬ s = []) (h1 : s[0]? = some 47) (h : ∀ i, i < s.length → tbad s i = false) : pE s = none := by
  unfold pE; rw [if_neg h0, if_neg (by simp [h1])]
  exact List.find?_eq_none.2 fun i hi => by simp [h i (List.mem_range.1 hi)]
theorem pE_at {s : BL} (h0 : ¬ s = []) (h1 : s[0]? = some 47) {i : Nat} (hi : i < s.length) (h : tbad s i = true) (hb : ∀ j, j < i → tbad s j = false) : pE s = some i := by
  unfold pE; rw [if_neg h0, if_neg (by simp [h1])]
  exact List.find?_range_eq_some.2 ⟨h, List.mem_range.2 hi, fun j hj => by simp [hb j hj]⟩
theorem pE_ok {s : BL} (h0 : ¬ s = []) (h : pE s = none) : s[0]? = some 47 ∧ okP s := by
  unfold pE at h; rw [if_neg h0] at h
  split at h
  · cases h
  · rename_i h1
    refine ⟨by simpa using h1, tbad_no fun i hi => ?_⟩
    have := List.find?_eq_none.1 h i (List.mem_range.2 hi)
    simpa using this
/-- What is shown is parsed. -/
theorem pN_shw (l : List BL) : pE (shw l) = none ∧ pN (shw l) = l := by
  cases l with
  | nil => exact ⟨rfl, rfl⟩
  | cons x r =>
    have hne : ¬ shw (x :: r) = [] := by rw [shw_cons]; simp
    have hE : pE (shw (x :: r)) = none := pE_none hne (by rw [shw_cons]; rfl) (fun i _ => okP_tbad (okP_shw _) i)
    refine ⟨hE, ?_⟩
    unfold pN; rw [if_neg hne, hE]
    rw [shw_cons]
    exact shw_back x r
/-- What is parsed is shown. -/
theorem shw_pN {s : BL} (h : pE s = none) : shw (pN s) = s := by
  by_cases h0 : s = []
  · subst h0; rfl
  · obtain ⟨h1, h2⟩ := pE_ok h0 h
    unfold pN; rw [if_neg h0, h]
    cases s with
    | nil => exact absurd rfl h0
    | cons b t =>
      simp at h1; subst h1
      exact shw_fwd t (okP_tl h2)
end Lg
namespace Lg
open Go
theorem get_is {s : BL} {i : Nat} {c : UInt8} (hi : i < s.length) : s[i]? = some c ↔ ((bat (ba s) i).toNat : Int) = c.toNat := by
  rw [bat_ba, List.getElem?_eq_getElem hi, List.getD_eq_getElem?_getD, List.getElem?_eq_getElem hi]
  simp only [Option.getD_some, Option.some.injEq]
  constructor
  · intro h; rw [h]
  · intro h; exact UInt8.toNat_inj.1 (by omega)
theorem g126 {s : BL} {i : Nat} (hi : i < s.length) : s[i]? = some 126 ↔ ((bat (ba s) i).toNat : Int) = 126 := get_is (c := 126) hi
theorem g48 {s : BL} {i : Nat} (hi : i < s.length) : s[i]? = some 48 ↔ ((bat (ba s) i).toNat : Int) = 48 := get_is (c := 48) hi
theorem g49 {s : BL} {i : Nat} (hi : i < s.length) : s[i]? = some 49 ↔ ((bat (ba s) i).toNat : Int) = 49 := get_is (c := 49) hi
theorem g47 {s : BL} {i : Nat} (hi : i < s.length) : s[i]? = some 47 ↔ ((bat (ba s) i).toNat : Int) = 47 := get_is (c := 47) hi
theorem tbad_t {s : BL} {i : Nat} (hi : i < s.length) (h : ((bat (ba s) i).toNat : Int) = 126) (h2 : i + 1 = s.length ∨ (¬ ((bat (ba s) (i + 1)).toNat : Int) = 48 ∧ ¬ ((bat (ba s) (i + 1)).toNat : Int) = 49)) : tbad s i = true := by
  unfold tbad
  rw [decide_eq_true ((g126 hi).2 h), Bool.true_and]
  by_cases hl : i + 1 < s.length
  · obtain ⟨h3, h4⟩ := h2.resolve_left (by omega)
    rw [decide_eq_false (fun e => h3 ((g48 hl).1 e)), decide_eq_false (fun e => h4 ((g49 hl).1 e))]; rfl
  · rw [List.getElem?_eq_none (by omega)]; rfl
theorem tbad_f {s : BL} {i : Nat} (hi : i < s.length) (h : ((bat (ba s) i).toNat : Int) = 126 → i + 1 < s.length ∧ (((bat (ba s) (i + 1)).toNat : Int) = 48 ∨ ((bat (ba s) (i + 1)).toNat : Int) = 49)) : tbad s i = false := by
  unfold tbad
  by_cases hc : ((bat (ba s) i).toNat : Int) = 126
  · obtain ⟨h1, h2⟩ := h hc
    rcases h2 with h2 | h2
    · rw [decide_eq_true ((g48 h1).2 h2)]; simp
    · rw [decide_eq_true (p := s[i + 1]? = some 49) ((g49 h1).2 h2)]; simp
  · rw [decide_eq_false (fun e => hc ((g126 hi).1 e))]; rfl
/-- The array's cells, i names turned. -/
def pcell (L : List BL) (i : Nat) : List AV := (((L.take i).map pune) ++ L.drop i).map fun x => AV.str (ba x)
theorem pcell_0 (L : List BL) : pcell L 0 = L.map fun x => AV.str (ba x) := by simp [pcell]
theorem pcell_len (L : List BL) (i : Nat) : (pcell L i).length = L.length := by simp [pcell]; omega
theorem pcell_end (L : List BL) : pcell L L.length = (srow (L.map pune)).flatten := by rw [srow_flat]; simp [pcell]
theorem pcell_get {L : List BL} {i : Nat} {x : BL} (h : L[i]? = some x) : (pcell L i)[i]? = some (.str (ba x)) := by
  have hi := (List.getElem?_eq_some_iff.1 h).1
  unfold pcell
  rw [List.getElem?_map, List.getElem?_append_right (by simp; omega)]
  simp [Nat.min_eq_left (Nat.le_of_lt hi), h]
theorem pcell_step {L : List BL} {i : Nat} {x : BL} (h : L[i]? = some x) : (pcell L i).set i (.str (ba (pune x))) = pcell L (i + 1) := by
  have hi := (List.getElem?_eq_some_iff.1 h).1
  unfold pcell
  rw [List.take_add_one, h]
  have hd : L.drop i = x :: L.drop (i + 1) := by
    rw [List.drop_eq_getElem_cons hi]
    have := (List.getElem?_eq_some_iff.1 h).2
    rw [this]
  rw [hd]
  simp only [Option.toList, List.map_append, List.map_cons, List.map_nil, List.append_assoc, List.cons_append, List.nil_append]
  rw [List.set_append_right _ _ (by simp; omega)]
  simp [Nat.min_eq_left (Nat.le_of_lt hi)]
@[simp] theorem pcell_lt (m : Nat) (L : List BL) (i : Nat) : AV.ltL m (pcell L i) := smap_lt m _
end Lg
namespace Lg
open Go Go.Lib Go.ChangeShapes Go.WideShapes
/-- As calls_of, the arguments' cells in the world W. -/
theorem calls_of2 {P : Program} {f : FuncId} {args : List AV} {cargs : List Value} {W : World} (ha : ∀ [GLay] (s : CS), s.w = W → (∀ b, b < W.heap.size → s.ok b) → PW s args cargs)
    (h : ∀ [g : GLay], (∀ b, g.f b = W.heap[b]?) → ACalls P f args [] (Ret (.bool true) [])) : Calls P f cargs.toArray W fun e W' => e = .returned (.bool true) ∧ Go.RowKit.Below W.heap.size W W' := by
  letI : GLay := ⟨fun b => W.heap[b]?⟩
  let s0 : CS := { σ := [], μ := fun _ => ⟨0, 0, 0⟩, ok := fun b => b < W.heap.size, w := W }
  have g0 : Good s0 := ⟨fun b hb => hb, fun p o ho => by simp [s0] at ho, fun p q _ hp _ => by
      have : p < s0.σ.length := CS.live_lt hp
      simp [s0] at this, fun b o ho => ⟨(Array.getElem?_eq_some_iff.1 ho).1, ho⟩⟩
  refine (h (fun _ => rfl) s0 cargs rfl g0 (ha s0 rfl fun _ hb => hb)).mono fun e W' hc => ?_
  obtain ⟨s', rfl, g', x', hr⟩ := hc
  have hbel : Go.RowKit.Below W.heap.size W s'.w := ⟨x'.os, x'.tape, x'.output, x'.size, fun k hk => x'.frame k hk (fun p hp => by
    have : p < s0.σ.length := CS.live_lt hp
    simp [s0] at this)⟩
  cases e with
  | returned cv =>
    obtain ⟨v, hv, he, _⟩ := hr
    injection he with he
    subst he
    rw [hv.inv_bool]
    exact ⟨rfl, hbel⟩
  | outgrown => exact hr.elim
  | panicked ch =>
    cases ch with
    | nil => exact hr.elim
    | cons en r =>
      cases r with
      | nil => obtain ⟨_, v, _, he, _⟩ := hr; cases he
      | cons => exact hr.elim
/-- A []string that came in: its texts. -/
theorem names_V {H : Type} {enc : TypeId × Value → H} {P : Program} {W : World} {t e : TypeId} {fuel : Nat} {a0 : Option Addr} {len cap : Nat} {x : DataW H × List MemPlace} (ht : P.underlying t = some (.slice e)) (he : P.underlying e = some .string) (hc : P.cellsOf e = 1)
    (h : DataW.trod enc P W 0 (fun _ => true) true fuel t (Value.cells (.slice a0 len cap)).toList = some x) : ∃ l : List BL, ∀ [GLay] (s : CS), s.w = W → (∀ b, b < W.heap.size → s.ok b) → V s (.sl false 1 (srow l)) (.slice a0 len cap) := by
  rcases open_strings ht he hc h with ⟨hcs, _⟩ | ⟨a, len', cap', ss, hcs, _, hl, hm, hz, _, hcell, _⟩
  · simp [Value.cells] at hcs
    obtain ⟨rfl, rfl, rfl⟩ := hcs
    exact ⟨[], fun s _ _ => .sl0 false 1 none⟩
  · simp [Value.cells] at hcs
    obtain ⟨rfl, rfl, rfl⟩ := hcs
    simp only [if_true] at hz
    by_cases hc0 : cap = 0
    · subst hc0
      obtain rfl : len = 0 := by omega
      exact ⟨[], fun s _ _ => .sl0 false 1 (some a)⟩
    · obtain ⟨b, off, spot⟩ := a
      have hspot : spot = none := by simpa [Addr.add] using World.cell?_spot (hcell 0 (by omega))
      subst hspot
      have hbW : b < W.heap.size := World.block_lt_of_cell? _ _ (hcell 0 (by omega))
      refine ⟨(ss.take len).map fun z => z.data.toList, fun s hs hok => ?_⟩
      subst hs
      have hll : (srow ((ss.take len).map fun z => z.data.toList)).length = len := by rw [srow_len, List.length_map, List.length_take]; omega
      have hv := V.sl (s := s) false 1 (srow ((ss.take len).map fun z => z.data.toList)) b off cap ((ss.take len).map Value.string) (.inr (hok b hbW)) (srow_el _) (by rw [srow_flat]; simp) (fun i v hi => by
        rw [List.getElem?_map] at hi
        cases hx : (ss.take len)[i]? with
        | none => rw [hx] at hi; cases hi
        | some z =>
          rw [hx] at hi; cases hi
          rw [List.getElem?_take] at hx
          split at hx
          · have hlt := (List.getElem?_eq_some_iff.1 hx).1
            have := hcell i hlt
            have e2 : ss.getD i ByteArray.empty = z := by rw [List.getD, hx]; rfl
            rw [e2] at this
            rw [add_none] at this; exact this
          · cases hx) (fun i c v h1 h2 => by
        rw [srow_flat, List.map_map, List.getElem?_map] at h1
        rw [List.getElem?_map] at h2
        cases hx : (ss.take len)[i]? with
        | none => rw [hx] at h1; cases h1
        | some z =>
          rw [hx] at h1 h2; cases h1; cases h2
          show V s (.str (ba z.data.toList)) _
          rw [← ba_eta]; exact .str _) (by rw [hll]; exact hl) (fun h => by cases h)
      rw [hll] at hv
      exact hv
end Lg
namespace Go
/-- The wrap with both: what is laid, and the world's shape. -/
theorem Lg.returns_and_shaped {H : Type} {enc : TypeId × Value → H} {a : Assume} {C : Checked} {os : Os} {f : FuncId} {fn : Func} {s : ChangeSpec} {conds : List PathCond} {apart fresh handsOn again : Bool} {X : World → Array Value → Prop}
    (hX : ∀ (w w' : World) (args : Array Value), w.heap = w'.heap → X w args → X w' args)
    (own : ownKnob C.prog.godebug = none) (started : os.Started) (noInit : C.prog.inits.idxOf? f = none) (hfn : C.prog.funcs[f]? = some fn)
    (witness : ∃ (w : World) (tape : Tape) (i : Input), w.os = os ∧ (w.forCall tape i).Shaped C.prog ∧ i.vars = [] ∧ Input.okWide C.prog (w.forCall tape i) .any w.heap.size f i ∧
      ((s.pre enc C.prog fn conds apart (w.forCall tape i).memory i.args ∧ X (w.forCall tape i).memory i.args) ∧ sizedMet enc C.prog fn (OpenSpec.ofChange s) apart (w.forCall tape i).memory i.args) ∧ a.holds C.prog (lone (Frame.enter C.prog f i.args .normal) [] (w.forCall tape i)))
    (contract : ∀ (W : World) (base : Nat) (args : Array Value) (ds gs : List (DataW H)) (before : List MemPlace),
      (∀ (j : Nat) t v, fn.params[j]? = some t → args[j]? = some v → Value.okWide C.prog W .any base t v) →
      DataW.Whole enc C.prog fn.params.toList s.vars apart W args.toList ds gs before →
      X W args → W.ShapedOpen C.prog →
      Calls C.prog f args W fun e W' => ∃ v, e = .returned v ∧ s.post enc C.prog fn apart fresh handsOn again W args v W') :
    ReturnsInHanded a C os f .any (fun w args => (s.pre enc C.prog fn conds apart w args ∧ X w args) ∧ sizedMet enc C.prog fn (OpenSpec.ofChange s) apart w args) (s.post enc C.prog fn apart fresh handsOn again) := by
  refine returnsInHanded_of_calls own started noInit witness ?_
  intro w tape i _ hsh _ hok hpre _
  obtain ⟨_, _, _, fn', hfn', _, _, _, _, hval⟩ := hok
  obtain rfl : fn' = fn := Option.some.inj (hfn'.symm.trans hfn)
  obtain ⟨⟨⟨ds, gs, before, hw, _⟩, hx⟩, _⟩ := hpre
  refine (contract (w.forCall tape i) w.heap.size i.args ds gs before hval (DataW.Whole.of_heap (w' := w.forCall tape i) (by rfl) hw) (hX _ _ _ (by rfl) hx) hsh).mono fun e W' ⟨v, he, hp⟩ => ?_
  subst he
  exact ChangeSpec.post_blind hp
end Go
set_option maxRecDepth 20000
set_option maxHeartbeats 4000000
namespace Lg
open Go Go.Proofs Go.RowKit
variable [GLay] 
theorem run_c (s : ByteArray) (a : Int) (σ : List AO) (hs : s.size ≤ 1000000000) (h0 : 0 ≤ a) (ha : a ≤ 1000000000) : ACalls Tryd.prog 108 [.str s, .int .i64 a] σ (Ret (.int .i64 (runl s a.toNat : Int)) σ) := by
 refine ACalls_body Tryd.func108 rfl Tryd.ntmps108 (res1 Tryd.results108) (Nat.le_of_ble_eq_true rfl) (fun hcl hal => ?_)
 refine zw1 ?_
 refine zw1 ?_
 refine AWp_seq ?_
 refine AWp_block ?_
 -- loop 0 LIVE 0:param 1:param 4:assign 5:assign
 refine AWp_loop (ι := Nat) (fun i => i + runl s (a.toNat + i) = runl s a.toNat) (fun i => ⟨[], [(0, .str s), (1, .int .i64 a), (5, .int .i64 (i : Int))]⟩) (fun i => σ) (fun i => s.size - (a.toNat + i)) (0) (by simp) ?_ rfl (fun i hi => ?_)
 ·refine ⟨rfl, rfl, rfl, rfl, trivial⟩
 have hle := runl_le s (a.toNat + i)
 have hle0 := runl_le s a.toNat
 have hto : (a + (i : Int)).toNat = a.toNat + i := by omega
 refine AWp_seq ?_
 refine zu7 ?_
 refine zsp 12 rfl (fun h1 => ?_) fun h1 => ?_
 ·rw [h1]; replace h1 := zcl h1
  refine zg8 ?_
  refine zsp 20 rfl (fun h2 => ?_) fun h2 => ?_
  ·rw [h2]; replace h2 := zcl h2
   refine zv7 ?_
   refine AWp_cond rfl (fun h3 => ?_) (fun h3 => ?_)
   ·(try rw [h3]); replace h3 := zcl h3
    refine AWp_skip ?_
    refine AWp_block ?_
    refine AWp_regL ?_
    refine zv3 ?_
    (try simp only [hto] at *)
    have hd : dig s (a.toNat + i) := by simp only [dig]; omega
    have hr := runl_yes (by omega) hd
    refine ⟨i + 1, σ.length, by rw [← Nat.add_assoc]; omega, by omega, Nat.le_refl _, ⟨rfl, rfl, rfl, rfl, trivial⟩, hcl, ?_, List.take_length⟩
    simp [ltE, AV.lt]
   ·(try rw [h3]); replace h3 := zcl h3
    refine AWp_exit ?_
    refine zw2 ?_
    refine zrt ?_
    (try simp only [hto] at *)
    have hr := runl_no (b := s) (i := a.toNat + i) (by simp only [dig]; omega)
    refine ResQ_10 rfl hcl trivial (Ret_of ?_)
    congr 1; omega
  ·rw [h2]; replace h2 := zcl h2
   refine zv7 ?_
   refine AWp_condF rfl ?_
   refine AWp_exit ?_
   refine zw2 ?_
   refine zrt ?_
   (try simp only [hto] at *)
   have hr := runl_no (b := s) (i := a.toNat + i) (by simp only [dig]; omega)
   refine ResQ_10 rfl hcl trivial (Ret_of ?_)
   congr 1; omega
 ·rw [h1]; replace h1 := zcl h1
  refine zg10 ?_
  refine zg5 ?_
  refine zon ?_
  refine AWp_condF rfl ?_
  refine AWp_exit ?_
  refine zw2 ?_
  refine zrt ?_
  (try simp only [hto] at *)
  have hr := runl_no (b := s) (i := a.toNat + i) (by simp only [dig]; omega)
  refine ResQ_10 rfl hcl trivial (Ret_of ?_)
  congr 1; omega

theorem mayNum_c (n : JNum) (σ : List AO) (hn : n.digits.size ≤ 1000000000) : ACalls Tryd.prog 109 [.agg (ncells n)] σ (Ret (.bool (pb (NumMay n))) σ) := by
 refine ACalls_body Tryd.func109 rfl Tryd.ntmps109 (res1 Tryd.results109) (Nat.le_of_ble_eq_true rfl) (fun hcl hal => ?_)
 have hr0 := runl0 n.digits
 refine zw2 ?_
 refine AWp_seq ?_
 refine zw3 ?_
 refine AWp_cond rfl (fun h1 => ?_) (fun h1 => ?_)
 ·(try rw [h1]); replace h1 := zcl h1
  refine zu4 ?_
  refine zsp 9 rfl (fun h2 => ?_) fun h2 => ?_
  ·rw [h2]; replace h2 := zcl h2
   refine zv5 ?_
   refine zrt ?_
   refine ResQ_1 rfl hcl trivial (Ret_of ?_)
   refine bool_of ?_
   by_cases hd : digs n.digits n.digits.size
   ·have hd2 := hr0.2 hd; simp_all [NumMay] <;> omega
   ·have hd2 := mt hr0.1 hd; simp_all [NumMay] <;> omega
  ·rw [h2]; replace h2 := zcl h2
   refine zv5 ?_
   refine zrt ?_
   refine ResQ_1 rfl hcl trivial (Ret_of ?_)
   refine bool_of ?_
   by_cases hd : digs n.digits n.digits.size
   ·have hd2 := hr0.2 hd; simp_all [NumMay] <;> omega
   ·have hd2 := mt hr0.1 hd; simp_all [NumMay] <;> omega
 ·(try rw [h1]); replace h1 := zcl h1
  have hpos := ba_pos h1
  refine AWp_skip ?_
  refine AWp_seq ?_
  refine AWp_seq ?_
  refine AWp_drawL #[0, 1, 3, 7, 15, 31, 63, 127, 255, 511, 1023, 2047, 4095, 8191, 16383, 32767, 65535, 131071, 32767, 294911, 819199, 2097151, 4194303] Tryd.mixed (by decide +kernel) (by decide +kernel) ?_
  refine zd1 ?_
  refine zp1 ?_
  refine zd3 ?_
  refine zspr 18 rfl (fun h3 => ?_) fun h3 => ?_
  ·rw [h3]; replace h3 := zcl h3
   refine zd10 ?_
   refine zd8 ?_
   refine RP.nil rfl ?_
   refine AWp_condT rfl ?_
   refine zw1 ?_
   refine zrt ?_
   refine ResQ_1 rfl hcl trivial (Ret_of ?_)
   refine bool_of ?_
   by_cases hd : digs n.digits n.digits.size
   ·have hd2 := hr0.2 hd; simp_all [NumMay] <;> omega
   ·have hd2 := mt hr0.1 hd; simp_all [NumMay] <;> omega
  ·rw [h3]; replace h3 := zcl h3
   refine zd1 ?_
   refine zp1 ?_
   refine zd3 ?_
   refine zspr 23 rfl (fun h4 => ?_) fun h4 => ?_
   ·rw [h4]; replace h4 := zcl h4
    refine zd10 ?_
    refine zd3 ?_
    refine RP.nil rfl ?_
    refine AWp_condT rfl ?_
    refine zw1 ?_
    refine zrt ?_
    refine ResQ_1 rfl hcl trivial (Ret_of ?_)
    refine bool_of ?_
    by_cases hd : digs n.digits n.digits.size
    ·have hd2 := hr0.2 hd; simp_all [NumMay] <;> omega
    ·have hd2 := mt hr0.1 hd; simp_all [NumMay] <;> omega
   ·rw [h4]; replace h4 := zcl h4
    refine zd1 ?_
    refine zp1 ?_
    refine zd3 ?_
    refine zspr 28 rfl (fun h5 => ?_) fun h5 => ?_
    ·rw [h5]; replace h5 := zcl h5
     refine zd8 ?_
     refine RP.nil rfl ?_
     refine AWp_condT rfl ?_
     refine zw1 ?_
     refine zrt ?_
     refine ResQ_1 rfl hcl trivial (Ret_of ?_)
     refine bool_of ?_
     by_cases hd : digs n.digits n.digits.size
     ·have hd2 := hr0.2 hd; simp_all [NumMay] <;> omega
     ·have hd2 := mt hr0.1 hd; simp_all [NumMay] <;> omega
    ·rw [h5]; replace h5 := zcl h5
     refine zd1 ?_
     refine zp1 ?_
     refine yPG rfl rfl rfl (zc rfl (run_c _ _ _ hn (by omega) (by omega))) (trivial) ?_
     refine zd1 ?_
     refine zp1 ?_
     refine zd3 ?_
     refine RP.nil rfl ?_
     refine AWp_cond rfl (fun h6 => ?_) (fun h6 => ?_)
     ·(try rw [h6]); replace h6 := zcl h6
      refine zw1 ?_
      refine zrt ?_
      refine ResQ_1 rfl hcl trivial (Ret_of ?_)
      refine bool_of ?_
      by_cases hd : digs n.digits n.digits.size
      ·have hd2 := hr0.2 hd; simp_all [NumMay] <;> omega
      ·have hd2 := mt hr0.1 hd; simp_all [NumMay] <;> omega
     ·(try rw [h6]); replace h6 := zcl h6
      refine AWp_skip ?_
      refine zu5 ?_
      refine zsp 41 rfl (fun h7 => ?_) fun h7 => ?_
      ·rw [h7]; replace h7 := zcl h7
       refine zg10 ?_
       refine zon ?_
       refine zrt ?_
       refine ResQ_1 rfl hcl trivial (Ret_of ?_)
       refine bool_of ?_
       by_cases hd : digs n.digits n.digits.size
       ·have hd2 := hr0.2 hd; simp_all [NumMay] <;> omega
       ·have hd2 := mt hr0.1 hd; simp_all [NumMay] <;> omega
      ·rw [h7]; replace h7 := zcl h7
       refine zg10 ?_
       refine zon ?_
       refine zrt ?_
       refine ResQ_1 rfl hcl trivial (Ret_of ?_)
       refine bool_of ?_
       by_cases hd : digs n.digits n.digits.size
       ·have hd2 := hr0.2 hd; simp_all [NumMay] <;> omega
       ·have hd2 := mt hr0.1 hd; simp_all [NumMay] <;> omega

theorem indexFunc_c (k : Nat) (fn : Go.Func) (hfn : Tryd.prog.funcs[k]? = some fn) (hname : (fn.name == "runtime.NumGoroutine") = false) (hb : fn.body.isNone = false) (l : List JV) (p : JV → Bool) (σ : List AO) (hl : l.length ≤ 1000000000) (hf : ∀ (i : Nat) x, l[i]? = some x → ACalls Tryd.prog k [.agg (vcells x)] σ (Ret (.bool (p x)) σ)) : ACalls Tryd.prog 111 [.sl false 8 (lcells l), .func (.func k) [] []] σ (fun o σ' => σ' = σ ∧ ∃ n : Int, o = .ret (.int .i64 n) ∧ ((l.any p = true ∧ 0 ≤ n) ∨ (l.any p = false ∧ n = -1))) := by
 refine ACalls_body Tryd.func111 rfl Tryd.ntmps111 (res1 Tryd.results111) (Nat.le_of_ble_eq_true rfl) (fun hcl hal => ?_)
 refine zw1 ?_
 refine AWp_seq ?_
 refine zw3 ?_
 refine AWp_block ?_
 -- loop 0 LIVE 0:param 1:param 4:assign 7:call 8:move
 refine AWp_loop (ι := Nat) (fun i => i ≤ l.length ∧ ∀ (j : Nat) x, j < i → l[j]? = some x → p x = false) (fun i => ⟨[], [(0, .sl false 8 (lcells l)), (1, .func (.func k) [] []), (7, .int .i64 (l.length : Int)), (8, .int .i64 (i : Int))]⟩) (fun i => σ) (fun i => l.length - i) (0) (⟨Nat.zero_le _, fun j x hj => absurd hj (by omega)⟩) ?_ rfl (fun i hi => ?_)
 ·refine ⟨rfl, rfl, rfl, ?_, rfl, trivial⟩
  rw [← lcells_length]; rfl
 obtain ⟨hi1, hi2⟩ := hi
 refine zw1 ?_
 refine AWp_seq ?_
 refine AWp_cond rfl (fun h1 => ?_) (fun h1 => ?_)
 ·(try rw [h1]); replace h1 := zcl h1
  have hlt : i < l.length := by omega
  obtain ⟨x, hx⟩ : ∃ x, l[i]? = some x := ⟨_, List.getElem?_eq_getElem hlt⟩
  refine AWp_skip ?_
  refine AWp_seq ?_
  refine AWp_block ?_
  refine zw2 ?_
  refine zu4 ?_
  rw [vcells_eq x]
  refine zg1 ?_
  refine zt rfl (op_callF rfl rfl rfl hfn hname hb (vcells_eq x ▸ hf i x hx)) ?_
  refine zon ?_
  refine AWp_cond rfl (fun h2 => ?_) (fun h2 => ?_)
  ·(try rw [h2]); replace h2 := zcl h2
   refine zw2 ?_
   refine zrt ?_
   refine ResQ_10 rfl hcl ?_ ?_
   ·trivial
   ·exact ⟨rfl, _, rfl, .inl ⟨List.any_eq_true.2 ⟨x, List.mem_of_getElem? hx, h2⟩, by omega⟩⟩
  ·(try rw [h2]); replace h2 := zcl h2
   refine AWp_skip ?_
   refine AWp_regL ?_
   refine zv2 ?_
   refine ⟨i + 1, σ.length, ⟨by omega, fun j y hj hy => ?_⟩, by omega, Nat.le_refl _, ⟨rfl, rfl, rfl, rfl, rfl, trivial⟩, hcl, ?_, List.take_length⟩
   ·by_cases e : j = i
    ·subst e; rw [hx] at hy; cases hy; exact h2
    ·exact hi2 j y (by omega) hy
   ·simp [ltE, AV.lt, AV.ltL]
 ·(try rw [h1]); replace h1 := zcl h1
  refine AWp_exit ?_
  refine zw1 ?_
  refine zrt ?_
  refine ResQ_10 rfl hcl ?_ ⟨rfl, _, rfl, .inr ⟨?_, rfl⟩⟩
  trivial
  rw [List.any_eq_false]
  intro x hx
  obtain ⟨j, hj⟩ := List.getElem?_of_mem hx
  have := hi2 j x (by have := (List.getElem?_eq_some_iff.1 hj).1; omega) hj
  simp [this]

theorem containsFunc_c (k : Nat) (fn : Go.Func) (hfn : Tryd.prog.funcs[k]? = some fn) (hname : (fn.name == "runtime.NumGoroutine") = false) (hb : fn.body.isNone = false) (l : List JV) (p : JV → Bool) (σ : List AO) (hl : l.length ≤ 1000000000) (hf : ∀ (i : Nat) x, l[i]? = some x → ACalls Tryd.prog k [.agg (vcells x)] σ (Ret (.bool (p x)) σ)) : ACalls Tryd.prog 91 [.sl false 8 (lcells l), .func (.func k) [] []] σ (Ret (.bool (l.any p)) σ) := by
 refine ACalls_body Tryd.func91 rfl Tryd.ntmps91 (res1 Tryd.results91) (Nat.le_of_ble_eq_true rfl) (fun hcl hal => ?_)
 refine zw1 ?_
 refine zu2 ?_
 refine ztR rfl (zcR rfl (indexFunc_c k fn hfn hname hb l p σ hl hf)) (fun v1_2 s1_2 hr => ?_) (fun v1_2 s1_2 hr => ?_)
 rotate_left
 ·obtain ⟨_, n, h, _⟩ := hr; cases h
 obtain ⟨rfl, n, h, hn⟩ := hr; cases h
 refine zv2 ?_
 refine zrt ?_
 refine ResQ_10 rfl hcl trivial (Ret_of ?_)
 congr 1
 rcases hn with ⟨h1, h2⟩ | ⟨h1, h2⟩
 ·rw [h1]; simp; exact h2
 ·rw [h1, h2]; rfl
end Lg
set_option maxRecDepth 20000
set_option maxHeartbeats 4000000
namespace Go.Proofs
open Go.Shelf
def Tryd.lays155_ren : Go.Shelf.Ren := ⟨fun | 155 => 53 | 154 => 75 | 138 => 99 | 165 => 101 | 143 => 100 | 166 => 32 | 197 => 36 | 169 => 33 | 195 => 117 | 218 => 118 | 240 => 54 | 241 => 120 | 219 => 119 | 260 => 57 | 276 => 76 | 277 => 133 | 217 => 80 | 225 => 130 | 224 => 131 | 267 => 132 | 266 => 104 | 314 => 136 | n => n, fun | 9 => 9 | 3 => 3 | 4 => 4 | 72 => 58 | 0 => 0 | 76 => 60 | 105 => 70 | 21 => 21 | 5 => 5 | 70 => 55 | 20 => 20 | 37 => 56 | 75 => 26 | 127 => 90 | 164 => 101 | 46 => 62 | 119 => 105 | 139 => 108 | 138 => 107 | 146 => 149 | 51 => 139 | 80 => 63 | n => n, fun | 1 => 2 | 3 => 0 | 4 => 1 | n => n⟩
theorem Tryd.lays155 : Go.Proofs.Lays.n155 Tryd.prog Tryd.lays155_ren := {
  mixed := by kernel_rfl, f138 := Tryd.func99.trans (congrArg some (by kernel_rfl)), f143 := Tryd.func100.trans (congrArg some (by kernel_rfl)), f154 := Tryd.func75.trans (congrArg some (by kernel_rfl)), f155 := Tryd.func53.trans (congrArg some (by kernel_rfl)), f165 := Tryd.func101.trans (congrArg some (by kernel_rfl)), f166 := Tryd.func32.trans (congrArg some (by kernel_rfl)), f169 := Tryd.func33.trans (congrArg some (by kernel_rfl)), f195 := Tryd.func117.trans (congrArg some (by kernel_rfl)), f197 := Tryd.func36.trans (congrArg some (by kernel_rfl)), f217 := Tryd.func80.trans (congrArg some (by kernel_rfl)), f218 := Tryd.func118.trans (congrArg some (by kernel_rfl)), f219 := Tryd.func119.trans (congrArg some (by kernel_rfl)), f224 := Tryd.func131.trans (congrArg some (by kernel_rfl)), f225 := Tryd.func130.trans (congrArg some (by kernel_rfl)), f240 := Tryd.func54.trans (congrArg some (by kernel_rfl)), f241 := Tryd.func120.trans (congrArg some (by kernel_rfl)), f260 := Tryd.func57.trans (congrArg some (by kernel_rfl)), f266 := Tryd.func104.trans (congrArg some (by kernel_rfl)), f267 := Tryd.func132.trans (congrArg some (by kernel_rfl)), f276 := Tryd.func76.trans (congrArg some (by kernel_rfl)), f277 := Tryd.func133.trans (congrArg some (by kernel_rfl)), f314 := Tryd.func136.trans (congrArg some (by kernel_rfl)), t0 := Tryd.underlying0, a0 := Tryd.isAgg0, z0 := Tryd.sizeOf0, v0 := Tryd.zeroValue0, t3 := Tryd.underlying3, a3 := Tryd.isAgg3, z3 := Tryd.sizeOf3, v3 := Tryd.zeroValue3, t4 := Tryd.underlying4, a4 := Tryd.isAgg4, z4 := Tryd.sizeOf4, v4 := Tryd.zeroValue4, t5 := Tryd.underlying5, a5 := Tryd.isAgg5, z5 := Tryd.sizeOf5, v5 := Tryd.zeroValue5, t9 := Tryd.underlying9, a9 := Tryd.isAgg9, z9 := Tryd.sizeOf9, v9 := Tryd.zeroValue9, t20 := Tryd.underlying20, a20 := Tryd.isAgg20, z20 := Tryd.sizeOf20, v20 := Tryd.zeroValue20, t21 := Tryd.underlying21, a21 := Tryd.isAgg21, z21 := Tryd.sizeOf21, v21 := Tryd.zeroValue21, t37 := Tryd.underlying56, a37 := Tryd.isAgg56, z37 := Tryd.sizeOf56, v37 := Tryd.zeroValue56, t46 := Tryd.underlying62, a46 := Tryd.isAgg62, z46 := Tryd.sizeOf62, v46 := Tryd.zeroValue62, t51 := Tryd.underlying139, a51 := Tryd.isAgg139, z51 := Tryd.sizeOf139, v51 := Tryd.zeroValue139, t70 := Tryd.underlying55, a70 := Tryd.isAgg55, z70 := Tryd.sizeOf55, v70 := Tryd.zeroValue55, t72 := Tryd.underlying58, a72 := Tryd.isAgg58, z72 := Tryd.sizeOf58, v72 := Tryd.zeroValue58, t75 := Tryd.underlying26, a75 := Tryd.isAgg26, z75 := Tryd.sizeOf26, v75 := Tryd.zeroValue26, t76 := Tryd.underlying60, a76 := Tryd.isAgg60, z76 := Tryd.sizeOf60, v76 := Tryd.zeroValue60, t105 := Tryd.underlying70, a105 := Tryd.isAgg70, z105 := Tryd.sizeOf70, v105 := Tryd.zeroValue70, t119 := Tryd.underlying105, a119 := Tryd.isAgg105, z119 := Tryd.sizeOf105, t127 := Tryd.underlying90, a127 := Tryd.isAgg90, z127 := Tryd.sizeOf90, v127 := Tryd.zeroValue90, t138 := Tryd.underlying107, a138 := Tryd.isAgg107, z138 := Tryd.sizeOf107, v138 := Tryd.zeroValue107, t139 := Tryd.underlying108, a139 := Tryd.isAgg108, z139 := Tryd.sizeOf108, v139 := Tryd.zeroValue108, t146 := Tryd.underlying149, a146 := Tryd.isAgg149, z146 := Tryd.sizeOf149, v146 := Tryd.zeroValue149, t164 := Tryd.underlying101, a164 := Tryd.isAgg101, z164 := Tryd.sizeOf101, v164 := Tryd.zeroValue101, g1 := by kernel_rfl, g3 := by kernel_rfl, g4 := by kernel_rfl }
def Tryd.lays146_ren : Go.Shelf.Ren := ⟨fun | 146 => 52 | 221 => 74 | 268 => 98 | 138 => 99 | 143 => 100 | 195 => 117 | 197 => 36 | 218 => 118 | 219 => 119 | 260 => 57 | 217 => 80 | 225 => 130 | 224 => 131 | 267 => 132 | 266 => 104 | 314 => 136 | n => n, fun | 9 => 9 | 31 => 48 | 3 => 3 | 4 => 4 | 0 => 0 | 105 => 70 | 21 => 21 | 5 => 5 | 46 => 62 | 119 => 105 | 139 => 108 | 138 => 107 | 146 => 149 | 51 => 139 | n => n, fun | 1 => 2 | 3 => 0 | 4 => 1 | n => n⟩
theorem Tryd.lays146 : Go.Proofs.Lays.n146 Tryd.prog Tryd.lays146_ren := {
  mixed := by kernel_rfl, f138 := Tryd.func99.trans (congrArg some (by kernel_rfl)), f143 := Tryd.func100.trans (congrArg some (by kernel_rfl)), f146 := Tryd.func52.trans (congrArg some (by kernel_rfl)), f195 := Tryd.func117.trans (congrArg some (by kernel_rfl)), f197 := Tryd.func36.trans (congrArg some (by kernel_rfl)), f217 := Tryd.func80.trans (congrArg some (by kernel_rfl)), f218 := Tryd.func118.trans (congrArg some (by kernel_rfl)), f219 := Tryd.func119.trans (congrArg some (by kernel_rfl)), f221 := Tryd.func74.trans (congrArg some (by kernel_rfl)), f224 := Tryd.func131.trans (congrArg some (by kernel_rfl)), f225 := Tryd.func130.trans (congrArg some (by kernel_rfl)), f260 := Tryd.func57.trans (congrArg some (by kernel_rfl)), f266 := Tryd.func104.trans (congrArg some (by kernel_rfl)), f267 := Tryd.func132.trans (congrArg some (by kernel_rfl)), f268 := Tryd.func98.trans (congrArg some (by kernel_rfl)), f314 := Tryd.func136.trans (congrArg some (by kernel_rfl)), t0 := Tryd.underlying0, a0 := Tryd.isAgg0, z0 := Tryd.sizeOf0, v0 := Tryd.zeroValue0, t3 := Tryd.underlying3, a3 := Tryd.isAgg3, z3 := Tryd.sizeOf3, v3 := Tryd.zeroValue3, t4 := Tryd.underlying4, a4 := Tryd.isAgg4, z4 := Tryd.sizeOf4, v4 := Tryd.zeroValue4, t5 := Tryd.underlying5, a5 := Tryd.isAgg5, z5 := Tryd.sizeOf5, v5 := Tryd.zeroValue5, t9 := Tryd.underlying9, a9 := Tryd.isAgg9, z9 := Tryd.sizeOf9, v9 := Tryd.zeroValue9, t21 := Tryd.underlying21, a21 := Tryd.isAgg21, z21 := Tryd.sizeOf21, v21 := Tryd.zeroValue21, t31 := Tryd.underlying48, a31 := Tryd.isAgg48, z31 := Tryd.sizeOf48, v31 := Tryd.zeroValue48, t46 := Tryd.underlying62, a46 := Tryd.isAgg62, z46 := Tryd.sizeOf62, v46 := Tryd.zeroValue62, t51 := Tryd.underlying139, a51 := Tryd.isAgg139, z51 := Tryd.sizeOf139, v51 := Tryd.zeroValue139, t105 := Tryd.underlying70, a105 := Tryd.isAgg70, z105 := Tryd.sizeOf70, v105 := Tryd.zeroValue70, t119 := Tryd.underlying105, a119 := Tryd.isAgg105, z119 := Tryd.sizeOf105, t138 := Tryd.underlying107, a138 := Tryd.isAgg107, z138 := Tryd.sizeOf107, v138 := Tryd.zeroValue107, t139 := Tryd.underlying108, a139 := Tryd.isAgg108, z139 := Tryd.sizeOf108, v139 := Tryd.zeroValue108, t146 := Tryd.underlying149, a146 := Tryd.isAgg149, z146 := Tryd.sizeOf149, v146 := Tryd.zeroValue149, g1 := by kernel_rfl, g3 := by kernel_rfl, g4 := by kernel_rfl }
def Tryd.laysM143_ren : Go.Shelf.Ren := ⟨fun | 143 => 100 | 219 => 119 | 217 => 80 | 225 => 130 | 224 => 131 | 267 => 132 | 266 => 104 | 314 => 136 | n => n, fun | 9 => 9 | 3 => 3 | 4 => 4 | 5 => 5 | 46 => 62 | 146 => 149 | 51 => 139 | n => n, fun | 1 => 2 | n => n⟩
theorem Tryd.laysM143 : Go.Proofs.LaysM.n143 Tryd.prog Tryd.laysM143_ren := {
  mixed := by kernel_rfl, f143 := Tryd.func100.trans (congrArg some (by kernel_rfl)), f217 := Tryd.func80.trans (congrArg some (by kernel_rfl)), f219 := Tryd.func119.trans (congrArg some (by kernel_rfl)), f224 := Tryd.func131.trans (congrArg some (by kernel_rfl)), f225 := Tryd.func130.trans (congrArg some (by kernel_rfl)), f266 := Tryd.func104.trans (congrArg some (by kernel_rfl)), f267 := Tryd.func132.trans (congrArg some (by kernel_rfl)), f314 := Tryd.func136.trans (congrArg some (by kernel_rfl)), t3 := Tryd.underlying3, a3 := Tryd.isAgg3, z3 := Tryd.sizeOf3, v3 := Tryd.zeroValue3, t4 := Tryd.underlying4, a4 := Tryd.isAgg4, z4 := Tryd.sizeOf4, v4 := Tryd.zeroValue4, t5 := Tryd.underlying5, a5 := Tryd.isAgg5, z5 := Tryd.sizeOf5, v5 := Tryd.zeroValue5, t9 := Tryd.underlying9, a9 := Tryd.isAgg9, z9 := Tryd.sizeOf9, v9 := Tryd.zeroValue9, t46 := Tryd.underlying62, a46 := Tryd.isAgg62, z46 := Tryd.sizeOf62, v46 := Tryd.zeroValue62, t51 := Tryd.underlying139, a51 := Tryd.isAgg139, z51 := Tryd.sizeOf139, v51 := Tryd.zeroValue139, t146 := Tryd.underlying149, a146 := Tryd.isAgg149, z146 := Tryd.sizeOf149, v146 := Tryd.zeroValue149, g1 := by kernel_rfl, i3 := by kernel_rfl, i4 := by kernel_rfl, i5 := by kernel_rfl, i9 := by kernel_rfl, i46 := by kernel_rfl, i51 := by kernel_rfl, i146 := by kernel_rfl, m1 := by kernel_rfl, s1_3 := fun w h => Go.Proofs.cell_of_shapedOpen_int (zero := #[.int .i64 0]) (t := 3) h (of_decide_eq_true (by kernel_rfl)) (by kernel_rfl) rfl (by kernel_rfl) (by kernel_rfl) Tryd.underlying3 }
theorem Tryd.bldX : Builder.Extra Tryd.prog Tryd.lays155_ren := { sizeBuilder := by kernel_rfl, liesBuilder := by kernel_rfl, t5 := Tryd.underlying5, a5 := Tryd.isAgg5, z5 := Tryd.sizeOf5, v5 := Tryd.zeroValue5, infoByte := by kernel_rfl, cellsByte := by kernel_rfl, sizeByte := by kernel_rfl, neB5 := by decide }
end Go.Proofs
namespace Lg
open Go Go.Proofs Go.RowKit
/-- The library's variable MaxLen holds some int. -/
class ML [GLay] : Prop where
  cell : ∃ m, ∀ w : World, Laid w → w.cell? ⟨2, 0, none⟩ = some (.int .i64 m)
section
variable [GLay] [ML]
theorem replA_c (s : ByteArray) (old nw : BL) (σ : List AO) (h0 : old ≠ []) (hne : old ≠ nw) (hs : s.size ≤ 1000000) (hn : nw.length ≤ 2) : ACalls Tryd.prog 53 [.str s, .str (ba old), .str (ba nw)] σ (Ret (.str (ba (ra old nw s.data.toList))) σ) :=
  ACalls_below fun st cargs g hp => by
    obtain ⟨q, qs, rfl, h1, h2⟩ := hp.inv_cons
    obtain ⟨q2, qs2, rfl, h3, h4⟩ := h2.inv_cons
    obtain ⟨q3, qs3, rfl, h5, h6⟩ := h4.inv_cons
    obtain rfl := h6.inv_nil
    obtain rfl := h1.inv_str
    obtain rfl := h3.inv_str
    obtain rfl := h5.inv_str
    obtain ⟨m, hm⟩ := ML.cell
    have hol : 1 ≤ (ba old).size := by rw [ba_size]; cases old with
      | nil => exact absurd rfl h0
      | cons => simp
    have hc := Lib.countB_le (ba old) hol s.size s (Nat.le_refl _)
    have hb : Lib.countB s (ba old) * (ba nw).size ≤ 1000000 * 2 := Nat.mul_le_mul (by omega) (by rw [ba_size]; exact hn)
    have h := Any.strings_ReplaceAll Tryd.lays155 Tryd.bldX s (ba old) (ba nw) m st.w (by omega) (hm _ g.laid) hol (by omega)
    rw [ba_toList, ba_toList, ra_all hne] at h
    exact ⟨_, fun _ => .str _, h⟩
theorem split_c (s : ByteArray) (c : UInt8) (σ : List AO) (hs : s.size ≤ 1000000) : ACalls Tryd.prog 52 [.str s, .str ⟨#[c]⟩] σ (fun o σ' => o = .ret (.arr σ.length 0 1 0 (pcs c s.data.toList).length) ∧ σ' = σ ++ [.arr 1 0 ((pcs c s.data.toList).map fun x => AV.str (ba x))]) := by
  intro st cargs hst g hp
  subst hst
  obtain ⟨q, qs, rfl, h1, h2⟩ := hp.inv_cons
  obtain ⟨q2, qs2, rfl, h3, h4⟩ := h2.inv_cons
  obtain rfl := h4.inv_nil
  obtain rfl := h1.inv_str
  obtain rfl := h3.inv_str
  obtain ⟨m, hm⟩ := ML.cell
  refine (Any.strings_Split Tryd.lays146 (by kernel_rfl) s ⟨#[c]⟩ m st.w (by omega) (hm _ g.laid) (by show 1 ≤ 1; omega)).mono ?_
  rintro e w' ⟨rfl, rfl⟩
  have hsp := splitB_pcs c s.data.toList.length s.data.toList (Nat.le_refl _)
  rw [← ba_eta] at hsp
  have hlen := Lib.splitB_all ⟨#[c]⟩ (by show 1 ≤ 1; omega) 0 _ s rfl
  rw [hsp, List.length_map] at hlen
  rw [hsp]
  obtain ⟨s', e1, e2, g', x', hμ⟩ := g.newArr (sz := 1) (cs := (pcs c s.data.toList).map fun x => AV.str (ba x)) (vs := ((pcs c s.data.toList).map ba).map Value.string) (by
    rw [List.take_of_length_le (by simp)]
    refine ⟨by simp, fun i cv v h1 h2 => ?_⟩
    rw [List.getElem?_map] at h1
    rw [List.getElem?_map, List.getElem?_map] at h2
    cases hx : (pcs c s.data.toList)[i]? with
    | none => rw [hx] at h1; cases h1
    | some x => rw [hx] at h1 h2; cases h1; cases h2; exact .str _) (by simp) (Tryd.lays146_ren.t 9) (Go.RowKit.Below.refl _ _) rfl
  exact ⟨s', e2, g', x', .arr st.σ.length 0 1 0 (Lib.countB s ⟨#[c]⟩ + 1), V.newArr (sz := 1) (cs := (pcs c s.data.toList).map fun x => AV.str (ba x)) (by rw [e1]; simp) hμ (Nat.le_refl _) (by simp; omega), by rw [hlen], e1⟩
end
theorem cell_heap0 [g : GLay] {W w : World} (hg : ∀ b, g.f b = W.heap[b]?) (hw : Laid w) {b c : Nat} {v : Value} (h : W.cell? ⟨b, c, none⟩ = some v) : w.cell? ⟨b, c, none⟩ = some v := by
  cases hb : W.heap[b]? with
  | none => simp [World.cell?, hb] at h
  | some o => rw [← h]; simp only [World.cell?, hb, hw b o ((hg b).trans hb)]
theorem ML.of [g : GLay] {W : World} (hS : W.ShapedOpen Tryd.prog) (hg : ∀ b, g.f b = W.heap[b]?) : ML := by
  obtain ⟨m, hm⟩ := Tryd.laysM143.s1_3 W hS
  exact ⟨m, fun w hw => cell_heap0 hg hw hm⟩
end Lg
set_option maxRecDepth 20000
set_option maxHeartbeats 4000000
namespace Lg
open Go Go.Proofs Go.RowKit
variable [GLay] [ML]
theorem pshw_c (f : Bool) (l : List BL) (σ : List AO) (hl : l.length ≤ 1000) (hx : ∀ x ∈ l, x.length ≤ 1000) : ACalls Tryd.prog 28 [.sl f 1 (srow l)] σ (Ret (.str (ba (shw l))) σ) := by
 refine ACalls_body Tryd.func28 rfl Tryd.ntmps28 (res1 Tryd.results28) (Nat.le_of_ble_eq_true rfl) (fun hcl hal => ?_)
 have hrl := srow_len l
 refine zw1 ?_
 refine zw1 ?_
 refine AWp_seq ?_
 refine zw3 ?_
 refine AWp_block ?_
 -- loop 0 LIVE 2:assign 3:assign 6:move 7:call 8:move
 refine AWp_loop (ι := Nat) (fun i => i ≤ l.length) (fun i => ⟨[], [(3, .str (ba (shw (l.take i)))), (6, .sl f 1 (srow l)), (7, .int .i64 ((srow l).length : Int)), (8, .int .i64 (i : Int))]⟩) (fun i => σ) (fun i => l.length - i) (0) (Nat.zero_le _) ?_ rfl (fun i hi => ?_)
 ·exact ⟨rfl, rfl, rfl, rfl, rfl, trivial⟩
 have hsl := shw_len 1000 (l.take i) (fun x h => hx x (List.mem_of_mem_take h))
 have htl : (l.take i).length ≤ 1000 := by rw [List.length_take]; omega
 have hsl2 : (shw (l.take i)).length ≤ 1000 * 2001 := Nat.le_trans hsl (Nat.mul_le_mul htl (Nat.le_refl _))
 refine zw1 ?_
 refine AWp_seq ?_
 refine AWp_cond rfl (fun h1 => ?_) (fun h1 => ?_)
 ·(try rw [h1]); replace h1 := zcl h1
  obtain ⟨x, hxi⟩ : ∃ x, l[i]? = some x := ⟨_, List.getElem?_eq_getElem (show i < l.length by omega)⟩
  have hxr := srow_get hxi
  have hxl := hx x (List.mem_of_getElem? hxi)
  have hr1 := ra1_len 126 [126, 48] (by decide) x
  have he1 := esc_len x
  refine AWp_skip ?_
  refine AWp_seq ?_
  refine AWp_block ?_
  refine zsr ?_
  refine zt rfl (op_indexAddr rfl Tryd.underlying48 Tryd.sizeOf9 rfl rfl (by omega) (hxr)) ?_
  refine zv2 ?_
  refine AWp_regL ?_
  refine zg2 ?_
  refine zt rfl (zc rfl (replA_c (ba x) [126] [126, 48] _ (by decide) (by decide) (by rw [ba_size]; omega) (by decide))) ?_
  rw [ba_toList]
  refine zt rfl (zc rfl (replA_c (ba (ra [126] [126, 48] x)) [47] [126, 49] _ (by decide) (by decide) (by rw [ba_size]; omega) (by decide))) ?_
  rw [ba_toList, esc_ra]
  have z1 : (ByteArray.mk #[47]).size = 1 := rfl
  have z2 : (ba (pesc x)).size = (pesc x).length := ba_size _
  have z3 : (ba (shw (l.take i))).size = (shw (l.take i)).length := ba_size _
  have z4 := ByteArray.size_append (a := (⟨#[47]⟩ : ByteArray)) (b := ba (pesc x))
  refine zv3 ?_
  refine AWp_regL ?_
  refine zv2 ?_
  refine ⟨i + 1, σ.length, by omega, by omega, Nat.le_refl _, ⟨rfl, ?_, rfl, rfl, rfl, trivial⟩, hcl, ?_, List.take_length⟩
  ·rw [List.take_add_one, hxi]; show _ = AV.str (ba (shw (List.take i l ++ [x]))); rw [shw_snoc, show (47 :: pesc x : BL) = [47] ++ pesc x from rfl, ← ba_app, ← ba_app]; rfl
  ·simp [ltE, AV.lt]
 ·(try rw [h1]); replace h1 := zcl h1
  refine AWp_exit ?_
  refine zw2 ?_
  refine zrt ?_
  exact ResQ_10 rfl hcl trivial (Ret_of (by rw [show i = l.length by omega, List.take_length]))

theorem names_c (f g : Bool) (a b : List BL) (σ : List AO) (hl : a.length ≤ 100000) (hl2 : b.length ≤ 100000) : ACalls Tryd.prog 29 [.sl f 1 (srow a), .sl g 1 (srow b)] σ (Ret (.int .i64 (bif pb (a = b) then 1 else 0)) σ) := by
 refine ACalls_body Tryd.func29 rfl Tryd.ntmps29 (res1 Tryd.results29) (Nat.le_of_ble_eq_true rfl) (fun hcl hal => ?_)
 have hra := srow_len a
 have hrb := srow_len b
 refine zw1 ?_
 refine AWp_seq ?_
 refine zw5 ?_
 refine AWp_cond rfl (fun h1 => ?_) (fun h1 => ?_)
 ·(try rw [h1]); replace h1 := zcl h1
  refine zw1 ?_
  refine zrt ?_
  exact ResQ_10 rfl hcl trivial (Ret_of (by rw [pb_f (fun h => h1 (by rw [h]))]; rfl))
 ·(try rw [h1]); replace h1 := zcl h1
  refine AWp_skip ?_
  refine AWp_seq ?_
  refine zw1 ?_
  refine AWp_block ?_
  -- loop 0 LIVE 0:param 1:param 4:assign 5:assign
  refine AWp_loop (ι := Nat) (fun i => i ≤ a.length ∧ ∀ (j : Nat), j < i → a[j]? = b[j]?) (fun i => ⟨[], [(0, .sl f 1 (srow a)), (1, .sl g 1 (srow b)), (5, .int .i64 (i : Int))]⟩) (fun i => σ) (fun i => a.length - i) (0) (⟨Nat.zero_le _, fun j h => absurd h (by omega)⟩) ?_ rfl (fun i hi => ?_)
  ·exact ⟨rfl, rfl, rfl, rfl, trivial⟩
  obtain ⟨hi1, hi2⟩ := hi
  refine AWp_seq ?_
  refine zw4 ?_
  refine AWp_cond rfl (fun h2 => ?_) (fun h2 => ?_)
  ·(try rw [h2]); replace h2 := zcl h2
   obtain ⟨x, hx⟩ : ∃ x, a[i]? = some x := ⟨_, List.getElem?_eq_getElem (show i < a.length by omega)⟩
   obtain ⟨y, hy⟩ : ∃ y, b[i]? = some y := ⟨_, List.getElem?_eq_getElem (show i < b.length by omega)⟩
   have hxr := srow_get hx
   have hyr := srow_get hy
   refine AWp_skip ?_
   refine AWp_seq ?_
   refine AWp_block ?_
   refine AWp_seq ?_
   refine AWp_drawL #[0, 0, 3, 7, 0, 0, 48, 112, 255] Tryd.mixed (by decide +kernel) (by decide +kernel) ?_
   refine zd2 ?_
   refine yA rfl rfl (fun _ => op_indexAddr rfl Tryd.underlying48 Tryd.sizeOf9 rfl rfl (by omega) (hxr)) ?_
   refine zp1 ?_
   refine zd2 ?_
   refine yA rfl rfl (fun _ => op_indexAddr rfl Tryd.underlying48 Tryd.sizeOf9 rfl rfl (by omega) (hyr)) ?_
   refine zp1 ?_
   refine zd1 ?_
   refine RP.nil rfl ?_
   refine AWp_cond rfl (fun h3 => ?_) (fun h3 => ?_)
   ·(try rw [h3]); replace h3 := zcl h3
    refine zw1 ?_
    refine zrt ?_
    exact ResQ_10 rfl hcl trivial (Ret_of (by rw [pb_f (fun h => h3 (by rw [h, hy] at hx; cases hx; rfl))]; rfl))
   ·(try rw [h3]); replace h3 := zcl h3
    refine AWp_skip ?_
    refine AWp_regL ?_
    refine zv3 ?_
    refine ⟨i + 1, σ.length, ⟨by omega, fun j hj => ?_⟩, by omega, Nat.le_refl _, ⟨rfl, rfl, rfl, rfl, trivial⟩, hcl, ?_, List.take_length⟩
    ·by_cases e : j = i
     ·subst e; rw [hx, hy, ba_inj.1 h3]
     ·exact hi2 j (by omega)
    ·simp [ltE, AV.lt]
  ·(try rw [h2]); replace h2 := zcl h2
   refine AWp_exit ?_
   refine zw1 ?_
   refine zrt ?_
   have hab : a = b := List.ext_getElem? fun j => by by_cases hj : j < i; exact hi2 j hj; rw [List.getElem?_eq_none (by omega), List.getElem?_eq_none (by omega)]
   exact ResQ_10 rfl hcl trivial (Ret_of (by rw [pb_t hab]; rfl))
end Lg
set_option maxRecDepth 20000
set_option maxHeartbeats 4000000
namespace Lg
open Go Go.Proofs Go.RowKit
variable [GLay] 
theorem cc1 (σ : List AO) (p off : Nat) (cs : List AV) (hσ : σ[p]? = some (.box cs)) (hk : cs[off]? = some (.ptr p off)) : ACalls Tryd.prog 54 [.ptr p off] σ (Ret (.tup []) σ) := by
 refine ACalls_body Tryd.func54 rfl Tryd.ntmps54 (res0 Tryd.results54) (Nat.le_of_ble_eq_true rfl) (fun hcl hal => ?_)
 refine zu3 ?_
 refine zt rfl (op_load1 rfl Tryd.isAgg55 (ldv_ptr hσ (tk1_get hk))) ?_
 refine zv1 ?_
 refine AWp_cond rfl (fun h1 => ?_) (fun h1 => ?_)
 ·(try rw [h1]); replace h1 := zcl h1
  cases h1
 ·(try rw [h1]); replace h1 := zcl h1
  refine zu3 ?_
  refine zt rfl (op_load1 rfl Tryd.isAgg55 (ldv_ptr hσ (tk1_get hk))) ?_
  refine zg1 ?_
  refine zt rfl (op_nePS rfl Tryd.underlying55 (by kernel_rfl) rfl rfl) ?_
  refine zon ?_
  refine AWp_cond rfl (fun h2 => ?_) (fun h2 => ?_)
  ·(try rw [h2]); replace h2 := zcl h2
   cases h2
  ·(try rw [h2]); replace h2 := zcl h2
   refine AWp_skip ?_
   (try simp only [blockQ, thenQ])
   exact ResQ_ret0 rfl hcl trivial ⟨rfl, rfl⟩

theorem cc2 (σ : List AO) (p off n : Nat) (U : TypeId) (cs : List AV) (hσ : σ[p]? = some (.box cs)) (hk : cs[off]? = some (.nilT p U n)) (hl : liesAt Tryd.prog Tryd.prog.depth U (n / Tryd.prog.cellsOf U) off 58 1 = true) : ACalls Tryd.prog 54 [.ptr p off] σ (Ret (.tup []) (σ.set p (.box (cs.set off (.ptr p off))))) := by
 refine ACalls_body Tryd.func54 rfl Tryd.ntmps54 (res0 Tryd.results54) (Nat.le_of_ble_eq_true rfl) (fun hcl hal => ?_)
 have hol : off < cs.length := (List.getElem?_eq_some_iff.1 hk).1
 refine zu3 ?_
 refine zt rfl (op_load1 rfl Tryd.isAgg55 (ldv_ptr hσ (tk1_get hk))) ?_
 refine zt rfl (op_eqNT rfl Tryd.underlying55 rfl rfl) ?_
 refine zon ?_
 refine AWp_cond rfl (fun h1 => ?_) (fun h1 => ?_)
 ·(try rw [h1]); replace h1 := zcl h1
  refine AWp_regL ?_
  refine zg2 ?_
  refine zt rfl (op_toUnsafe rfl Tryd.underlying55 Tryd.underlying101 (by kernel_rfl) rfl hσ hol) ?_
  refine zt rfl (op_noEsc rfl rfl Tryd.func76 (by kernel_rfl) (by kernel_rfl) (by kernel_rfl) (by kernel_rfl) rfl) ?_
  refine zt rfl (op_fromUnsafe rfl Tryd.underlying101 Tryd.underlying55 (by kernel_rfl) rfl hσ hk hl) ?_
  refine zg2 ?_
  refine ztN rfl rfl (op_storeP (r := (cs.set off (.ptr p off))) rfl Tryd.sizeOf55 rfl rfl rfl hσ (spl1_set _ hol) (by decide)) ?_
  refine zon ?_
  (try simp only [blockQ, thenQ])
  exact ResQ_NH List.length_set (closed_set hcl (ltL_set (closed_box hcl hσ) (get_lt hσ))) ⟨rfl, rfl⟩
 ·(try rw [h1]); replace h1 := zcl h1
  cases h1
end Lg
set_option maxRecDepth 20000
set_option maxHeartbeats 4000000
namespace Lg
open Go Go.Proofs Go.RowKit
variable [GLay] 
theorem cc_c {σ : List AO} {p off q : Nat} {cs : List AV} {l : List UInt8} (h : BldT Tryd.prog 58 5 σ p off q cs l) : ACalls Tryd.prog 54 [.ptr p off] σ (Ret (.tup []) (σ.set p (.box (cs.set off (.ptr p off))))) := by
  rcases h.adr with ha | ⟨U, n, ha, hl⟩
  · have hs : σ.set p (.box (cs.set off (.ptr p off))) = σ := by
      obtain ⟨h1, h2⟩ := List.getElem?_eq_some_iff.1 ha
      rw [show cs.set off (.ptr p off) = cs by rw [← h2]; exact List.set_getElem_self h1]
      obtain ⟨h3, h4⟩ := List.getElem?_eq_some_iff.1 h.box
      rw [← h4]; exact List.set_getElem_self h3
    rw [hs]; exact cc1 σ p off cs h.box ha
  · exact cc2 σ p off n U cs h.box ha hl
theorem wb_c (c : UInt8) {σ : List AO} {p off q : Nat} {cs : List AV} {l : List UInt8} (h : BldT Tryd.prog 58 5 σ p off q cs l) (hlen : l.length + 1 ≤ 100000000000000) : ACalls Tryd.prog 31 [.ptr p off, .int .u8 (c.toNat : Int)] σ (Ret (.nili) ((σ.set p (.box (bcs cs p off q (l.length + 1)))).set q (.bytes 5 (l ++ [c])))) := by
 refine ACalls_body Tryd.func31 rfl Tryd.ntmps31 (res1 Tryd.results31) (Nat.le_of_ble_eq_true rfl) (fun hcl hal => ?_)
 have hb1 : (cs.set off (.ptr p off))[off + 1]? = some (.bts q l.length) := by rw [List.getElem?_set, if_neg (by omega)]; exact h.buf
 have hpl := get_lt h.box
 have hql := get_lt h.row
 have hp1 := set_getB (σ := σ) (.box (cs.set off (.ptr p off))) hpl
 have hq1 : (σ.set p (.box (cs.set off (.ptr p off))))[q]? = some (.bytes 5 l) := by rw [set_get_neB _ h.ne]; exact h.row
 have hol : off + 1 < (cs.set off (.ptr p off)).length := (List.getElem?_eq_some_iff.1 hb1).1
 have hp2 : ((σ.set p (.box (cs.set off (.ptr p off)))).set q (.bytes 5 (l ++ [c])))[p]? = some (.box (cs.set off (.ptr p off))) := by rw [set_get_neB _ h.ne.symm]; exact hp1
 refine zw1 ?_
 refine zu1 ?_
 refine zt rfl (zc rfl (cc_c h)) ?_
 refine zon ?_
 refine zu4 ?_
 refine zt rfl (op_load1 rfl Tryd.isAgg56 (ldv_ptr hp1 (tk1_get hb1))) ?_
 refine zg1 ?_
 refine zt rfl (op_buildSlice [[_]] rfl Tryd.underlying56 Tryd.sizeOf5 Tryd.zeroValue5 rfl (by decide) (by decide) rfl rfl rfl rfl rfl) ?_
 refine zt rfl (op_appendB (l2 := [c]) (d := .slice 5) rfl (.inr ⟨_, rfl⟩) Tryd.underlying56 Tryd.underlying56 (i := ((Tryd.prog.info? 5).getD default)) (by kernel_rfl) rfl rfl rfl rfl hq1 rfl (by rfl) (by rfl) (by have hb : ((Tryd.prog.info? 5).getD default).bytes = 1 := (by kernel_rfl); rw [hb, Nat.mul_one]; simp only [List.length_cons, List.length_nil]; omega) (by simp only [List.length_cons, List.length_nil]; omega)) ?_
 refine zg2 ?_
 refine ztN rfl rfl (op_storeP (r := (cs.set off (.ptr p off)).set (off + 1) (.bts q (l.length + 1))) rfl Tryd.sizeOf56 rfl rfl rfl hp2 (spl1_set _ hol) (by decide)) ?_
 refine zon ?_
 refine zw1 ?_
 refine zrt ?_
 refine ResQ_1H (by simp) rfl (closed_set (closed_set (closed_set hcl (ltL_set (closed_box hcl h.box) hpl)) trivial) (ltL_set (ltL_set (closed_box hcl h.box) hpl) hql)) trivial ?_
 show Ret _ _ _ _; rw [show (((σ.set p (.box (cs.set off (.ptr p off)))).set q (.bytes 5 (l ++ [c]))).set p (.box ((cs.set off (.ptr p off)).set (off + 1) (.bts q (l.length + 1))))) = ((σ.set p (.box (bcs cs p off q (l.length + 1)))).set q (.bytes 5 (l ++ [c]))) by rw [List.set_comm _ _ h.ne.symm, List.set_set]; rfl]
 exact ⟨rfl, rfl⟩

theorem ws_c (s : ByteArray) {σ : List AO} {p off q : Nat} {cs : List AV} {l : List UInt8} (h : BldT Tryd.prog 58 5 σ p off q cs l) (hlen : l.length + s.size ≤ 100000000000000) : ACalls Tryd.prog 32 [.ptr p off, .str s] σ (Ret (.tup [.int .i64 s.size, .nili]) ((σ.set p (.box (bcs cs p off q (l.length + s.size)))).set q (.bytes 5 (l ++ s.data.toList)))) := by
 refine ACalls_body Tryd.func32 rfl Tryd.ntmps32 (res2 Tryd.results32) (Nat.le_of_ble_eq_true rfl) (fun hcl hal => ?_)
 have hb1 : (cs.set off (.ptr p off))[off + 1]? = some (.bts q l.length) := by rw [List.getElem?_set, if_neg (by omega)]; exact h.buf
 have hpl := get_lt h.box
 have hql := get_lt h.row
 have hp1 := set_getB (σ := σ) (.box (cs.set off (.ptr p off))) hpl
 have hq1 : (σ.set p (.box (cs.set off (.ptr p off))))[q]? = some (.bytes 5 l) := by rw [set_get_neB _ h.ne]; exact h.row
 have hol : off + 1 < (cs.set off (.ptr p off)).length := (List.getElem?_eq_some_iff.1 hb1).1
 have hp2 : ((σ.set p (.box (cs.set off (.ptr p off)))).set q (.bytes 5 (l ++ s.data.toList)))[p]? = some (.box (cs.set off (.ptr p off))) := by rw [set_get_neB _ h.ne.symm]; exact hp1
 have hsz : s.data.toList.length = s.size := Array.length_toList
 refine zw2 ?_
 refine zu1 ?_
 refine zt rfl (zc rfl (cc_c h)) ?_
 refine zon ?_
 refine zu4 ?_
 refine zt rfl (op_load1 rfl Tryd.isAgg56 (ldv_ptr hp1 (tk1_get hb1))) ?_
 refine zg1 ?_
 refine zt rfl (op_appendB (l2 := s.data.toList) (d := .string) rfl (.inl rfl) Tryd.underlying56 Tryd.underlying9 (i := ((Tryd.prog.info? 5).getD default)) (by kernel_rfl) rfl rfl rfl rfl hq1 rfl (by rfl) (by rfl) (by have hb : ((Tryd.prog.info? 5).getD default).bytes = 1 := (by kernel_rfl); rw [hb, Nat.mul_one]; omega) (by omega)) ?_
 refine zg2 ?_
 refine ztN rfl rfl (op_storeP (r := (cs.set off (.ptr p off)).set (off + 1) (.bts q (l.length + s.size))) rfl Tryd.sizeOf56 rfl rfl rfl hp2 (spl1_set _ hol) (by decide)) ?_
 refine zon ?_
 refine zw4 ?_
 refine zrt ?_
 refine ResQ_2H (by simp) rfl rfl (closed_set (closed_set (closed_set hcl (ltL_set (closed_box hcl h.box) hpl)) trivial) (ltL_set (ltL_set (closed_box hcl h.box) hpl) hql)) (by simp [AV.lt, AV.ltL]) ?_
 show Ret _ _ _ _; rw [show (((σ.set p (.box (cs.set off (.ptr p off)))).set q (.bytes 5 (l ++ s.data.toList))).set p (.box ((cs.set off (.ptr p off)).set (off + 1) (.bts q (l.length + s.size))))) = ((σ.set p (.box (bcs cs p off q (l.length + s.size)))).set q (.bytes 5 (l ++ s.data.toList))) by rw [List.set_comm _ _ h.ne.symm, List.set_set]; rfl]
 exact ⟨rfl, rfl⟩

theorem bstr_c {σ : List AO} {p off q : Nat} {cs : List AV} {l : List UInt8} (h : BldT Tryd.prog 58 5 σ p off q cs l) (hlen : l.length ≤ 100000000000000) : ACalls Tryd.prog 33 [.ptr p off] σ (Ret (.str ⟨l.toArray⟩) (σ.set q .dead)) := by
 refine ACalls_body Tryd.func33 rfl Tryd.ntmps33 (res1 Tryd.results33) (Nat.le_of_ble_eq_true rfl) (fun hcl hal => ?_)
 have hpl := get_lt h.box
 refine zw1 ?_
 refine AWp_seq ?_
 refine AWp_drawL #[0, 1, 3, 7, 15, 0, 32, 96, 224, 480, 1023, 2047] Tryd.mixed (by decide +kernel) (by decide +kernel) ?_
 refine zd3 ?_
 refine yP rfl rfl (op_load1 rfl Tryd.isAgg56 (ldv_ptr h.box (tk1_get h.buf))) (trivial) ?_
 refine yP rfl rfl (op_sliceDataB rfl rfl h.row rfl) (trivial) ?_
 refine zd3 ?_
 refine yP rfl rfl (op_load1 rfl Tryd.isAgg56 (ldv_ptr h.box (tk1_get h.buf))) (trivial) ?_
 refine yP rfl rfl (op_lenB rfl rfl Tryd.underlying56 rfl h.row rfl) (trivial) ?_
 refine yE rfl rfl (op_unsafeStringB rfl Tryd.underlying90 (by kernel_rfl) rfl rfl h.row rfl (by omega)) (⟨.inl rfl, ⟨.inl rfl, ⟨.inl rfl, ⟨.inl rfl, trivial⟩⟩⟩⟩) (trivial) ?_
 refine zd1 ?_
 refine RP.nil rfl ?_
 refine zrt ?_
 exact ResQ_1H (by simp) rfl (closed_set hcl trivial) trivial ⟨rfl, rfl⟩
end Lg
set_option maxRecDepth 20000
set_option maxHeartbeats 4000000
namespace Lg
open Go Go.Proofs Go.RowKit
variable [GLay] 
theorem wbO (c : UInt8) {σ : List AO} {a : AV} {l : BL} (ha : a = .ptr σ.length 0 ∨ ∃ U n, a = .nilT σ.length U n ∧ liesAt Tryd.prog Tryd.prog.depth U (n / Tryd.prog.cellsOf U) 0 58 1 = true) (hlen : l.length + 1 ≤ 100000000000000) : ACalls Tryd.prog 31 [.ptr σ.length 0, .int .u8 (c.toNat : Int)] (bldr σ a 5 l) (Ret .nili (bldr σ (.ptr σ.length 0) 5 (l ++ [c]))) := by
  have h := wb_c c (bld_T (P := Tryd.prog) (B := 58) (E := 5) ha) hlen
  have e : l.length + 1 = (l ++ [c]).length := by simp
  rw [e, bld_set] at h; exact h
theorem wsO (s : ByteArray) {σ : List AO} {a : AV} {l : BL} (ha : a = .ptr σ.length 0 ∨ ∃ U n, a = .nilT σ.length U n ∧ liesAt Tryd.prog Tryd.prog.depth U (n / Tryd.prog.cellsOf U) 0 58 1 = true) (hlen : l.length + s.size ≤ 100000000000000) : ACalls Tryd.prog 32 [.ptr σ.length 0, .str s] (bldr σ a 5 l) (Ret (.tup [.int .i64 s.size, .nili]) (bldr σ (.ptr σ.length 0) 5 (l ++ s.data.toList))) := by
  have h := ws_c s (bld_T (P := Tryd.prog) (B := 58) (E := 5) ha) hlen
  have e : l.length + s.size = (l ++ s.data.toList).length := by rw [List.length_append]; rfl
  rw [e, bld_set] at h; exact h
theorem strO {σ : List AO} {a : AV} {l : BL} (ha : a = .ptr σ.length 0 ∨ ∃ U n, a = .nilT σ.length U n ∧ liesAt Tryd.prog Tryd.prog.depth U (n / Tryd.prog.cellsOf U) 0 58 1 = true) (hlen : l.length ≤ 100000000000000) : ACalls Tryd.prog 33 [.ptr σ.length 0] (bldr σ a 5 l) (Ret (.str (ba l)) (σ ++ [.box [a, .bts (σ.length + 1) l.length], .dead])) := by
  have h := bstr_c (bld_T (P := Tryd.prog) (B := 58) (E := 5) ha) hlen
  have e : (bldr σ a 5 l).set (σ.length + 1) .dead = σ ++ [.box [a, .bts (σ.length + 1) l.length], .dead] := by
    unfold bldr; rw [List.set_append_right _ _ (by omega), Nat.add_sub_cancel_left]; rfl
  rw [e] at h; exact h
theorem quote_c (l : BL) (σ : List AO) (hl : l.length ≤ 1000000) : ACalls Tryd.prog 10 [.str (ba l)] σ (Ret (.str (ba (quoteL l))) σ) := by
 refine ACalls_body Tryd.func10 rfl Tryd.ntmps10 (res1 Tryd.results10) (Nat.le_of_ble_eq_true rfl) (fun hcl hal => ?_)
 have hbs : (ba l).size = l.length := ba_size l
 have hql := qbody_len l
 have hql2 := fun i : Nat => qbody_len (l.take i)
 refine zw1 ?_
 refine zsr ?_
 refine zt rfl (op_allocT (cs := [.nilp, .nils]) 0 rfl Tryd.zeroValue58 rfl rfl) ?_
 refine zon ?_
 refine AWp_seq ?_
 refine AWp_ghostB0 5 ?_
 rw [show σ ++ [AO.box [AV.nilT σ.length 58 ([AV.nilp, AV.nils] : List AV).length, .bts (σ.length + 1) 0], .bytes 5 []] = bldr σ (.nilT σ.length 58 2) 5 [] from rfl]
 refine AWp_regL ?_
 refine zt rfl (zc rfl (wbO 34 (.inr ⟨_, _, rfl, by kernel_rfl⟩) (by simp))) ?_
 refine zon ?_
 refine AWp_seq ?_
 refine zw3 ?_
 refine AWp_block ?_
 -- loop 0 LIVE 0:param 2:assign 3:alloc 8:call 9:move
 refine AWp_loop (ι := Nat) (fun i => i ≤ l.length) (fun i => ⟨[], [(0, .str (ba l)), (3, .ptr σ.length 0), (8, .int .i64 (l.length : Int)), (9, .int .i64 (i : Int))]⟩) (fun i => bldr σ (.ptr σ.length 0) 5 (34 :: qbody (l.take i))) (fun i => l.length - i) (0) (Nat.zero_le _) ?_ rfl (fun i hi => ?_)
 ·exact ⟨rfl, rfl, rfl, by first | rfl | (rw [hbs]; rfl), rfl, trivial⟩
 have hqt := qbody_len (l.take i)
 rw [List.length_take] at hqt
 refine zw1 ?_
 refine AWp_seq ?_
 refine AWp_cond rfl (fun h1 => ?_) (fun h1 => ?_)
 ·(try rw [h1]); replace h1 := zcl h1
  refine AWp_skip ?_
  refine AWp_seq ?_
  refine AWp_block ?_
  refine zw2 ?_
  refine zu3 ?_
  simp only [Int.toNat_natCast]
  rw [show bat (ba l) i = l.getD i 0 from bat_ba l i]
  have hc := qbody_take (l := l) (i := i) (by omega)
  generalize l.getD i 0 = c at hc ⊢
  refine zv1 ?_
  refine AWp_block ?_
  refine zu3 ?_
  refine zsp 20 rfl (fun h2 => ?_) fun h2 => ?_
  ·rw [h2]; replace h2 := zcl h2
   refine zv4 ?_
   refine AWp_condT rfl ?_
   refine zsr ?_
   refine zt rfl (zc rfl (wbO 92 (.inl rfl) (by simp only [List.length_cons]; omega))) ?_
   refine zon ?_
   refine AWp_regL ?_
   refine zg1 ?_
   refine zt rfl (zc rfl (wbO c (.inl rfl) (by simp only [List.length_append, List.length_cons, List.length_nil]; omega))) ?_
   refine zon ?_
   refine AWp_regL ?_
   refine zv2 ?_
   refine ⟨i + 1, σ.length + 2, by omega, by omega, by simp [bldr], ⟨rfl, rfl, rfl, rfl, rfl, trivial⟩, closed_bldr hcl (by simp [AV.lt]), ?_, ?_⟩
   ·simp [ltE, AV.lt]
   ·rw [take_bldr, hc]; first | (rw [qch1 (by omega)]; simp) | (rw [qch2 (by omega) (by omega)]; simp) | (rw [qch3 (by omega) (by omega)]; rfl)
  ·rw [h2]; replace h2 := zcl h2
   refine zv4 ?_
   refine AWp_cond rfl (fun h3 => ?_) (fun h3 => ?_)
   ·(try rw [h3]); replace h3 := zcl h3
    refine zsr ?_
    refine zt rfl (zc rfl (wbO 92 (.inl rfl) (by simp only [List.length_cons]; omega))) ?_
    refine zon ?_
    refine AWp_regL ?_
    refine zg1 ?_
    refine zt rfl (zc rfl (wbO c (.inl rfl) (by simp only [List.length_append, List.length_cons, List.length_nil]; omega))) ?_
    refine zon ?_
    refine AWp_regL ?_
    refine zv2 ?_
    refine ⟨i + 1, σ.length + 2, by omega, by omega, by simp [bldr], ⟨rfl, rfl, rfl, rfl, rfl, trivial⟩, closed_bldr hcl (by simp [AV.lt]), ?_, ?_⟩
    ·simp [ltE, AV.lt]
    ·rw [take_bldr, hc]; first | (rw [qch1 (by omega)]; simp) | (rw [qch2 (by omega) (by omega)]; simp) | (rw [qch3 (by omega) (by omega)]; rfl)
   ·(try rw [h3]); replace h3 := zcl h3
    refine zw3 ?_
    refine AWp_cond rfl (fun h4 => ?_) (fun h4 => ?_)
    ·(try rw [h4]); replace h4 := zcl h4
     refine zsr ?_
     refine zt rfl (zc rfl (wsO ⟨#[92, 117, 48, 48]⟩ (.inl rfl) (by rw [show (ByteArray.mk #[92, 117, 48, 48]).size = 4 from rfl]; simp only [List.length_cons]; omega))) ?_
     refine zon ?_
     refine zu1 ?_
     refine zt rfl (op_shr rfl rfl rfl (by decide) (shr4 c)) ?_
     refine zt rfl (op_index_strB rfl Tryd.underlying9 rfl rfl (by omega) (by rw [show (ByteArray.mk #[48, 49, 50, 51, 52, 53, 54, 55, 56, 57, 97, 98, 99, 100, 101, 102]).size = 16 from rfl]; have := c.toNat_lt; omega)) ?_
     refine zt rfl (zc rfl (wbO (hxd (c.toNat / 16)) (.inl rfl) (by simp only [List.length_append, List.length_cons, List.length_nil]; omega))) ?_
     refine zon ?_
     refine AWp_regL ?_
     refine zg1 ?_
     refine zt rfl (op_and rfl rfl rfl (and15 c)) ?_
     refine zt rfl (op_index_strB rfl Tryd.underlying9 rfl rfl (by omega) (by rw [show (ByteArray.mk #[48, 49, 50, 51, 52, 53, 54, 55, 56, 57, 97, 98, 99, 100, 101, 102]).size = 16 from rfl]; have := c.toNat_lt; omega)) ?_
     refine zt rfl (zc rfl (wbO (hxd (c.toNat % 16)) (.inl rfl) (by simp only [List.length_append, List.length_cons, List.length_nil]; omega))) ?_
     refine zon ?_
     refine AWp_regL ?_
     refine zv2 ?_
     refine ⟨i + 1, σ.length + 2, by omega, by omega, by simp [bldr], ⟨rfl, rfl, rfl, rfl, rfl, trivial⟩, closed_bldr hcl (by simp [AV.lt]), ?_, ?_⟩
     ·simp [ltE, AV.lt]
     ·rw [take_bldr, hc]; first | (rw [qch1 (by omega)]; simp) | (rw [qch2 (by omega) (by omega)]; simp) | (rw [qch3 (by omega) (by omega)]; rfl)
    ·(try rw [h4]); replace h4 := zcl h4
     refine AWp_regL ?_
     refine zg1 ?_
     refine zt rfl (zc rfl (wbO c (.inl rfl) (by simp only [List.length_cons]; omega))) ?_
     refine zon ?_
     refine AWp_regL ?_
     refine zv2 ?_
     refine ⟨i + 1, σ.length + 2, by omega, by omega, by simp [bldr], ⟨rfl, rfl, rfl, rfl, rfl, trivial⟩, closed_bldr hcl (by simp [AV.lt]), ?_, ?_⟩
     ·simp [ltE, AV.lt]
     ·rw [take_bldr, hc]; first | (rw [qch1 (by omega)]; simp) | (rw [qch2 (by omega) (by omega)]; simp) | (rw [qch3 (by omega) (by omega)]; rfl)
 ·(try rw [h1]); replace h1 := zcl h1
  refine AWp_exit ?_
  refine zsr ?_
  refine zt rfl (zc rfl (wbO 34 (.inl rfl) (by simp only [List.length_cons]; omega))) ?_
  refine zon ?_
  refine zsr ?_
  refine zt rfl (zc rfl (strO (.inl rfl) (by simp only [List.length_append, List.length_cons, List.length_nil]; omega))) ?_
  refine zv1 ?_
  refine zrt ?_
  refine ResQ_1 rfl hcl trivial (Ret_of ?_)
  rw [show i = l.length by omega, List.take_length]; rfl
end Lg
namespace Lg
open Go
variable [GLay] {σ : List AO}
theorem bsc1 (c : UInt8) : srcv σ (.sl true 1 [[.int .u8 (c.toNat : Int)]]) = some (bcells ⟨#[c]⟩, 1) := rfl
theorem bsc2 (c d : UInt8) : srcv σ (.sl true 1 [[.int .u8 (c.toNat : Int)], [.int .u8 (d.toNat : Int)]]) = some (bcells ⟨#[c, d]⟩, 2) := rfl
theorem bq1 (x : BL) (c : UInt8) : ba x ++ (⟨#[92]⟩ : ByteArray) ++ (⟨#[c]⟩ : ByteArray) = ba (x ++ [92, c]) := by
  rw [show (⟨#[92]⟩ : ByteArray) = ba [92] from rfl, show (⟨#[c]⟩ : ByteArray) = ba [c] from rfl, ba_app, ba_app]; simp
theorem bq2 (x : BL) (c d : UInt8) : ba x ++ (⟨#[92, 117, 48, 48]⟩ : ByteArray) ++ (⟨#[c, d]⟩ : ByteArray) = ba (x ++ [92, 117, 48, 48, c, d]) := by
  rw [show (⟨#[92, 117, 48, 48]⟩ : ByteArray) = ba [92, 117, 48, 48] from rfl, show (⟨#[c, d]⟩ : ByteArray) = ba [c, d] from rfl, ba_app, ba_app]; simp
theorem bq3 (x : BL) (c : UInt8) : ba x ++ (⟨#[c]⟩ : ByteArray) = ba (x ++ [c]) := by
  rw [show (⟨#[c]⟩ : ByteArray) = ba [c] from rfl, ba_app]
end Lg
set_option maxRecDepth 20000
set_option maxHeartbeats 4000000
namespace Lg
open Go Go.Proofs Go.RowKit
variable [GLay] 
theorem rquote_c (l : BL) (σ : List AO) (hl : l.length ≤ 1000000) : ACalls Tryd.prog 40 [.str (ba l)] σ (Ret (.str (ba (quoteL l))) σ) := by
 refine ACalls_body Tryd.func40 rfl Tryd.ntmps40 (res1 Tryd.results40) (Nat.le_of_ble_eq_true rfl) (fun hcl hal => ?_)
 have hbs : (ba l).size = l.length := ba_size l
 have h1s : ∀ x, (ByteArray.mk #[x]).size = 1 := fun x => rfl
 have h2s : ∀ x y, (ByteArray.mk #[x, y]).size = 2 := fun x y => rfl
 have h4s : (ByteArray.mk #[92, 117, 48, 48]).size = 4 := rfl
 have h92 := h1s 92
 have h34 := h1s 34
 refine zw1 ?_
 refine zw1 ?_
 refine AWp_seq ?_
 refine zw1 ?_
 refine AWp_block ?_
 -- loop 0 LIVE 0:param 2:assign 3:assign 4:assign
 refine AWp_loop (ι := Nat) (fun i => i ≤ l.length) (fun i => ⟨[], [(0, .str (ba l)), (3, .str (ba (34 :: qbody (l.take i)))), (4, .int .i64 (i : Int))]⟩) (fun i => σ) (fun i => l.length - i) (0) (Nat.zero_le _) ?_ rfl (fun i hi => ?_)
 ·exact ⟨rfl, rfl, rfl, rfl, trivial⟩
 have hqt := qbody_len (l.take i)
 rw [List.length_take] at hqt
 have hbq : (ba (34 :: qbody (l.take i))).size = (qbody (l.take i)).length + 1 := by rw [ba_size]; rfl
 refine AWp_seq ?_
 refine zw4 ?_
 refine AWp_cond rfl (fun h1 => ?_) (fun h1 => ?_)
 ·(try rw [h1]); replace h1 := zcl h1
  refine AWp_skip ?_
  refine AWp_seq ?_
  refine AWp_block ?_
  refine zu3 ?_
  simp only [Int.toNat_natCast]
  rw [show bat (ba l) i = l.getD i 0 from bat_ba l i]
  have hc := qbody_take (l := l) (i := i) (by omega)
  generalize l.getD i 0 = c at hc ⊢
  refine zv1 ?_
  refine zu3 ?_
  refine zsp 18 rfl (fun h2 => ?_) fun h2 => ?_
  ·rw [h2]; replace h2 := zcl h2
   refine zv3 ?_
   refine AWp_condT rfl ?_
   refine AWp_regL ?_
   refine zg2 ?_
   have h1c := h1s c
   have hsa := ByteArray.size_append (a := ba (34 :: qbody (l.take i))) (b := (⟨#[92]⟩ : ByteArray))
   refine zg1 ?_
   refine zt rfl (op_buildSlice [[_]] rfl Tryd.underlying56 Tryd.sizeOf5 Tryd.zeroValue5 rfl (by decide) (by decide) rfl rfl rfl rfl rfl) ?_
   refine zt rfl (op_bytesStr (b := _) (m := 1) rfl Tryd.underlying56 Tryd.underlying5 Tryd.underlying9 (bsc1 c) rfl rfl) ?_
   refine zv2 ?_
   refine AWp_regL ?_
   refine zv3 ?_
   refine ⟨i + 1, σ.length, by omega, by omega, Nat.le_refl _, ⟨rfl, rfl, ?_, rfl, trivial⟩, hcl, ?_, List.take_length⟩
   ·rw [hc]; refine congrArg AV.str (?_ : _ = _); first | (rw [qch1 (by omega)]; exact bq1 _ _) | (rw [qch2 (by omega) (by omega)]; exact bq2 _ _ _) | (rw [qch3 (by omega) (by omega)]; exact bq3 _ _)
   ·simp [ltE, AV.lt]
  ·rw [h2]; replace h2 := zcl h2
   refine zv3 ?_
   refine AWp_cond rfl (fun h3 => ?_) (fun h3 => ?_)
   ·(try rw [h3]); replace h3 := zcl h3
    refine AWp_regL ?_
    refine zg2 ?_
    have h1c := h1s c
    have hsa := ByteArray.size_append (a := ba (34 :: qbody (l.take i))) (b := (⟨#[92]⟩ : ByteArray))
    refine zg1 ?_
    refine zt rfl (op_buildSlice [[_]] rfl Tryd.underlying56 Tryd.sizeOf5 Tryd.zeroValue5 rfl (by decide) (by decide) rfl rfl rfl rfl rfl) ?_
    refine zt rfl (op_bytesStr (b := _) (m := 1) rfl Tryd.underlying56 Tryd.underlying5 Tryd.underlying9 (bsc1 c) rfl rfl) ?_
    refine zv2 ?_
    refine AWp_regL ?_
    refine zv3 ?_
    refine ⟨i + 1, σ.length, by omega, by omega, Nat.le_refl _, ⟨rfl, rfl, ?_, rfl, trivial⟩, hcl, ?_, List.take_length⟩
    ·rw [hc]; refine congrArg AV.str (?_ : _ = _); first | (rw [qch1 (by omega)]; exact bq1 _ _) | (rw [qch2 (by omega) (by omega)]; exact bq2 _ _ _) | (rw [qch3 (by omega) (by omega)]; exact bq3 _ _)
    ·simp [ltE, AV.lt]
   ·(try rw [h3]); replace h3 := zcl h3
    refine zw2 ?_
    refine AWp_cond rfl (fun h4 => ?_) (fun h4 => ?_)
    ·(try rw [h4]); replace h4 := zcl h4
     refine zw1 ?_
     refine AWp_drawL #[0, 1, 0, 0, 8, 24, 60, 0, 0, 256, 768, 1920, 4092, 8188, 16383, 32767] Tryd.mixed (by decide +kernel) (by decide +kernel) ?_
     refine zd2 ?_
     have hsa := ByteArray.size_append (a := ba (34 :: qbody (l.take i))) (b := (⟨#[92, 117, 48, 48]⟩ : ByteArray))
     have h2c := h2s (hxd (c.toNat / 16)) (hxd (c.toNat % 16))
     refine zd3 ?_
     refine yA rfl rfl (fun _ => op_quo64 rfl rfl rfl (by omega) (by omega) (by omega)) ?_
     refine yA rfl rfl (fun _ => op_index_strB rfl Tryd.underlying9 rfl rfl (by omega) (by rw [show (ByteArray.mk #[48, 49, 50, 51, 52, 53, 54, 55, 56, 57, 97, 98, 99, 100, 101, 102]).size = 16 from rfl]; have := c.toNat_lt; omega)) ?_
     rw [show ((c.toNat : Int) / 16).toNat = c.toNat / 16 by omega]
     refine zd3 ?_
     refine yA rfl rfl (fun _ => op_rem64 rfl rfl rfl (by omega) (by omega)) ?_
     refine yA rfl rfl (fun _ => op_index_strB rfl Tryd.underlying9 rfl rfl (by omega) (by rw [show (ByteArray.mk #[48, 49, 50, 51, 52, 53, 54, 55, 56, 57, 97, 98, 99, 100, 101, 102]).size = 16 from rfl]; have := c.toNat_lt; omega)) ?_
     rw [show ((c.toNat : Int) % 16).toNat = c.toNat % 16 by omega]
     refine yA rfl rfl (fun _ => op_buildSlice [[_], [_]] rfl Tryd.underlying56 Tryd.sizeOf5 Tryd.zeroValue5 rfl (by decide) (by decide) rfl rfl rfl rfl rfl) ?_
     refine yA rfl rfl (fun _ => op_bytesStr (b := _) (m := 2) rfl Tryd.underlying56 Tryd.underlying5 Tryd.underlying9 (bsc2 (hxd (c.toNat / 16)) (hxd (c.toNat % 16))) rfl rfl) ?_
     refine zd2 ?_
     refine RP.nil rfl ?_
     refine AWp_regL ?_
     refine zv3 ?_
     refine ⟨i + 1, σ.length, by omega, by omega, Nat.le_refl _, ⟨rfl, rfl, ?_, rfl, trivial⟩, hcl, ?_, List.take_length⟩
     ·rw [hc]; refine congrArg AV.str (?_ : _ = _); first | (rw [qch1 (by omega)]; exact bq1 _ _) | (rw [qch2 (by omega) (by omega)]; exact bq2 _ _ _) | (rw [qch3 (by omega) (by omega)]; exact bq3 _ _)
     ·simp [ltE, AV.lt]
    ·(try rw [h4]); replace h4 := zcl h4
     refine AWp_regL ?_
     refine zg2 ?_
     have h1c := h1s c
     refine zt rfl (op_buildSlice [[_]] rfl Tryd.underlying56 Tryd.sizeOf5 Tryd.zeroValue5 rfl (by decide) (by decide) rfl rfl rfl rfl rfl) ?_
     refine zt rfl (op_bytesStr (b := _) (m := 1) rfl Tryd.underlying56 Tryd.underlying5 Tryd.underlying9 (bsc1 c) rfl rfl) ?_
     refine zv2 ?_
     refine AWp_regL ?_
     refine zv3 ?_
     refine ⟨i + 1, σ.length, by omega, by omega, Nat.le_refl _, ⟨rfl, rfl, ?_, rfl, trivial⟩, hcl, ?_, List.take_length⟩
     ·rw [hc]; refine congrArg AV.str (?_ : _ = _); first | (rw [qch1 (by omega)]; exact bq1 _ _) | (rw [qch2 (by omega) (by omega)]; exact bq2 _ _ _) | (rw [qch3 (by omega) (by omega)]; exact bq3 _ _)
     ·simp [ltE, AV.lt]
 ·(try rw [h1]); replace h1 := zcl h1
  refine AWp_exit ?_
  refine zw3 ?_
  refine zrt ?_
  refine ResQ_10 rfl hcl trivial (Ret_of ?_)
  rw [show i = l.length by omega, List.take_length]; exact congrArg AV.str (bq3 _ 34)
end Lg
namespace Lg
open Go Go.RowKit
variable [GLay]
variable {P : Program} {N : Nat} {σ l : List AO} {e : Env} {Q : QA} {o : Oper}
/-- A pointer in an interface, to a box of the call's own, becomes one to what is never written again. -/
theorem AWp_freezeI {c : Code} (t p off : Nat) (T : TypeId) {cs : List AV} (hl : lookO e.l t = some (.iface T (.ptr p off))) (hσ : σ[p]? = some (.box cs)) (k : AWp P N c (e.put (some t) (.iface T (.pp (cs.drop off)))) (σ.set p .gone) Q) (ht : t < N) : AWp P N c e σ Q := fun s0 s a hs g x he => by
  subst hs
  have hv := he.tmps t
  rw [show e.look t = .iface T (.ptr p off) from lookO_eq hl] at hv
  obtain ⟨v, hv0, hv1⟩ := hv.inv_iface
  obtain ⟨s', e1, e2, g', x', hv'⟩ := freezeBox_V g hσ hv1
  have hv2 : V s' (.iface T (.pp (cs.drop off))) (a.eval (.tmp t)) := by rw [hv0]; exact .iface _ _ _ hv'
  have := k s0 s' a e1 g' (x.trans x') (by
    have h1 := (he.mono g x').put (some t) hv2 (fun d hd => by cases hd; exact ht)
    have h2 : a.put (some t) (a.eval (.tmp t)) = a := put_self (by rw [he.size]; exact ht)
    rwa [h2] at h1)
  rwa [e2] at this
section asserts
variable {T U U' E : TypeId} {x : Operand} {v : AV}
theorem op_assertT (ho : o.op = .typeAssert x T U true) (hu : P.underlying U = some (.pointer E)) (hx : opO e x = some (.iface U v)) : AOp P σ e o (.tup [v, .bool true]) σ :=
  .of_run fun s a hs g hv => by
    have h1 := hv x (by simp [ho, Op.operands])
    rw [opO_eq hx] at h1
    obtain ⟨w, h2, h3⟩ := h1.inv_iface
    refine ⟨.tuple #[w, .bool true], ?_, .tup [v, .bool true] [w, .bool true] rfl (fun i c z e1 e2 => by
      match i, e1, e2 with
      | 0, e1, e2 => cases e1; cases e2; exact h3
      | 1, e1, e2 => cases e1; cases e2; exact .bool _)⟩
    simp [execOp, ho, h2, Instr.typeAssert, run_underlying hu]
theorem op_assertF (ho : o.op = .typeAssert x T U true) (hu : P.underlying U = some (.pointer E)) (hz : ∀ w, (zeroValue U).run P w = Result.ok (.pointer none) w) (hx : opO e x = some (.iface U' v)) (hne : U' ≠ U) : AOp P σ e o (.tup [.nilp, .bool false]) σ :=
  .of_run fun s a hs g hv => by
    have h1 := hv x (by simp [ho, Op.operands])
    rw [opO_eq hx] at h1
    obtain ⟨w, h2, h3⟩ := h1.inv_iface
    refine ⟨.tuple #[.pointer none, .bool false], ?_, .tup [.nilp, .bool false] [.pointer none, .bool false] rfl (fun i c z e1 e2 => by
      match i, e1, e2 with
      | 0, e1, e2 => cases e1; cases e2; exact .nilp
      | 1, e1, e2 => cases e1; cases e2; exact .bool _)⟩
    simp [execOp, ho, h2, Instr.typeAssert, run_underlying hu, hne, hz]
end asserts
end Lg
set_option maxRecDepth 20000
set_option maxHeartbeats 4000000
namespace Lg
open Go Go.Proofs Go.RowKit
variable [GLay] 
theorem sfail_c (at_ code : Int) (σ : List AO) : ACalls Tryd.prog 34 [.int .i64 at_, .int .i64 code] σ (Ret (.iface 85 (.pp [.int .i64 at_, .int .i64 code])) σ) := by
 refine ACalls_body Tryd.func34 rfl Tryd.ntmps34 (res1 Tryd.results34) (Nat.le_of_ble_eq_true rfl) (fun hcl hal => ?_)
 refine zw1 ?_
 refine zw6 ?_
 refine AWp_freezeI (cs := [.int .i64 at_, .int .i64 code]) 4 (σ.length + 0) 0 85 rfl (by rw [get_own]; rfl) ?_ (by decide)
 rw [set_own]
 refine zrt ?_
 exact ResQ_1 rfl hcl (by simp [AV.lt, AV.ltL]) (Ret_of rfl)

theorem spot_0 (σ : List AO) : ACalls Tryd.prog 51 [.nili] σ (Ret (.tup [.int .i64 0, .int .i64 0]) σ) := by
 refine ACalls_body Tryd.func51 rfl Tryd.ntmps51 (res2 Tryd.results51) (Nat.le_of_ble_eq_true rfl) (fun hcl hal => ?_)
 refine zw2 ?_
 refine AWp_seq ?_
 refine zw2 ?_
 refine AWp_cond rfl (fun h1 => ?_) (fun h1 => ?_)
 ·(try rw [h1]); replace h1 := zcl h1
  refine zw2 ?_
  refine zrt ?_
  exact ResQ_20 rfl rfl hcl (by simp [AV.lt, AV.ltL]) (Ret_of rfl)
 ·(try rw [h1]); replace h1 := zcl h1
  cases h1

theorem spot_s (at_ code : Int) (σ : List AO) : ACalls Tryd.prog 51 [.iface 85 (.pp [.int .i64 at_, .int .i64 code])] σ (Ret (.tup [.int .i64 code, .int .i64 at_]) σ) := by
 refine ACalls_body Tryd.func51 rfl Tryd.ntmps51 (res2 Tryd.results51) (Nat.le_of_ble_eq_true rfl) (fun hcl hal => ?_)
 refine zw2 ?_
 refine AWp_seq ?_
 refine zw2 ?_
 refine AWp_cond rfl (fun h1 => ?_) (fun h1 => ?_)
 ·(try rw [h1]); replace h1 := zcl h1
  cases h1
 ·(try rw [h1]); replace h1 := zcl h1
  refine AWp_skip ?_
  refine zu1 ?_
  refine zt rfl (op_assertT rfl Tryd.underlying85 rfl) ?_
  refine zv5 ?_
  refine AWp_seq ?_
  refine zw5 ?_
  refine AWp_condT rfl ?_
  refine AWp_seq ?_
  refine AWp_drawL #[0, 1, 3, 7, 0, 16, 48, 112, 15, 511] Tryd.mixed (by decide +kernel) (by decide +kernel) ?_
  refine zd3 ?_
  refine zp1 ?_
  refine zd3 ?_
  refine zp1 ?_
  refine zd2 ?_
  refine RP.nil rfl ?_
  refine zrt ?_
  exact ResQ_20 rfl rfl hcl (by simp [AV.lt, AV.ltL]) (Ret_of rfl)
end Lg
namespace Lg
open Go Go.RowKit
variable [GLay]
variable {P : Program} {N : Nat} {σ l : List AO} {e : Env} {Q : QA} {o : Oper}
section
variable {T T' : TypeId} {x y : Operand} {k : IntKind} {a b r : Int}
theorem op_addW (ho : o.op = .binOp .add T x y T') (hx : opv e x = .int k a) (hy : opv e y = .int k b) (hr : k.wrap (a + b) = r) : AOp P σ e o (.int k r) σ := by
  have := op_add (P := P) (σ := σ) ho hx hy; rwa [hr] at this
theorem op_subW (ho : o.op = .binOp .sub T x y T') (hx : opv e x = .int k a) (hy : opv e y = .int k b) (hr : k.wrap (a - b) = r) : AOp P σ e o (.int k r) σ := by
  have := op_sub (P := P) (σ := σ) ho hx hy; rwa [hr] at this
theorem op_mulW (ho : o.op = .binOp .mul T x y T') (hx : opv e x = .int k a) (hy : opv e y = .int k b) (hr : k.wrap (a * b) = r) : AOp P σ e o (.int k r) σ := by
  have := op_mul (P := P) (σ := σ) ho hx hy; rwa [hr] at this
theorem op_or (ho : o.op = .binOp .or T x y T') (hx : opv e x = .int k a) (hy : opv e y = .int k b) (hr : k.wrap ((BitVec.ofInt k.bits a ||| BitVec.ofInt k.bits b).toNat : Int) = r) : AOp P σ e o (.int k r) σ :=
  op_bin ho hx hy fun s cx cy _ _ h1 h2 => by
    rw [h1.inv_int, h2.inv_int]
    refine ⟨.int k r, ?_, .int _ _, by simp [eqGuard]⟩
    rw [← hr]
    simp [binOp, Op.intBits]
end
theorem i32_in {n : Int} (h0 : -2147483648 ≤ n) (h1 : n ≤ 2147483647) : IntKind.i32.wrap n = n := by
  rw [Go.IntKind.wrap_i32]; omega
/-- The byte with its sixth bit. -/
def low6 (b : UInt8) : Nat := b.toNat ||| 32
theorem or32f : ∀ b : Fin 256, IntKind.u8.wrap ((BitVec.ofInt IntKind.u8.bits (b.val : Int) ||| BitVec.ofInt IntKind.u8.bits 32).toNat : Int) = ((b.val ||| 32 : Nat) : Int) := by decide +kernel
theorem or32 (b : UInt8) : IntKind.u8.wrap ((BitVec.ofInt IntKind.u8.bits (b.toNat : Int) ||| BitVec.ofInt IntKind.u8.bits 32).toNat : Int) = ((low6 b : Nat) : Int) := or32f ⟨b.toNat, b.toNat_lt⟩
theorem low6_ltf : ∀ b : Fin 256, b.val ||| 32 < 256 := by decide +kernel
theorem low6_lt (b : UInt8) : low6 b < 256 := low6_ltf ⟨b.toNat, b.toNat_lt⟩
end Lg
namespace Lg
open Go
/-- A digit of 16, as the program sees it. -/
theorem hexd_low : ∀ b : Fin 256, hexd b.val = if 48 ≤ b.val ∧ b.val ≤ 57 then (b.val : Int) - 48 else if 97 ≤ (b.val ||| 32) ∧ (b.val ||| 32) ≤ 102 then ((b.val ||| 32 : Nat) : Int) - 87 else -1 := by decide +kernel
theorem hexd_b (b : UInt8) : hexd b.toNat = if 48 ≤ b.toNat ∧ b.toNat ≤ 57 then (b.toNat : Int) - 48 else if 97 ≤ low6 b ∧ low6 b ≤ 102 then (low6 b : Int) - 87 else -1 := hexd_low ⟨b.toNat, b.toNat_lt⟩
def hpow (j : Nat) : Int := ([1, 16, 256, 4096, 65536] : List Int).getD j 0
theorem hpow_step {j : Nat} (h : j < 4) {v d : Int} (h0 : 0 ≤ v) (h1 : v < hpow j) (hd : 0 ≤ d ∧ d ≤ 15) : v < 4096 ∧ 16 * v + d < hpow (j + 1) := by
  have : j = 0 ∨ j = 1 ∨ j = 2 ∨ j = 3 := by omega
  rcases this with rfl | rfl | rfl | rfl <;> simp [hpow] at * <;> omega
theorem hexF_go {s : ByteArray} {i e : Nat} {v : Int} (h : i < e) (hs : i < s.size) (hd : 0 ≤ hexd (bat s i).toNat) : hexF s i e v = hexF s (i + 1) e (16 * v + hexd (bat s i).toNat) := by
  rw [hexF, if_pos h, if_neg (by omega), if_neg (by omega)]
theorem hexF_stop {s : ByteArray} {i e : Nat} {v : Int} (h : i < e) (hs : s.size ≤ i ∨ hexd (bat s i).toNat < 0) : hexF s i e v = (0, (i : Int)) := by
  rw [hexF, if_pos h]
  by_cases h1 : s.size ≤ i
  · rw [if_pos h1]
  · rw [if_neg h1, if_pos (by omega)]
theorem hexF_done {s : ByteArray} {e : Nat} {v : Int} : hexF s e e v = (v, -1) := by rw [hexF, if_neg (by omega)]
end Lg
set_option maxRecDepth 20000
set_option maxHeartbeats 4000000
namespace Lg
open Go Go.Proofs Go.RowKit
variable [GLay] 
theorem shex_c (s : ByteArray) (a p : Nat) (cs : List AV) (σ : List AO) (hσ : σ[p]? = some (.box cs)) (hk : cs[0]? = some (.str s)) (hs : s.size ≤ 1000000) (ha : a ≤ 1000000) : ACalls Tryd.prog 77 [.ptr p 0, .int .i64 (a : Int)] σ (Ret (.tup [.int .i32 (rhex s a).1, .int .i64 (rhex s a).2]) σ) := by
 refine ACalls_body Tryd.func77 rfl Tryd.ntmps77 (res2 Tryd.results77) (Nat.le_of_ble_eq_true rfl) (fun hcl hal => ?_)
 refine zw2 ?_
 refine zw1 ?_
 refine AWp_seq ?_
 refine zw2 ?_
 refine AWp_block ?_
 -- loop 0 LIVE 0:param 1:param 4:assign 5:assign 6:assign 7:assign
 refine AWp_loop (ι := Nat × Int) (fun z => z.1 ≤ 4 ∧ 0 ≤ z.2 ∧ z.2 < hpow z.1 ∧ rhex s a = hexF s (a + z.1) (a + 4) z.2) (fun z => ⟨[], [(0, .ptr p 0), (1, .int .i64 (a : Int)), (4, .int .i32 0), (5, .int .i64 0), (6, .int .i32 z.2), (7, .int .i64 ((a + z.1 : Nat) : Int))]⟩) (fun z => σ) (fun z => 4 - z.1) ((0, 0)) (⟨by decide, by decide, by decide, rfl⟩) ?_ rfl (fun z hi => ?_)
 ·exact ⟨rfl, rfl, rfl, rfl, rfl, rfl, rfl, trivial⟩
 obtain ⟨j, v⟩ := z
 obtain ⟨hj, hv0, hv1, hF⟩ := hi
 simp only at hj hv0 hv1 hF ⊢
 refine AWp_seq ?_
 refine zw4 ?_
 refine AWp_cond rfl (fun h1 => ?_) (fun h1 => ?_)
 ·(try rw [h1]); replace h1 := zcl h1
  refine AWp_skip ?_
  refine AWp_seq ?_
  refine AWp_block ?_
  refine AWp_seq ?_
  refine zu4 ?_
  refine zt rfl (op_load1 rfl Tryd.isAgg9 (ldv_ptr hσ (tk1_get hk))) ?_
  refine zv2 ?_
  refine AWp_cond rfl (fun h2 => ?_) (fun h2 => ?_)
  ·(try rw [h2]); replace h2 := zcl h2
   refine zw3 ?_
   refine zrt ?_
   refine ResQ_20 rfl rfl hcl (by simp [AV.lt, AV.ltL]) (Ret_of ?_)
   rw [hF, hexF_stop (by omega) (.inl (by omega))]
  ·(try rw [h2]); replace h2 := zcl h2
   refine AWp_skip ?_
   refine zu3 ?_
   refine zt rfl (op_load1 rfl Tryd.isAgg9 (ldv_ptr hσ (tk1_get hk))) ?_
   refine zg2 ?_
   simp only [Int.toNat_natCast]
   have hhx := hexd_b (bat s (a + j))
   have hll := hexd_lt (bat s (a + j)).toNat
   have hl6 := low6_lt (bat s (a + j))
   have hcl8 := (bat s (a + j)).toNat_lt
   generalize hcb : bat s (a + j) = c at hhx hll hl6 hcl8 ⊢
   have hv4 : v < 4096 := (hpow_step (j := j) (v := v) (d := 0) (by omega) hv0 hv1 (by omega)).1
   refine zt rfl (op_or rfl rfl rfl (or32 c)) ?_
   refine zv1 ?_
   refine AWp_block ?_
   refine zu3 ?_
   refine zt rfl (op_load1 rfl Tryd.isAgg9 (ldv_ptr hσ (tk1_get hk))) ?_
   refine zg2 ?_
   simp only [Int.toNat_natCast]
   rw [hcb]
   refine zg2 ?_
   refine zsp 40 rfl (fun h3 => ?_) fun h3 => ?_
   ·rw [h3]; replace h3 := zcl h3
    refine zg3 ?_
    refine ztG rfl rfl (op_load1 rfl Tryd.isAgg9 (ldv_ptr hσ (tk1_get hk))) ?_
    refine zg2 ?_
    simp only [Int.toNat_natCast]
    rw [hcb]
    refine zv3 ?_
    refine AWp_cond rfl (fun h4 => ?_) (fun h4 => ?_)
    ·(try rw [h4]); replace h4 := zcl h4
     refine AWp_regL ?_
     refine zg1 ?_
     refine zt rfl (op_mulW rfl rfl rfl (i32_in (by omega) (by omega))) ?_
     refine zg3 ?_
     refine zt rfl (op_load1 rfl Tryd.isAgg9 (ldv_ptr hσ (tk1_get hk))) ?_
     refine zg2 ?_
     simp only [Int.toNat_natCast]
     rw [hcb]
     refine zt rfl (op_subW rfl rfl rfl (wrapu8_in (by omega) (by omega))) ?_
     refine zt rfl (op_convIn rfl (by rw [Tryd.underlying5]; rfl) Tryd.underlying21 rfl (i32_in (by omega) (by omega))) ?_
     refine zt rfl (op_addW rfl rfl rfl (i32_in (by omega) (by omega))) ?_
     refine zv1 ?_
     refine AWp_regL ?_
     refine zv3 ?_
     have hst := hpow_step (j := j) (v := v) (d := hexd c.toNat) (by omega) hv0 hv1 (by omega)
     refine ⟨(j + 1, 16 * v + hexd c.toNat), σ.length, ⟨by simp only; omega, by simp only; omega, hst.2, by rw [hF]; exact hexF_go (by omega) (by omega) (by rw [hcb]; omega) |>.trans (by rw [hcb]; rfl)⟩, by simp only; omega, Nat.le_refl _, ⟨rfl, rfl, rfl, rfl, rfl, ?_, rfl, trivial⟩, hcl, ?_, List.take_length⟩
     ·refine congrArg (AV.int .i32) (?_ : _ = _); omega
     ·simp [ltE, AV.lt, AV.ltL]; exact get_lt hσ
    ·(try rw [h4]); replace h4 := zcl h4
     refine zu3 ?_
     refine zsp 63 rfl (fun h5 => ?_) fun h5 => ?_
     ·rw [h5]; replace h5 := zcl h5
      refine zv4 ?_
      refine AWp_cond rfl (fun h6 => ?_) (fun h6 => ?_)
      ·(try rw [h6]); replace h6 := zcl h6
       refine AWp_regL ?_
       refine zg1 ?_
       refine zt rfl (op_mulW rfl rfl rfl (i32_in (by omega) (by omega))) ?_
       refine zg1 ?_
       refine zt rfl (op_subW rfl rfl rfl (wrapu8_in (by omega) (by omega))) ?_
       refine zt rfl (op_convIn rfl (by rw [Tryd.underlying5]; rfl) Tryd.underlying21 rfl (i32_in (by omega) (by omega))) ?_
       refine zt rfl (op_addW rfl rfl rfl (i32_in (by omega) (by omega))) ?_
       refine zt rfl (op_addW rfl rfl rfl (i32_in (by omega) (by omega))) ?_
       refine zv1 ?_
       refine AWp_regL ?_
       refine zv3 ?_
       have hst := hpow_step (j := j) (v := v) (d := hexd c.toNat) (by omega) hv0 hv1 (by omega)
       refine ⟨(j + 1, 16 * v + hexd c.toNat), σ.length, ⟨by simp only; omega, by simp only; omega, hst.2, by rw [hF]; exact hexF_go (by omega) (by omega) (by rw [hcb]; omega) |>.trans (by rw [hcb]; rfl)⟩, by simp only; omega, Nat.le_refl _, ⟨rfl, rfl, rfl, rfl, rfl, ?_, rfl, trivial⟩, hcl, ?_, List.take_length⟩
       ·refine congrArg (AV.int .i32) (?_ : _ = _); omega
       ·simp [ltE, AV.lt, AV.ltL]; exact get_lt hσ
      ·(try rw [h6]); replace h6 := zcl h6
       refine zw3 ?_
       refine zrt ?_
       refine ResQ_20 rfl rfl hcl (by simp [AV.lt, AV.ltL]) (Ret_of ?_)
       first | (rw [hF, show a + j = a + 4 by omega, hexF_done]; done) | (rw [hF, hexF_stop (by omega) (.inr (by rw [hcb]; omega))])
     ·rw [h5]; replace h5 := zcl h5
      refine zv4 ?_
      refine AWp_condF rfl ?_
      refine zw3 ?_
      refine zrt ?_
      refine ResQ_20 rfl rfl hcl (by simp [AV.lt, AV.ltL]) (Ret_of ?_)
      first | (rw [hF, show a + j = a + 4 by omega, hexF_done]; done) | (rw [hF, hexF_stop (by omega) (.inr (by rw [hcb]; omega))])
   ·rw [h3]; replace h3 := zcl h3
    refine zv9 ?_
    refine AWp_condF rfl ?_
    refine zu3 ?_
    refine zsp 63 rfl (fun h7 => ?_) fun h7 => ?_
    ·rw [h7]; replace h7 := zcl h7
     refine zv4 ?_
     refine AWp_cond rfl (fun h8 => ?_) (fun h8 => ?_)
     ·(try rw [h8]); replace h8 := zcl h8
      refine AWp_regL ?_
      refine zg1 ?_
      refine zt rfl (op_mulW rfl rfl rfl (i32_in (by omega) (by omega))) ?_
      refine zg1 ?_
      refine zt rfl (op_subW rfl rfl rfl (wrapu8_in (by omega) (by omega))) ?_
      refine zt rfl (op_convIn rfl (by rw [Tryd.underlying5]; rfl) Tryd.underlying21 rfl (i32_in (by omega) (by omega))) ?_
      refine zt rfl (op_addW rfl rfl rfl (i32_in (by omega) (by omega))) ?_
      refine zt rfl (op_addW rfl rfl rfl (i32_in (by omega) (by omega))) ?_
      refine zv1 ?_
      refine AWp_regL ?_
      refine zv3 ?_
      have hst := hpow_step (j := j) (v := v) (d := hexd c.toNat) (by omega) hv0 hv1 (by omega)
      refine ⟨(j + 1, 16 * v + hexd c.toNat), σ.length, ⟨by simp only; omega, by simp only; omega, hst.2, by rw [hF]; exact hexF_go (by omega) (by omega) (by rw [hcb]; omega) |>.trans (by rw [hcb]; rfl)⟩, by simp only; omega, Nat.le_refl _, ⟨rfl, rfl, rfl, rfl, rfl, ?_, rfl, trivial⟩, hcl, ?_, List.take_length⟩
      ·refine congrArg (AV.int .i32) (?_ : _ = _); omega
      ·simp [ltE, AV.lt, AV.ltL]; exact get_lt hσ
     ·(try rw [h8]); replace h8 := zcl h8
      refine zw3 ?_
      refine zrt ?_
      refine ResQ_20 rfl rfl hcl (by simp [AV.lt, AV.ltL]) (Ret_of ?_)
      first | (rw [hF, show a + j = a + 4 by omega, hexF_done]; done) | (rw [hF, hexF_stop (by omega) (.inr (by rw [hcb]; omega))])
    ·rw [h7]; replace h7 := zcl h7
     refine zv4 ?_
     refine AWp_condF rfl ?_
     refine zw3 ?_
     refine zrt ?_
     refine ResQ_20 rfl rfl hcl (by simp [AV.lt, AV.ltL]) (Ret_of ?_)
     first | (rw [hF, show a + j = a + 4 by omega, hexF_done]; done) | (rw [hF, hexF_stop (by omega) (.inr (by rw [hcb]; omega))])
 ·(try rw [h1]); replace h1 := zcl h1
  refine AWp_exit ?_
  refine zw3 ?_
  refine zrt ?_
  refine ResQ_20 rfl rfl hcl (by simp [AV.lt, AV.ltL]) (Ret_of ?_)
  first | (rw [hF, show a + j = a + 4 by omega, hexF_done]; done) | (rw [hF, hexF_stop (by omega) (.inr (by rw [hcb]; omega))])
end Lg
namespace Lg
open Go Go.RowKit
variable [GLay]
variable {P : Program} {σ : List AO} {e : Env} {o : Oper}
theorem or192f : ∀ b : Fin 32, IntKind.u8.wrap ((BitVec.ofInt IntKind.u8.bits 192 ||| BitVec.ofInt IntKind.u8.bits (b.val : Int)).toNat : Int) = 192 + (b.val : Int) := by decide +kernel
theorem or224f : ∀ b : Fin 16, IntKind.u8.wrap ((BitVec.ofInt IntKind.u8.bits 224 ||| BitVec.ofInt IntKind.u8.bits (b.val : Int)).toNat : Int) = 224 + (b.val : Int) := by decide +kernel
theorem or240f : ∀ b : Fin 8, IntKind.u8.wrap ((BitVec.ofInt IntKind.u8.bits 240 ||| BitVec.ofInt IntKind.u8.bits (b.val : Int)).toNat : Int) = 240 + (b.val : Int) := by decide +kernel
theorem or128f : ∀ b : Fin 64, IntKind.u8.wrap ((BitVec.ofInt IntKind.u8.bits 128 ||| BitVec.ofInt IntKind.u8.bits (b.val : Int)).toNat : Int) = 128 + (b.val : Int) := by decide +kernel
theorem and63f : ∀ b : Fin 256, IntKind.u8.wrap ((BitVec.ofInt IntKind.u8.bits (b.val : Int) &&& BitVec.ofInt IntKind.u8.bits 63).toNat : Int) = ((b.val % 64 : Nat) : Int) := by decide +kernel
theorem or192 {n : Int} (h0 : 0 ≤ n) (h1 : n < 32) : IntKind.u8.wrap ((BitVec.ofInt IntKind.u8.bits 192 ||| BitVec.ofInt IntKind.u8.bits n).toNat : Int) = 192 + n := by
  have := or192f ⟨n.toNat, by omega⟩; rwa [show ((n.toNat : Nat) : Int) = n by omega] at this
theorem or224 {n : Int} (h0 : 0 ≤ n) (h1 : n < 16) : IntKind.u8.wrap ((BitVec.ofInt IntKind.u8.bits 224 ||| BitVec.ofInt IntKind.u8.bits n).toNat : Int) = 224 + n := by
  have := or224f ⟨n.toNat, by omega⟩; rwa [show ((n.toNat : Nat) : Int) = n by omega] at this
theorem or240 {n : Int} (h0 : 0 ≤ n) (h1 : n < 8) : IntKind.u8.wrap ((BitVec.ofInt IntKind.u8.bits 240 ||| BitVec.ofInt IntKind.u8.bits n).toNat : Int) = 240 + n := by
  have := or240f ⟨n.toNat, by omega⟩; rwa [show ((n.toNat : Nat) : Int) = n by omega] at this
theorem or128 {n : Int} (h0 : 0 ≤ n) (h1 : n < 64) : IntKind.u8.wrap ((BitVec.ofInt IntKind.u8.bits 128 ||| BitVec.ofInt IntKind.u8.bits n).toNat : Int) = 128 + n := by
  have := or128f ⟨n.toNat, by omega⟩; rwa [show ((n.toNat : Nat) : Int) = n by omega] at this
theorem and63 {n r : Int} (h0 : 0 ≤ n) (h1 : n < 256) (hr : n % 64 = r) : IntKind.u8.wrap ((BitVec.ofInt IntKind.u8.bits n &&& BitVec.ofInt IntKind.u8.bits 63).toNat : Int) = r := by
  have := and63f ⟨n.toNat, by omega⟩
  simp only at this
  rw [show ((n.toNat : Nat) : Int) = n by omega] at this
  rw [this]; omega
theorem op_convW {S T : TypeId} {x : Operand} {k k' : IntKind} {n r : Int} (ho : o.op = .convert S T x) (hs : (P.underlying S).isSome = true) (hd : P.underlying T = some (.int k')) (hx : opv e x = .int k n) (hr : k'.wrap n = r) : AOp P σ e o (.int k' r) σ := by
  have := op_convInt (P := P) (σ := σ) ho hs hd hx; rwa [hr] at this
theorem u8_mod {n r : Int} (h : n % 256 = r) : IntKind.u8.wrap n = r := by
  rw [Go.IntKind.wrap_u8]; exact h
theorem u32_in {n : Int} (h0 : 0 ≤ n) (h1 : n < 4294967296) : IntKind.u32.wrap n = n := by
  rw [Go.IntKind.wrap_u32]; omega
theorem sb1 {a : Int} (ha : 0 ≤ a ∧ a < 256) : srcv σ (.sl true 1 [[.int .u8 a]]) = some (bav [u8b a], 1) := by
  simp [srcv, bav, u8b_toNat ha.1 ha.2]
theorem sb2 {a b : Int} (ha : 0 ≤ a ∧ a < 256) (hb : 0 ≤ b ∧ b < 256) : srcv σ (.sl true 1 [[.int .u8 a], [.int .u8 b]]) = some (bav [u8b a, u8b b], 2) := by
  simp [srcv, bav, u8b_toNat ha.1 ha.2, u8b_toNat hb.1 hb.2]
theorem sb3 {a b c : Int} (ha : 0 ≤ a ∧ a < 256) (hb : 0 ≤ b ∧ b < 256) (hc : 0 ≤ c ∧ c < 256) : srcv σ (.sl true 1 [[.int .u8 a], [.int .u8 b], [.int .u8 c]]) = some (bav [u8b a, u8b b, u8b c], 3) := by
  simp [srcv, bav, u8b_toNat ha.1 ha.2, u8b_toNat hb.1 hb.2, u8b_toNat hc.1 hc.2]
theorem sb4 {a b c d : Int} (ha : 0 ≤ a ∧ a < 256) (hb : 0 ≤ b ∧ b < 256) (hc : 0 ≤ c ∧ c < 256) (hd : 0 ≤ d ∧ d < 256) : srcv σ (.sl true 1 [[.int .u8 a], [.int .u8 b], [.int .u8 c], [.int .u8 d]]) = some (bav [u8b a, u8b b, u8b c, u8b d], 4) := by
  simp [srcv, bav, u8b_toNat ha.1 ha.2, u8b_toNat hb.1 hb.2, u8b_toNat hc.1 hc.2, u8b_toNat hd.1 hd.2]
/-- A character's bytes. -/
def rchL (v : Int) : List UInt8 := (rchar v).data.toList
theorem rch1 {v : Int} (h : v < 128) : rchL v = [u8b v] := by unfold rchL rchar; rw [if_pos h]
theorem rch2 {v : Int} (h : ¬ v < 128) (h2 : v < 2048) : rchL v = [u8b (192 + v / 64), u8b (128 + v % 64)] := by unfold rchL rchar; rw [if_neg h, if_pos h2]
theorem rch3 {v : Int} (h : ¬ v < 128) (h2 : ¬ v < 2048) (h3 : v < 65536) : rchL v = [u8b (224 + v / 4096), u8b (128 + v / 64 % 64), u8b (128 + v % 64)] := by unfold rchL rchar; rw [if_neg h, if_neg h2, if_pos h3]
theorem rch4 {v : Int} (h : ¬ v < 128) (h2 : ¬ v < 2048) (h3 : ¬ v < 65536) : rchL v = [u8b (240 + v / 262144), u8b (128 + v / 4096 % 64), u8b (128 + v / 64 % 64), u8b (128 + v % 64)] := by unfold rchL rchar; rw [if_neg h, if_neg h2, if_neg h3]
end Lg
set_option maxRecDepth 20000
set_option maxHeartbeats 4000000
namespace Lg
open Go Go.Proofs Go.RowKit
variable [GLay] 
theorem anr_c (v : Int) {σ : List AO} {q : Nat} {l : List UInt8} (hq : σ[q]? = some (.bytes 5 l)) (h0 : 128 ≤ v) (h1 : v ≤ 1114111) (hs : ¬ (55296 ≤ v ∧ v < 57344)) (hlen : l.length ≤ 100000000000000) : ACalls Tryd.prog 121 [.bts q l.length, .int .i32 v] σ (Ret (.bts q (l.length + (rchL v).length)) (σ.set q (.bytes 5 (l ++ rchL v)))) := by
 refine ACalls_body Tryd.func121 rfl Tryd.ntmps121 (res1 Tryd.results121) (Nat.le_of_ble_eq_true rfl) (fun hcl hal => ?_)
 have hr4 : (rchL v).length ≤ 4 := (rchar_size v).2
 refine zw1 ?_
 refine zu1 ?_
 refine zt rfl (op_convW (r := v) rfl (by rw [Tryd.underlying21]; rfl) Tryd.underlying139 rfl (u32_in (by omega) (by omega))) ?_
 refine zv1 ?_
 refine AWp_block ?_
 refine zw3 ?_
 refine AWp_cond rfl (fun h1 => ?_) (fun h1 => ?_)
 ·(try rw [h1]); replace h1 := zcl h1
  refine zu2 ?_
  refine zt rfl (op_shr rfl rfl rfl (by decide) (show v / 2 ^ min (6 : Int).toNat IntKind.i32.bits = v / 64 from rfl)) ?_
  refine zt rfl (op_convW (r := v / 64) rfl (by rw [Tryd.underlying21]; rfl) Tryd.underlying5 rfl (u8_mod (by omega))) ?_
  refine zt rfl (op_or rfl rfl rfl (or192 (by omega) (by omega))) ?_
  refine zg1 ?_
  refine zt rfl (op_convW (r := v % 256) rfl (by rw [Tryd.underlying21]; rfl) Tryd.underlying5 rfl (u8_mod (by omega))) ?_
  refine zt rfl (op_and rfl rfl rfl (and63 (r := v % 64) (by omega) (by omega) (by omega))) ?_
  refine zt rfl (op_or rfl rfl rfl (or128 (by omega) (by omega))) ?_
  refine zt rfl (op_buildSlice [[_], [_]] rfl Tryd.underlying56 Tryd.sizeOf5 Tryd.zeroValue5 rfl (by decide) (by decide) rfl rfl rfl rfl rfl) ?_
  refine zt rfl (op_appendB (l2 := rchL v) (d := .slice 5) rfl (.inr ⟨_, rfl⟩) Tryd.underlying56 Tryd.underlying56 (i := ((Tryd.prog.info? 5).getD default)) (by kernel_rfl) rfl rfl rfl rfl hq rfl (by rw [rch2 (by omega) (by omega)]; exact sb2 ⟨by omega, by omega⟩ ⟨by omega, by omega⟩) (by rfl) (by have hb : ((Tryd.prog.info? 5).getD default).bytes = 1 := (by kernel_rfl); rw [hb, Nat.mul_one]; omega) (by omega)) ?_
  refine zv1 ?_
  refine zrt ?_
  exact ResQ_1H List.length_set rfl (closed_set hcl trivial) (get_lt hq) ⟨rfl, rfl⟩
 ·(try rw [h1]); replace h1 := zcl h1
  refine AWp_seq ?_
  refine zw3 ?_
  refine AWp_cond rfl (fun h2 => ?_) (fun h2 => ?_)
  ·(try rw [h2]); replace h2 := zcl h2
   refine AWp_skip ?_
   refine AWp_condT rfl ?_
   refine zu2 ?_
   refine zt rfl (op_shr rfl rfl rfl (by decide) (show v / 2 ^ min (12 : Int).toNat IntKind.i32.bits = v / 4096 from rfl)) ?_
   refine zt rfl (op_convW (r := v / 4096) rfl (by rw [Tryd.underlying21]; rfl) Tryd.underlying5 rfl (u8_mod (by omega))) ?_
   refine zt rfl (op_or rfl rfl rfl (or224 (by omega) (by omega))) ?_
   refine zg1 ?_
   refine zt rfl (op_shr rfl rfl rfl (by decide) (show v / 2 ^ min (6 : Int).toNat IntKind.i32.bits = v / 64 from rfl)) ?_
   refine zt rfl (op_convW (r := v / 64 % 256) rfl (by rw [Tryd.underlying21]; rfl) Tryd.underlying5 rfl (u8_mod (by omega))) ?_
   refine zt rfl (op_and rfl rfl rfl (and63 (r := v / 64 % 64) (by omega) (by omega) (by omega))) ?_
   refine zt rfl (op_or rfl rfl rfl (or128 (by omega) (by omega))) ?_
   refine zg1 ?_
   refine zt rfl (op_convW (r := v % 256) rfl (by rw [Tryd.underlying21]; rfl) Tryd.underlying5 rfl (u8_mod (by omega))) ?_
   refine zt rfl (op_and rfl rfl rfl (and63 (r := v % 64) (by omega) (by omega) (by omega))) ?_
   refine zt rfl (op_or rfl rfl rfl (or128 (by omega) (by omega))) ?_
   refine zt rfl (op_buildSlice [[_], [_], [_]] rfl Tryd.underlying56 Tryd.sizeOf5 Tryd.zeroValue5 rfl (by decide) (by decide) rfl rfl rfl rfl rfl) ?_
   refine zt rfl (op_appendB (l2 := rchL v) (d := .slice 5) rfl (.inr ⟨_, rfl⟩) Tryd.underlying56 Tryd.underlying56 (i := ((Tryd.prog.info? 5).getD default)) (by kernel_rfl) rfl rfl rfl rfl hq rfl (by rw [rch3 (by omega) (by omega) (by omega)]; exact sb3 ⟨by omega, by omega⟩ ⟨by omega, by omega⟩ ⟨by omega, by omega⟩) (by rfl) (by have hb : ((Tryd.prog.info? 5).getD default).bytes = 1 := (by kernel_rfl); rw [hb, Nat.mul_one]; omega) (by omega)) ?_
   refine zv1 ?_
   refine zrt ?_
   exact ResQ_1H List.length_set rfl (closed_set hcl trivial) (get_lt hq) ⟨rfl, rfl⟩
  ·(try rw [h2]); replace h2 := zcl h2
   refine AWp_regL ?_
   refine zg3 ?_
   refine zsp 30 rfl (fun h3 => ?_) fun h3 => ?_
   ·rw [h3]; replace h3 := zcl h3
    refine zv4 ?_
    refine AWp_cond rfl (fun h4 => ?_) (fun h4 => ?_)
    ·(try rw [h4]); replace h4 := zcl h4
     refine zu2 ?_
     refine zt rfl (op_shr rfl rfl rfl (by decide) (show v / 2 ^ min (12 : Int).toNat IntKind.i32.bits = v / 4096 from rfl)) ?_
     refine zt rfl (op_convW (r := v / 4096) rfl (by rw [Tryd.underlying21]; rfl) Tryd.underlying5 rfl (u8_mod (by omega))) ?_
     refine zt rfl (op_or rfl rfl rfl (or224 (by omega) (by omega))) ?_
     refine zg1 ?_
     refine zt rfl (op_shr rfl rfl rfl (by decide) (show v / 2 ^ min (6 : Int).toNat IntKind.i32.bits = v / 64 from rfl)) ?_
     refine zt rfl (op_convW (r := v / 64 % 256) rfl (by rw [Tryd.underlying21]; rfl) Tryd.underlying5 rfl (u8_mod (by omega))) ?_
     refine zt rfl (op_and rfl rfl rfl (and63 (r := v / 64 % 64) (by omega) (by omega) (by omega))) ?_
     refine zt rfl (op_or rfl rfl rfl (or128 (by omega) (by omega))) ?_
     refine zg1 ?_
     refine zt rfl (op_convW (r := v % 256) rfl (by rw [Tryd.underlying21]; rfl) Tryd.underlying5 rfl (u8_mod (by omega))) ?_
     refine zt rfl (op_and rfl rfl rfl (and63 (r := v % 64) (by omega) (by omega) (by omega))) ?_
     refine zt rfl (op_or rfl rfl rfl (or128 (by omega) (by omega))) ?_
     refine zt rfl (op_buildSlice [[_], [_], [_]] rfl Tryd.underlying56 Tryd.sizeOf5 Tryd.zeroValue5 rfl (by decide) (by decide) rfl rfl rfl rfl rfl) ?_
     refine zt rfl (op_appendB (l2 := rchL v) (d := .slice 5) rfl (.inr ⟨_, rfl⟩) Tryd.underlying56 Tryd.underlying56 (i := ((Tryd.prog.info? 5).getD default)) (by kernel_rfl) rfl rfl rfl rfl hq rfl (by rw [rch3 (by omega) (by omega) (by omega)]; exact sb3 ⟨by omega, by omega⟩ ⟨by omega, by omega⟩ ⟨by omega, by omega⟩) (by rfl) (by have hb : ((Tryd.prog.info? 5).getD default).bytes = 1 := (by kernel_rfl); rw [hb, Nat.mul_one]; omega) (by omega)) ?_
     refine zv1 ?_
     refine zrt ?_
     exact ResQ_1H List.length_set rfl (closed_set hcl trivial) (get_lt hq) ⟨rfl, rfl⟩
    ·(try rw [h4]); replace h4 := zcl h4
     refine zu3 ?_
     refine zsp 53 rfl (fun h5 => ?_) fun h5 => ?_
     ·rw [h5]; replace h5 := zcl h5
      refine zv4 ?_
      refine AWp_cond rfl (fun h6 => ?_) (fun h6 => ?_)
      ·(try rw [h6]); replace h6 := zcl h6
       refine zu2 ?_
       refine zt rfl (op_shr rfl rfl rfl (by decide) (show v / 2 ^ min (18 : Int).toNat IntKind.i32.bits = v / 262144 from rfl)) ?_
       refine zt rfl (op_convW (r := v / 262144) rfl (by rw [Tryd.underlying21]; rfl) Tryd.underlying5 rfl (u8_mod (by omega))) ?_
       refine zt rfl (op_or rfl rfl rfl (or240 (by omega) (by omega))) ?_
       refine zg1 ?_
       refine zt rfl (op_shr rfl rfl rfl (by decide) (show v / 2 ^ min (12 : Int).toNat IntKind.i32.bits = v / 4096 from rfl)) ?_
       refine zt rfl (op_convW (r := v / 4096 % 256) rfl (by rw [Tryd.underlying21]; rfl) Tryd.underlying5 rfl (u8_mod (by omega))) ?_
       refine zt rfl (op_and rfl rfl rfl (and63 (r := v / 4096 % 64) (by omega) (by omega) (by omega))) ?_
       refine zt rfl (op_or rfl rfl rfl (or128 (by omega) (by omega))) ?_
       refine zg1 ?_
       refine zt rfl (op_shr rfl rfl rfl (by decide) (show v / 2 ^ min (6 : Int).toNat IntKind.i32.bits = v / 64 from rfl)) ?_
       refine zt rfl (op_convW (r := v / 64 % 256) rfl (by rw [Tryd.underlying21]; rfl) Tryd.underlying5 rfl (u8_mod (by omega))) ?_
       refine zt rfl (op_and rfl rfl rfl (and63 (r := v / 64 % 64) (by omega) (by omega) (by omega))) ?_
       refine zt rfl (op_or rfl rfl rfl (or128 (by omega) (by omega))) ?_
       refine zg1 ?_
       refine zt rfl (op_convW (r := v % 256) rfl (by rw [Tryd.underlying21]; rfl) Tryd.underlying5 rfl (u8_mod (by omega))) ?_
       refine zt rfl (op_and rfl rfl rfl (and63 (r := v % 64) (by omega) (by omega) (by omega))) ?_
       refine zt rfl (op_or rfl rfl rfl (or128 (by omega) (by omega))) ?_
       refine zt rfl (op_buildSlice [[_], [_], [_], [_]] rfl Tryd.underlying56 Tryd.sizeOf5 Tryd.zeroValue5 rfl (by decide) (by decide) rfl rfl rfl rfl rfl) ?_
       refine zt rfl (op_appendB (l2 := rchL v) (d := .slice 5) rfl (.inr ⟨_, rfl⟩) Tryd.underlying56 Tryd.underlying56 (i := ((Tryd.prog.info? 5).getD default)) (by kernel_rfl) rfl rfl rfl rfl hq rfl (by rw [rch4 (by omega) (by omega) (by omega)]; exact sb4 ⟨by omega, by omega⟩ ⟨by omega, by omega⟩ ⟨by omega, by omega⟩ ⟨by omega, by omega⟩) (by rfl) (by have hb : ((Tryd.prog.info? 5).getD default).bytes = 1 := (by kernel_rfl); rw [hb, Nat.mul_one]; omega) (by omega)) ?_
       refine zv1 ?_
       refine zrt ?_
       exact ResQ_1H List.length_set rfl (closed_set hcl trivial) (get_lt hq) ⟨rfl, rfl⟩
      ·(try rw [h6]); replace h6 := zcl h6
       refine zu1 ?_
       refine zt rfl (op_buildSlice [[_], [_], [_]] rfl Tryd.underlying56 Tryd.sizeOf5 Tryd.zeroValue5 rfl (by decide) (by decide) rfl rfl rfl rfl rfl) ?_
       refine zt rfl (op_appendB (l2 := rchL v) (d := .slice 5) rfl (.inr ⟨_, rfl⟩) Tryd.underlying56 Tryd.underlying56 (i := ((Tryd.prog.info? 5).getD default)) (by kernel_rfl) rfl rfl rfl rfl hq rfl (by exfalso; omega) (by rfl) (by have hb : ((Tryd.prog.info? 5).getD default).bytes = 1 := (by kernel_rfl); rw [hb, Nat.mul_one]; omega) (by omega)) ?_
       refine zv1 ?_
       refine zrt ?_
       exact ResQ_1H List.length_set rfl (closed_set hcl trivial) (get_lt hq) ⟨rfl, rfl⟩
     ·rw [h5]; replace h5 := zcl h5
      refine zv4 ?_
      refine AWp_condF rfl ?_
      refine zu1 ?_
      refine zt rfl (op_buildSlice [[_], [_], [_]] rfl Tryd.underlying56 Tryd.sizeOf5 Tryd.zeroValue5 rfl (by decide) (by decide) rfl rfl rfl rfl rfl) ?_
      refine zt rfl (op_appendB (l2 := rchL v) (d := .slice 5) rfl (.inr ⟨_, rfl⟩) Tryd.underlying56 Tryd.underlying56 (i := ((Tryd.prog.info? 5).getD default)) (by kernel_rfl) rfl rfl rfl rfl hq rfl (by exfalso; omega) (by rfl) (by have hb : ((Tryd.prog.info? 5).getD default).bytes = 1 := (by kernel_rfl); rw [hb, Nat.mul_one]; omega) (by omega)) ?_
      refine zv1 ?_
      refine zrt ?_
      exact ResQ_1H List.length_set rfl (closed_set hcl trivial) (get_lt hq) ⟨rfl, rfl⟩
   ·rw [h3]; replace h3 := zcl h3
    refine zv4 ?_
    refine AWp_condF rfl ?_
    refine zu3 ?_
    refine zsp 53 rfl (fun h7 => ?_) fun h7 => ?_
    ·rw [h7]; replace h7 := zcl h7
     refine zv4 ?_
     refine AWp_cond rfl (fun h8 => ?_) (fun h8 => ?_)
     ·(try rw [h8]); replace h8 := zcl h8
      refine zu2 ?_
      refine zt rfl (op_shr rfl rfl rfl (by decide) (show v / 2 ^ min (18 : Int).toNat IntKind.i32.bits = v / 262144 from rfl)) ?_
      refine zt rfl (op_convW (r := v / 262144) rfl (by rw [Tryd.underlying21]; rfl) Tryd.underlying5 rfl (u8_mod (by omega))) ?_
      refine zt rfl (op_or rfl rfl rfl (or240 (by omega) (by omega))) ?_
      refine zg1 ?_
      refine zt rfl (op_shr rfl rfl rfl (by decide) (show v / 2 ^ min (12 : Int).toNat IntKind.i32.bits = v / 4096 from rfl)) ?_
      refine zt rfl (op_convW (r := v / 4096 % 256) rfl (by rw [Tryd.underlying21]; rfl) Tryd.underlying5 rfl (u8_mod (by omega))) ?_
      refine zt rfl (op_and rfl rfl rfl (and63 (r := v / 4096 % 64) (by omega) (by omega) (by omega))) ?_
      refine zt rfl (op_or rfl rfl rfl (or128 (by omega) (by omega))) ?_
      refine zg1 ?_
      refine zt rfl (op_shr rfl rfl rfl (by decide) (show v / 2 ^ min (6 : Int).toNat IntKind.i32.bits = v / 64 from rfl)) ?_
      refine zt rfl (op_convW (r := v / 64 % 256) rfl (by rw [Tryd.underlying21]; rfl) Tryd.underlying5 rfl (u8_mod (by omega))) ?_
      refine zt rfl (op_and rfl rfl rfl (and63 (r := v / 64 % 64) (by omega) (by omega) (by omega))) ?_
      refine zt rfl (op_or rfl rfl rfl (or128 (by omega) (by omega))) ?_
      refine zg1 ?_
      refine zt rfl (op_convW (r := v % 256) rfl (by rw [Tryd.underlying21]; rfl) Tryd.underlying5 rfl (u8_mod (by omega))) ?_
      refine zt rfl (op_and rfl rfl rfl (and63 (r := v % 64) (by omega) (by omega) (by omega))) ?_
      refine zt rfl (op_or rfl rfl rfl (or128 (by omega) (by omega))) ?_
      refine zt rfl (op_buildSlice [[_], [_], [_], [_]] rfl Tryd.underlying56 Tryd.sizeOf5 Tryd.zeroValue5 rfl (by decide) (by decide) rfl rfl rfl rfl rfl) ?_
      refine zt rfl (op_appendB (l2 := rchL v) (d := .slice 5) rfl (.inr ⟨_, rfl⟩) Tryd.underlying56 Tryd.underlying56 (i := ((Tryd.prog.info? 5).getD default)) (by kernel_rfl) rfl rfl rfl rfl hq rfl (by rw [rch4 (by omega) (by omega) (by omega)]; exact sb4 ⟨by omega, by omega⟩ ⟨by omega, by omega⟩ ⟨by omega, by omega⟩ ⟨by omega, by omega⟩) (by rfl) (by have hb : ((Tryd.prog.info? 5).getD default).bytes = 1 := (by kernel_rfl); rw [hb, Nat.mul_one]; omega) (by omega)) ?_
      refine zv1 ?_
      refine zrt ?_
      exact ResQ_1H List.length_set rfl (closed_set hcl trivial) (get_lt hq) ⟨rfl, rfl⟩
     ·(try rw [h8]); replace h8 := zcl h8
      refine zu1 ?_
      refine zt rfl (op_buildSlice [[_], [_], [_]] rfl Tryd.underlying56 Tryd.sizeOf5 Tryd.zeroValue5 rfl (by decide) (by decide) rfl rfl rfl rfl rfl) ?_
      refine zt rfl (op_appendB (l2 := rchL v) (d := .slice 5) rfl (.inr ⟨_, rfl⟩) Tryd.underlying56 Tryd.underlying56 (i := ((Tryd.prog.info? 5).getD default)) (by kernel_rfl) rfl rfl rfl rfl hq rfl (by exfalso; omega) (by rfl) (by have hb : ((Tryd.prog.info? 5).getD default).bytes = 1 := (by kernel_rfl); rw [hb, Nat.mul_one]; omega) (by omega)) ?_
      refine zv1 ?_
      refine zrt ?_
      exact ResQ_1H List.length_set rfl (closed_set hcl trivial) (get_lt hq) ⟨rfl, rfl⟩
    ·rw [h7]; replace h7 := zcl h7
     refine zv4 ?_
     refine AWp_condF rfl ?_
     refine zu1 ?_
     refine zt rfl (op_buildSlice [[_], [_], [_]] rfl Tryd.underlying56 Tryd.sizeOf5 Tryd.zeroValue5 rfl (by decide) (by decide) rfl rfl rfl rfl rfl) ?_
     refine zt rfl (op_appendB (l2 := rchL v) (d := .slice 5) rfl (.inr ⟨_, rfl⟩) Tryd.underlying56 Tryd.underlying56 (i := ((Tryd.prog.info? 5).getD default)) (by kernel_rfl) rfl rfl rfl rfl hq rfl (by exfalso; omega) (by rfl) (by have hb : ((Tryd.prog.info? 5).getD default).bytes = 1 := (by kernel_rfl); rw [hb, Nat.mul_one]; omega) (by omega)) ?_
     refine zv1 ?_
     refine zrt ?_
     exact ResQ_1H List.length_set rfl (closed_set hcl trivial) (get_lt hq) ⟨rfl, rfl⟩

theorem ar_c (v : Int) {σ : List AO} {q : Nat} {l : List UInt8} (hq : σ[q]? = some (.bytes 5 l)) (hv0 : 0 ≤ v) (hv1 : v ≤ 1114111) (hs : ¬ (55296 ≤ v ∧ v < 57344)) (hlen : l.length ≤ 100000000000000) : ACalls Tryd.prog 103 [.bts q l.length, .int .i32 v] σ (Ret (.bts q (l.length + (rchL v).length)) (σ.set q (.bytes 5 (l ++ rchL v)))) := by
 refine ACalls_body Tryd.func103 rfl Tryd.ntmps103 (res1 Tryd.results103) (Nat.le_of_ble_eq_true rfl) (fun hcl hal => ?_)
 have hr4 : (rchL v).length ≤ 4 := (rchar_size v).2
 refine zw1 ?_
 refine AWp_seq ?_
 refine zu1 ?_
 refine zt rfl (op_convW (r := v) rfl (by rw [Tryd.underlying21]; rfl) Tryd.underlying139 rfl (u32_in (by omega) (by omega))) ?_
 refine zv1 ?_
 refine AWp_cond rfl (fun h1 => ?_) (fun h1 => ?_)
 ·(try rw [h1]); replace h1 := zcl h1
  refine zu2 ?_
  refine zt rfl (op_convW (r := v) rfl (by rw [Tryd.underlying21]; rfl) Tryd.underlying5 rfl (u8_mod (by omega))) ?_
  refine zt rfl (op_buildSlice [[_]] rfl Tryd.underlying56 Tryd.sizeOf5 Tryd.zeroValue5 rfl (by decide) (by decide) rfl rfl rfl rfl rfl) ?_
  refine zt rfl (op_appendB (l2 := rchL v) (d := .slice 5) rfl (.inr ⟨_, rfl⟩) Tryd.underlying56 Tryd.underlying56 (i := ((Tryd.prog.info? 5).getD default)) (by kernel_rfl) rfl rfl rfl rfl hq rfl (by rw [rch1 (by omega)]; exact sb1 ⟨by omega, by omega⟩) (by rfl) (by have hb : ((Tryd.prog.info? 5).getD default).bytes = 1 := (by kernel_rfl); rw [hb, Nat.mul_one]; omega) (by omega)) ?_
  refine zv1 ?_
  refine zrt ?_
  exact ResQ_1H List.length_set rfl (closed_set hcl trivial) (get_lt hq) ⟨rfl, rfl⟩
 ·(try rw [h1]); replace h1 := zcl h1
  refine AWp_skip ?_
  refine zu2 ?_
  refine zt rfl (zc rfl (anr_c v hq (by omega) hv1 hs hlen)) ?_
  refine zv1 ?_
  refine zrt ?_
  exact ResQ_1H List.length_set rfl (closed_set hcl trivial) (get_lt hq) ⟨rfl, rfl⟩

theorem wr_c (v : Int) {σ : List AO} {p off q : Nat} {cs : List AV} {l : List UInt8} (h : BldT Tryd.prog 58 5 σ p off q cs l) (hv0 : 0 ≤ v) (hv1 : v ≤ 1114111) (hs : ¬ (55296 ≤ v ∧ v < 57344)) (hlen : l.length + 4 ≤ 100000000000000) : ACalls Tryd.prog 79 [.ptr p off, .int .i32 v] σ (Ret (.tup [.int .i64 ((rchL v).length : Int), .nili]) ((σ.set p (.box (bcs cs p off q (l.length + (rchL v).length)))).set q (.bytes 5 (l ++ rchL v)))) := by
 refine ACalls_body Tryd.func79 rfl Tryd.ntmps79 (res2 Tryd.results79) (Nat.le_of_ble_eq_true rfl) (fun hcl hal => ?_)
 have hb1 : (cs.set off (.ptr p off))[off + 1]? = some (.bts q l.length) := by rw [List.getElem?_set, if_neg (by omega)]; exact h.buf
 have hpl := get_lt h.box
 have hql := get_lt h.row
 have hp1 := set_getB (σ := σ) (.box (cs.set off (.ptr p off))) hpl
 have hq1 : (σ.set p (.box (cs.set off (.ptr p off))))[q]? = some (.bytes 5 l) := by rw [set_get_neB _ h.ne]; exact h.row
 have hol : off + 1 < (cs.set off (.ptr p off)).length := (List.getElem?_eq_some_iff.1 hb1).1
 have hp2 : ((σ.set p (.box (cs.set off (.ptr p off)))).set q (.bytes 5 (l ++ rchL v)))[p]? = some (.box (cs.set off (.ptr p off))) := by rw [set_get_neB _ h.ne.symm]; exact hp1
 have hr4 : (rchL v).length ≤ 4 := (rchar_size v).2
 have hp3 : (((σ.set p (.box (cs.set off (.ptr p off)))).set q (.bytes 5 (l ++ rchL v))).set p (.box ((cs.set off (.ptr p off)).set (off + 1) (.bts q (l.length + (rchL v).length)))))[p]? = some (.box ((cs.set off (.ptr p off)).set (off + 1) (.bts q (l.length + (rchL v).length)))) := set_getB _ (by simp; exact hpl)
 have hb3 : ((cs.set off (.ptr p off)).set (off + 1) (.bts q (l.length + (rchL v).length)))[off + 1]? = some (.bts q (l.length + (rchL v).length)) := by rw [List.getElem?_set, if_pos rfl, if_pos hol]
 have hq3 : (((σ.set p (.box (cs.set off (.ptr p off)))).set q (.bytes 5 (l ++ rchL v))).set p (.box ((cs.set off (.ptr p off)).set (off + 1) (.bts q (l.length + (rchL v).length)))))[q]? = some (.bytes 5 (l ++ rchL v)) := by rw [set_get_neB _ h.ne, set_getB _ (by simp; exact hql)]
 refine zw2 ?_
 refine zu1 ?_
 refine zt rfl (zc rfl (cc_c h)) ?_
 refine zon ?_
 refine zu3 ?_
 refine zt rfl (op_load1 rfl Tryd.isAgg56 (ldv_ptr hp1 (tk1_get hb1))) ?_
 refine zt rfl (op_lenB rfl rfl Tryd.underlying56 rfl hq1 rfl) ?_
 refine zv1 ?_
 refine zu4 ?_
 refine zt rfl (op_load1 rfl Tryd.isAgg56 (ldv_ptr hp1 (tk1_get hb1))) ?_
 refine zg1 ?_
 refine zt rfl (zc rfl (ar_c v hq1 hv0 hv1 hs (by omega))) ?_
 refine zg2 ?_
 refine ztN rfl rfl (op_storeP (r := (cs.set off (.ptr p off)).set (off + 1) (.bts q (l.length + (rchL v).length))) rfl Tryd.sizeOf56 rfl rfl rfl hp2 (spl1_set _ hol) (by decide)) ?_
 refine zon ?_
 refine zu3 ?_
 refine zt rfl (op_load1 rfl Tryd.isAgg56 (ldv_ptr hp3 (tk1_get hb3))) ?_
 refine zt rfl (op_lenB rfl rfl Tryd.underlying56 rfl hq3 (by rw [List.length_append])) ?_
 refine zv4 ?_
 refine zrt ?_
 refine ResQ_2H (by simp) rfl rfl (closed_set (closed_set (closed_set hcl (ltL_set (closed_box hcl h.box) hpl)) trivial) (ltL_set (ltL_set (closed_box hcl h.box) hpl) hql)) (by simp [AV.lt, AV.ltL]) ?_
 show Ret _ _ _ _; rw [show (((σ.set p (.box (cs.set off (.ptr p off)))).set q (.bytes 5 (l ++ rchL v))).set p (.box ((cs.set off (.ptr p off)).set (off + 1) (.bts q (l.length + (rchL v).length))))) = ((σ.set p (.box (bcs cs p off q (l.length + (rchL v).length)))).set q (.bytes 5 (l ++ rchL v))) by rw [List.set_comm _ _ h.ne.symm, List.set_set]; rfl]
 refine ⟨?_, rfl⟩
 refine congrArg Out.ret (congrArg AV.tup ?_)
 refine congrArg (fun z => [AV.int .i64 z, .nili]) (?_ : _ = _); omega
end Lg
namespace Lg
open Go Go.RowKit
variable [GLay]
variable {P : Program} {σ : List AO} {s : ByteArray} {i j : Int} {a : AV} {T : TypeId} {l l' : List UInt8}
/-- The program's reader of a quoted text: its box, and its Builder's row. -/
def rdrO (σ : List AO) (s : ByteArray) (i : Int) (a : AV) (T : TypeId) (l : List UInt8) : List AO := σ ++ [.box [.str s, .int .i64 i, a, .bts (σ.length + 1) l.length], .bytes T l]
theorem rdr_box : (rdrO σ s i a T l)[σ.length]? = some (.box [.str s, .int .i64 i, a, .bts (σ.length + 1) l.length]) := by simp [rdrO]
theorem rdr_at : (rdrO σ s i a T l).set σ.length (.box [.str s, .int .i64 j, a, .bts (σ.length + 1) l.length]) = rdrO σ s j a T l := by
  unfold rdrO; rw [List.set_append_right _ _ (Nat.le_refl _), Nat.sub_self]; rfl
theorem rdr_len : (rdrO σ s i a T l).length = σ.length + 2 := by simp [rdrO]
theorem rdr_T {B : TypeId} (ha : a = .ptr σ.length 2 ∨ ∃ U n, a = .nilT σ.length U n ∧ liesAt P P.depth U (n / P.cellsOf U) 2 B 1 = true) : BldT P B T (rdrO σ s i a T l) σ.length 2 (σ.length + 1) [.str s, .int .i64 i, a, .bts (σ.length + 1) l.length] l where
  box := rdr_box
  adr := by
    rcases ha with rfl | ⟨U, n, rfl, h⟩
    · exact .inl rfl
    · exact .inr ⟨U, n, rfl, h⟩
  buf := rfl
  row := by simp [rdrO]
theorem rdr_set : ((rdrO σ s i a T l).set σ.length (.box (bcs [.str s, .int .i64 i, a, .bts (σ.length + 1) l.length] σ.length 2 (σ.length + 1) l'.length))).set (σ.length + 1) (.bytes T l') = rdrO σ s i (.ptr σ.length 2) T l' := by
  unfold rdrO bcs
  rw [List.set_append_right _ _ (Nat.le_refl _), Nat.sub_self, List.set_append_right _ _ (by omega), Nat.add_sub_cancel_left]
  rfl
theorem rdr_closed (hc : closed σ.length σ) (ha : a.lt (σ.length + 2)) : closed (σ.length + 2) (rdrO σ s i a T l) :=
  closed_own 2 hc (by simp [ownLt, AO.cells, AV.ltL, AV.lt, ha])
theorem rdr_take : (rdrO σ s i a T l).take (σ.length + 2) = rdrO σ s i a T l := List.take_of_length_le (by simp [rdrO])
end Lg
set_option maxRecDepth 20000
set_option maxHeartbeats 4000000
namespace Lg
open Go Go.Proofs Go.RowKit
variable [GLay] 
theorem hasPreB_c (s t : ByteArray) (σ : List AO) (hs : s.size ≤ 1000000) (ht : t.size ≤ 1000000) : ACalls Tryd.prog 102 [.str s, .str t] σ (Ret (.bool (decide (t.size ≤ s.size) && decide (s.extract 0 t.size = t))) σ) := by
 refine ACalls_body Tryd.func102 rfl Tryd.ntmps102 (res1 Tryd.results102) (Nat.le_of_ble_eq_true rfl) (fun hcl hal => ?_)
 refine zw1 ?_
 refine zu6 ?_
 refine zsp 10 rfl (fun h1 => ?_) fun h1 => ?_
 ·rw [h1]; replace h1 := zcl h1
  refine zv8 ?_
  refine zrt ?_
  refine ResQ_10 rfl hcl trivial (Ret_of ?_)
  rw [decide_eq_true (show t.size ≤ s.size by omega), Bool.true_and]; rfl
 ·rw [h1]; replace h1 := zcl h1
  refine zv8 ?_
  refine zrt ?_
  refine ResQ_10 rfl hcl trivial (Ret_of ?_)
  rw [decide_eq_false (show ¬ t.size ≤ s.size by omega), Bool.false_and]

theorem tHasPreB_c (s t : ByteArray) (σ : List AO) (hs : s.size ≤ 1000000) (ht : t.size ≤ 1000000) : ACalls Tryd.prog 78 [.str s, .str t] σ (Ret (.bool (decide (t.size ≤ s.size) && decide (s.extract 0 t.size = t))) σ) := by
 refine ACalls_body Tryd.func78 rfl Tryd.ntmps78 (res1 Tryd.results78) (Nat.le_of_ble_eq_true rfl) (fun hcl hal => ?_)
 refine zw1 ?_
 refine zu2 ?_
 refine zt rfl (zc rfl (hasPreB_c s t _ hs ht)) ?_
 refine zv1 ?_
 refine zrt ?_
 exact ResQ_10 rfl hcl (by simp [AV.lt, AV.ltL]) ⟨rfl, rfl⟩
end Lg
namespace Lg
open Go
def hV (s : ByteArray) (i : Nat) : Int := (rhex s (i + 2)).1
def hB (s : ByteArray) (i : Nat) : Int := (rhex s (i + 2)).2
def uPair (s : ByteArray) (i : Nat) : Prop := 55296 ≤ hV s i ∧ hV s i < 56320 ∧ 0 ≤ rlow s (i + 6)
def uSur (s : ByteArray) (i : Nat) : Prop := 55296 ≤ hV s i ∧ hV s i < 57344
instance (s : ByteArray) (i : Nat) : Decidable (uPair s i) := by unfold uPair; exact inferInstance
instance (s : ByteArray) (i : Nat) : Decidable (uSur s i) := by unfold uSur; exact inferInstance
def pairV (s : ByteArray) (i : Nat) : Int := 65536 + 1024 * (hV s i - 55296) + rlow s (i + 6) - 56320
/-- What comes of a \\u: an error and its place; where the reader stands; what was written. -/
def uE (s : ByteArray) (i : Nat) : Option (Int × Int) := if 0 ≤ hB s i then some (hB s i, 1) else if uPair s i then none else if uSur s i then some ((i : Int), 2) else none
def uI (s : ByteArray) (i : Nat) : Int := if 0 ≤ hB s i then (i : Int) + 2 else if uPair s i then (i : Int) + 12 else (i : Int) + 6
def uO (s : ByteArray) (i : Nat) : List UInt8 := if 0 ≤ hB s i then [] else if uPair s i then rchL (pairV s i) else if uSur s i then [] else rchL (hV s i)
theorem u_bad {s : ByteArray} {i : Nat} (h : 0 ≤ hB s i) : uE s i = some (hB s i, 1) ∧ uI s i = (i : Int) + 2 ∧ uO s i = [] := by unfold uE uI uO; rw [if_pos h, if_pos h, if_pos h]; exact ⟨rfl, rfl, rfl⟩
theorem u_pair {s : ByteArray} {i : Nat} (h : ¬ 0 ≤ hB s i) (h2 : uPair s i) : uE s i = none ∧ uI s i = (i : Int) + 12 ∧ uO s i = rchL (pairV s i) := by unfold uE uI uO; simp only [if_neg h, if_pos h2]; exact ⟨trivial, trivial, trivial⟩
theorem u_sur {s : ByteArray} {i : Nat} (h : ¬ 0 ≤ hB s i) (h2 : ¬ uPair s i) (h3 : uSur s i) : uE s i = some ((i : Int), 2) ∧ uI s i = (i : Int) + 6 ∧ uO s i = [] := by unfold uE uI uO; simp only [if_neg h, if_neg h2, if_pos h3]; exact ⟨trivial, trivial, trivial⟩
theorem u_plain {s : ByteArray} {i : Nat} (h : ¬ 0 ≤ hB s i) (h2 : ¬ uPair s i) (h3 : ¬ uSur s i) : uE s i = none ∧ uI s i = (i : Int) + 6 ∧ uO s i = rchL (hV s i) := by unfold uE uI uO; simp only [if_neg h, if_neg h2, if_neg h3]; exact ⟨trivial, trivial, trivial⟩
theorem hV_ok (s : ByteArray) (i : Nat) : (hB s i < 0 → i + 6 ≤ s.size ∧ 0 ≤ hV s i ∧ hV s i < 65536) ∧ -1 ≤ hB s i ∧ (i + 2 ≤ s.size → hB s i ≤ s.size) := by
  unfold hB hV
  rcases rhex_ok s (i + 2) with ⟨h1, h2, h3, h4⟩ | ⟨h1, h2, h3, h4⟩
  · exact ⟨fun _ => ⟨by omega, h3, h4⟩, by omega, fun _ => by omega⟩
  · exact ⟨fun h => by omega, by omega, h4⟩
/-- Does a low half stand there? -/
theorem rlow_iff (s : ByteArray) (a : Nat) : 0 ≤ rlow s a ↔ (a + 2 ≤ s.size ∧ (bat s a).toNat = 92 ∧ (bat s (a + 1)).toNat = 117) ∧ (rhex s (a + 2)).2 < 0 ∧ 56320 ≤ (rhex s (a + 2)).1 ∧ (rhex s (a + 2)).1 < 57344 := by
  have h := rhex_ok s (a + 2)
  unfold rlow
  constructor
  · intro h0
    split at h0
    · omega
    · split at h0
      · omega
      · split at h0
        · omega
        · rename_i h1 h2 h3
          refine ⟨⟨by omega, by omega, by omega⟩, by omega, by omega, by omega⟩
  · rintro ⟨⟨h1, h2, h3⟩, h4, h5, h6⟩
    rw [if_neg (by omega), if_neg (by omega), if_neg (by omega)]; omega
theorem rlow_val {s : ByteArray} {a : Nat} (h : 0 ≤ rlow s a) : rlow s a = (rhex s (a + 2)).1 := by
  have h1 := (rlow_iff s a).1 h
  have h := rhex_ok s (a + 2)
  unfold rlow
  rw [if_neg (by omega), if_neg (by omega), if_neg (by omega)]
/-- Does \\u stand there? -/
theorem pre_u (s : ByteArray) (a : Nat) (h : a ≤ s.size) : (decide ((⟨#[92, 117]⟩ : ByteArray).size ≤ (s.extract a s.size).size) && decide ((s.extract a s.size).extract 0 (⟨#[92, 117]⟩ : ByteArray).size = ⟨#[92, 117]⟩)) = decide (a + 2 ≤ s.size ∧ (bat s a).toNat = 92 ∧ (bat s (a + 1)).toNat = 117) := by
  obtain ⟨l, rfl⟩ : ∃ l, s = ba l := ⟨_, ba_eta s⟩
  rw [ba_suf, ba_size, ba_size, show (⟨#[92, 117]⟩ : ByteArray).size = 2 from rfl, ba_pre, show (⟨#[92, 117]⟩ : ByteArray) = ba [92, 117] from rfl, bat_ba, bat_ba]
  have g0 : l.getD a 0 = (l.drop a).getD 0 0 := by simp [List.getD_eq_getElem?_getD]
  have g1 : l.getD (a + 1) 0 = (l.drop a).getD 1 0 := by simp [List.getD_eq_getElem?_getD]
  rw [ba_size] at h
  have hl : l.length = a + (l.drop a).length := by rw [List.length_drop]; omega
  rw [g0, g1, hl]
  have e92 : ∀ x : UInt8, x = 92 ↔ x.toNat = 92 := fun x => ⟨fun e => by rw [e]; rfl, fun e => UInt8.toNat_inj.1 e⟩
  have e117 : ∀ x : UInt8, x = 117 ↔ x.toNat = 117 := fun x => ⟨fun e => by rw [e]; rfl, fun e => UInt8.toNat_inj.1 e⟩
  cases hd : l.drop a with
  | nil => simp
  | cons x r =>
    cases r with
    | nil => simp
    | cons y r => simp [ba_inj, e92, e117]
end Lg
namespace Lg
open Go Go.RowKit
variable [GLay]
variable {P : Program} {σ : List AO} {e : Env} {o : Oper}
theorem op_shl {T T' : TypeId} {x y : Operand} {k yk : IntKind} {n m r : Int} (ho : o.op = .binOp .shl T x y T') (hx : opv e x = .int k n) (hy : opv e y = .int yk m) (hm : 0 ≤ m) (hr : k.wrap (n * 2 ^ min m.toNat k.bits) = r) : AOp P σ e o (.int k r) σ :=
  op_bin ho hx hy fun s cx cy _ _ h1 h2 => by
    rw [h1.inv_int, h2.inv_int]
    refine ⟨.int k r, ?_, .int _ _, by simp [eqGuard]⟩
    rw [← hr]
    simp only [binOp, Op.shift]
    rw [if_neg (by omega)]
    rfl
section
variable {s : ByteArray} {i j : Int} {a a' : AV} {T : TypeId} {l l' : List UInt8}
theorem rdr_closed2 (hc : closed (rdrO σ s i a T l).length (rdrO σ s i a T l)) (ha : a'.lt (rdrO σ s i a T l).length) : closed (rdrO σ s i a T l).length (rdrO σ s j a' T l') := by
  have e : rdrO σ s j a' T l' = ((rdrO σ s i a T l).set σ.length (.box [.str s, .int .i64 j, a', .bts (σ.length + 1) l'.length])).set (σ.length + 1) (.bytes T l') := by
    unfold rdrO
    rw [List.set_append_right _ _ (Nat.le_refl _), Nat.sub_self, List.set_append_right _ _ (by omega), Nat.add_sub_cancel_left]
    rfl
  rw [e]
  exact closed_set (closed_set hc (by rw [rdr_len] at ha ⊢; simp [AO.cells, AV.ltL, AV.lt, ha])) trivial
theorem rdr_alt (hc : closed (rdrO σ s i a T l).length (rdrO σ s i a T l)) : a.lt (rdrO σ s i a T l).length := (closed_box hc rdr_box).2.2.1
end
end Lg
