/- A part of the proof of For every text the law PatchTells answers true, and it reads afterwards as before; the card ties the tables.: Lr3 Lw1 W1 Lr4 Lr5 Lr6 Lg45 Lk9 Lt1 Lg46 Lt2 Lt3 Q1 Sh5 P1 Lg35 E0 P2 W5 W9 Lo1. -/
import Derived.Test.YtjnofdnoboibpaaDoorP4
import Derived.Test.YtjnofdnoboibpaaDoorP5
import Derived.Test.YtjnofdnoboibpaaDoorP3
import Derived.SliceStrings
import Derived.HandedShaped
import Derived.Shelf.Strings.Replace
import Derived.Shelf.Strings.Split
import Derived.Shelf.Strings.Shaped
import Derived.Test.YtjnofdnoboibpaaDoorProg
set_option linter.unusedVariables false
set_option linter.unusedSimpArgs false
set_option linter.unusedSectionVars false
namespace Lg
open Go Go.RowKit
section
variable [GLay] {P : Program} {N : Nat} {σ l : List AO} {e : Env} {Q : QA} {o : Oper}
/-- A place of an array of the call's own. -/
theorem op_indexAddrA {T E : TypeId} {x y : Operand} {sz p gg len : Nat} {k : IntKind} {n : Int} {cs : List AV} (ho : o.op = .indexAddr T x y) (hu : P.underlying T = some (.slice E))
    (hsz : ∀ w, (Go.sizeOf E).run P w = Result.ok sz w) (hx : opO e x = some (.arr p gg sz 0 len)) (hy : opO e y = some (.int k n)) (h0 : 0 ≤ n) (hlt : n < len) (hσ : σ[p]? = some (.arr sz gg cs)) : AOp P σ e o (.pel p gg (n.toNat * sz)) σ :=
  .of_run fun s a hs g hv => by
    subst hs
    have h1 := opO_eq hx ▸ hv x (by simp [ho, Op.operands])
    have h2 := (opO_eq hy ▸ hv y (by simp [ho, Op.operands])).inv_int
    rcases h1.inv_arr hσ with ⟨_, ⟨ad, h3, h4⟩ | ⟨cap, h3, h4, h5⟩⟩
    · omega
    · refine ⟨_, by simp only [execOp, ho, h3, h2, Sem.run_bind]; rw [run_indexAt_slice (cap := cap) hu hsz h0 hlt]; rfl, ?_⟩
      refine .pel _ _ _ _ rfl ?_
      unfold ArrAt
      rw [hσ]
      exact ⟨Nat.le_refl _, fun _ => by simp⟩
theorem op_indexAddrAO {T E : TypeId} {x y : Operand} {sz j gg len : Nat} {k : IntKind} {n : Int} {cs : List AV} (ho : o.op = .indexAddr T x y) (hu : P.underlying T = some (.slice E))
    (hsz : ∀ w, (Go.sizeOf E).run P w = Result.ok sz w) (hx : opO e x = some (.arr (σ.length + j) gg sz 0 len)) (hy : opO e y = some (.int k n)) (h0 : 0 ≤ n) (hlt : n < len) (hl : l[j]? = some (.arr sz gg cs)) : AOp P (σ ++ l) e o (.pel (σ.length + j) gg (n.toNat * sz)) (σ ++ l) :=
  op_indexAddrA ho hu hsz hx hy h0 hlt (by rw [get_own]; exact hl)
theorem AWp_freezeAO {c : Code} (t k gg sz n : Nat) (es : List (List AV)) (hl : lookO e.l t = some (.arr (σ.length + k) gg sz 0 n)) (hk : l[k]? = some (.arr sz gg es.flatten)) (hel : ∀ r ∈ es, r.length = sz) (hn : es.length = n) (hsz : sz ≠ 0) (h : AWp P N c (e.put (some t) (.sl false sz es)) (σ ++ l.set k .dead) Q) (ht : t < N) : AWp P N c e (σ ++ l) Q := by
  have hf : es.flatten.length = n * sz := by rw [flatten_len hel, hn]
  exact AWp_freezeArr t (σ.length + k) gg sz 0 n hl (by rw [get_own]; exact hk) es (by rw [Nat.zero_mul, List.drop_zero, ← hf, List.take_length]) hel hn hsz (by rw [hf, Nat.zero_add]; exact Nat.le_refl _) (by rw [set_own]; exact h) ht
end
/-! ### Rows of texts -/
def srow (l : List BL) : List (List AV) := l.map fun x => [AV.str (ba x)]
theorem srow_len (l : List BL) : (srow l).length = l.length := by simp [srow]
theorem srow_get {l : List BL} {i : Nat} {x : BL} (h : l[i]? = some x) : (srow l)[i]? = some [AV.str (ba x)] := by simp [srow, h]
theorem srow_el (l : List BL) : ∀ r ∈ srow l, r.length = 1 := by
  intro r hr; simp [srow] at hr; obtain ⟨x, _, rfl⟩ := hr; rfl
theorem srow_flat (l : List BL) : (srow l).flatten = l.map fun x => AV.str (ba x) := by
  induction l with
  | nil => rfl
  | cons a r ih => show [AV.str (ba a)] ++ (srow r).flatten = _; rw [ih]; rfl
@[simp] theorem srow_lt (m : Nat) (l : List BL) : AV.ltLL m (srow l) := by
  induction l with
  | nil => simp [srow, AV.ltLL]
  | cons a r ih => simpa [srow, AV.ltLL, AV.ltL, AV.lt] using ih
@[simp] theorem smap_lt (m : Nat) (l : List BL) : AV.ltL m (l.map fun x => AV.str (ba x)) := by
  induction l with
  | nil => simp [AV.ltL]
  | cons a r ih => simpa [AV.ltL, AV.lt] using ih
theorem ra1_len (c : UInt8) (nw : BL) (h : nw.length ≤ 2) : ∀ s : BL, (ra [c] nw s).length ≤ 2 * s.length := by
  intro s
  rw [ra_one]
  induction s with
  | nil => simp
  | cons b r ih =>
    rw [List.flatMap_cons, List.length_append, List.length_cons]
    have : (if b = c then nw else [b]).length ≤ 2 := by split <;> simp [h]
    omega
theorem shw_snoc (l : List BL) (x : BL) : shw (l ++ [x]) = shw l ++ 47 :: pesc x := by simp [shw]
theorem shw_len (B : Nat) : ∀ l : List BL, (∀ x ∈ l, x.length ≤ B) → (shw l).length ≤ l.length * (2 * B + 1)
  | [], _ => by simp [shw]
  | x :: l, h => by
    have ih := shw_len B l (fun y hy => h y (by simp [hy]))
    have hx := h x (by simp)
    have he := esc_len x
    rw [shw_cons, List.length_cons, List.length_append, List.length_cons, Nat.add_mul]
    omega
/-! ### What a pointer's text says -/
def tbad (s : BL) (i : Nat) : Bool := decide (s[i]? = some 126) && !(decide (s[i + 1]? = some 48) || decide (s[i + 1]? = some 49))
/-- Where something is amiss. -/
def pE (s : BL) : Option Nat := if s = [] then none else if ¬ s[0]? = some 47 then some 0 else (List.range s.length).find? (tbad s)
def pN (s : BL) : List BL := if s = [] then [] else if (pE s).isSome then [] else (pcs 47 (s.drop 1)).map pune
theorem tbad_no {s : BL} (h : ∀ i, i < s.length → tbad s i = false) : okP s := fun i hi => by
  have := h i (List.getElem?_eq_some_iff.1 hi).1
  unfold tbad at this
  rw [decide_eq_true hi, Bool.true_and] at this
  by_cases h2 : s[i + 1]? = some 48
  · exact .inl h2
  · simp [h2] at this; exact .inr this
theorem okP_tbad {s : BL} (h : okP s) (i : Nat) : tbad s i = false := by
  unfold tbad
  by_cases hi : s[i]? = some 126
  · rcases h i hi with h | h <;> simp [hi, h]
  · simp [hi]
theorem pE_none {s : BL} (h0 : ¬ s = []) (h1 : s[0]? = some 47) (h : ∀ i, i < s.length → tbad s i = false) : pE s = none := by
  unfold pE; rw [if_neg h0, if_neg (by simp [h1])]
  exact List.find?_eq_none.2 fun i hi => by simp [h i (List.mem_range.1 hi)]
theorem pE_at {s : BL} (h0 : ¬ s = []) (h1 : s[0]? = some 47) {i : Nat} (hi : i < s.length) (h : tbad s i = true) (hb : ∀ j, j < i → tbad s j = false) : pE s = some i := by
  unfold pE; rw [if_neg h0, if_neg (by simp [h1])]
  exact List.find?_range_eq_some.2 ⟨h, List.mem_range.2 hi, fun j hj => by simp [hb j hj]⟩
theorem pE_ok {s : BL} (h0 : ¬ s = []) (h : pE s = none) : s[0]? = some 47 ∧ okP s := by
  unfold pE at h; rw [if_neg h0] at h
  split at h
  · cases h
  · rename_i h1
    refine ⟨by simpa using h1, tbad_no fun i hi => ?_⟩
    have := List.find?_eq_none.1 h i (List.mem_range.2 hi)
    simpa using this
/-- What is shown is parsed. -/
theorem pN_shw (l : List BL) : pE (shw l) = none ∧ pN (shw l) = l := by
  cases l with
  | nil => exact ⟨rfl, rfl⟩
  | cons x r =>
    have hne : ¬ shw (x :: r) = [] := by rw [shw_cons]; simp
    have hE : pE (shw (x :: r)) = none := pE_none hne (by rw [shw_cons]; rfl) (fun i _ => okP_tbad (okP_shw _) i)
    refine ⟨hE, ?_⟩
    unfold pN; rw [if_neg hne, hE]
    rw [shw_cons]
    exact shw_back x r
/-- What is parsed is shown. -/
theorem shw_pN {s : BL} (h : pE s = none) : shw (pN s) = s := by
  by_cases h0 : s = []
  · subst h0; rfl
  · obtain ⟨h1, h2⟩ := pE_ok h0 h
    unfold pN; rw [if_neg h0, h]
    cases s with
    | nil => exact absurd rfl h0
    | cons b t =>
      simp at h1; subst h1
      exact shw_fwd t (okP_tl h2)
end Lg
namespace Lg
open Go
theorem get_is {s : BL} {i : Nat} {c : UInt8} (hi : i < s.length) : s[i]? = some c ↔ ((bat (ba s) i).toNat : Int) = c.toNat := by
  rw [bat_ba, List.getElem?_eq_getElem hi, List.getD_eq_getElem?_getD, List.getElem?_eq_getElem hi]
  simp only [Option.getD_some, Option.some.injEq]
  constructor
  · intro h; rw [h]
  · intro h; exact UInt8.toNat_inj.1 (by omega)
theorem g126 {s : BL} {i : Nat} (hi : i < s.length) : s[i]? = some 126 ↔ ((bat (ba s) i).toNat : Int) = 126 := get_is (c := 126) hi
theorem g48 {s : BL} {i : Nat} (hi : i < s.length) : s[i]? = some 48 ↔ ((bat (ba s) i).toNat : Int) = 48 := get_is (c := 48) hi
theorem g49 {s : BL} {i : Nat} (hi : i < s.length) : s[i]? = some 49 ↔ ((bat (ba s) i).toNat : Int) = 49 := get_is (c := 49) hi
theorem g47 {s : BL} {i : Nat} (hi : i < s.length) : s[i]? = some 47 ↔ ((bat (ba s) i).toNat : Int) = 47 := get_is (c := 47) hi
theorem tbad_t {s : BL} {i : Nat} (hi : i < s.length) (h : ((bat (ba s) i).toNat : Int) = 126) (h2 : i + 1 = s.length ∨ (¬ ((bat (ba s) (i + 1)).toNat : Int) = 48 ∧ ¬ ((bat (ba s) (i + 1)).toNat : Int) = 49)) : tbad s i = true := by
  unfold tbad
  rw [decide_eq_true ((g126 hi).2 h), Bool.true_and]
  by_cases hl : i + 1 < s.length
  · obtain ⟨h3, h4⟩ := h2.resolve_left (by omega)
    rw [decide_eq_false (fun e => h3 ((g48 hl).1 e)), decide_eq_false (fun e => h4 ((g49 hl).1 e))]; rfl
  · rw [List.getElem?_eq_none (by omega)]; rfl
theorem tbad_f {s : BL} {i : Nat} (hi : i < s.length) (h : ((bat (ba s) i).toNat : Int) = 126 → i + 1 < s.length ∧ (((bat (ba s) (i + 1)).toNat : Int) = 48 ∨ ((bat (ba s) (i + 1)).toNat : Int) = 49)) : tbad s i = false := by
  unfold tbad
  by_cases hc : ((bat (ba s) i).toNat : Int) = 126
  · obtain ⟨h1, h2⟩ := h hc
    rcases h2 with h2 | h2
    · rw [decide_eq_true ((g48 h1).2 h2)]; simp
    · rw [decide_eq_true (p := s[i + 1]? = some 49) ((g49 h1).2 h2)]; simp
  · rw [decide_eq_false (fun e => hc ((g126 hi).1 e))]; rfl
/-- The array's cells, i names turned. -/
def pcell (L : List BL) (i : Nat) : List AV := (((L.take i).map pune) ++ L.drop i).map fun x => AV.str (ba x)
theorem pcell_0 (L : List BL) : pcell L 0 = L.map fun x => AV.str (ba x) := by simp [pcell]
theorem pcell_len (L : List BL) (i : Nat) : (pcell L i).length = L.length := by simp [pcell]; omega
theorem pcell_end (L : List BL) : pcell L L.length = (srow (L.map pune)).flatten := by rw [srow_flat]; simp [pcell]
theorem pcell_get {L : List BL} {i : Nat} {x : BL} (h : L[i]? = some x) : (pcell L i)[i]? = some (.str (ba x)) := by
  have hi := (List.getElem?_eq_some_iff.1 h).1
  unfold pcell
  rw [List.getElem?_map, List.getElem?_append_right (by simp; omega)]
  simp [Nat.min_eq_left (Nat.le_of_lt hi), h]
theorem pcell_step {L : List BL} {i : Nat} {x : BL} (h : L[i]? = some x) : (pcell L i).set i (.str (ba (pune x))) = pcell L (i + 1) := by
  have hi := (List.getElem?_eq_some_iff.1 h).1
  unfold pcell
  rw [List.take_add_one, h]
  have hd : L.drop i = x :: L.drop (i + 1) := by
    rw [List.drop_eq_getElem_cons hi]
    have := (List.getElem?_eq_some_iff.1 h).2
    rw [this]
  rw [hd]
  simp only [Option.toList, List.map_append, List.map_cons, List.map_nil, List.append_assoc, List.cons_append, List.nil_append]
  rw [List.set_append_right _ _ (by simp; omega)]
  simp [Nat.min_eq_left (Nat.le_of_lt hi)]
@[simp] theorem pcell_lt (m : Nat) (L : List BL) (i : Nat) : AV.ltL m (pcell L i) := smap_lt m _
end Lg
namespace Lg
open Go Go.Lib Go.ChangeShapes Go.WideShapes
/-- As calls_of, the arguments' cells in the world W. -/
theorem calls_of2 {P : Program} {f : FuncId} {args : List AV} {cargs : List Value} {W : World} (ha : ∀ [GLay] (s : CS), s.w = W → (∀ b, b < W.heap.size → s.ok b) → PW s args cargs)
    (h : ∀ [g : GLay], (∀ b, g.f b = W.heap[b]?) → ACalls P f args [] (Ret (.bool true) [])) : Calls P f cargs.toArray W fun e W' => e = .returned (.bool true) ∧ Go.RowKit.Below W.heap.size W W' := by
  letI : GLay := ⟨fun b => W.heap[b]?⟩
  let s0 : CS := { σ := [], μ := fun _ => ⟨0, 0, 0⟩, ok := fun b => b < W.heap.size, w := W }
  have g0 : Good s0 := ⟨fun b hb => hb, fun p o ho => by simp [s0] at ho, fun p q _ hp _ => by
      have : p < s0.σ.length := CS.live_lt hp
      simp [s0] at this, fun b o ho => ⟨(Array.getElem?_eq_some_iff.1 ho).1, ho⟩⟩
  refine (h (fun _ => rfl) s0 cargs rfl g0 (ha s0 rfl fun _ hb => hb)).mono fun e W' hc => ?_
  obtain ⟨s', rfl, g', x', hr⟩ := hc
  have hbel : Go.RowKit.Below W.heap.size W s'.w := ⟨x'.os, x'.tape, x'.output, x'.size, fun k hk => x'.frame k hk (fun p hp => by
    have : p < s0.σ.length := CS.live_lt hp
    simp [s0] at this)⟩
  cases e with
  | returned cv =>
    obtain ⟨v, hv, he, _⟩ := hr
    injection he with he
    subst he
    rw [hv.inv_bool]
    exact ⟨rfl, hbel⟩
  | outgrown => exact hr.elim
  | panicked ch =>
    cases ch with
    | nil => exact hr.elim
    | cons en r =>
      cases r with
      | nil => obtain ⟨_, v, _, he, _⟩ := hr; cases he
      | cons => exact hr.elim
/-- A []string that came in: its texts. -/
theorem names_V {H : Type} {enc : TypeId × Value → H} {P : Program} {W : World} {t e : TypeId} {fuel : Nat} {a0 : Option Addr} {len cap : Nat} {x : DataW H × List MemPlace} (ht : P.underlying t = some (.slice e)) (he : P.underlying e = some .string) (hc : P.cellsOf e = 1)
    (h : DataW.trod enc P W 0 (fun _ => true) true fuel t (Value.cells (.slice a0 len cap)).toList = some x) : ∃ l : List BL, ∀ [GLay] (s : CS), s.w = W → (∀ b, b < W.heap.size → s.ok b) → V s (.sl false 1 (srow l)) (.slice a0 len cap) := by
  rcases open_strings ht he hc h with ⟨hcs, _⟩ | ⟨a, len', cap', ss, hcs, _, hl, hm, hz, _, hcell, _⟩
  · simp [Value.cells] at hcs
    obtain ⟨rfl, rfl, rfl⟩ := hcs
    exact ⟨[], fun s _ _ => .sl0 false 1 none⟩
  · simp [Value.cells] at hcs
    obtain ⟨rfl, rfl, rfl⟩ := hcs
    simp only [if_true] at hz
    by_cases hc0 : cap = 0
    · subst hc0
      obtain rfl : len = 0 := by omega
      exact ⟨[], fun s _ _ => .sl0 false 1 (some a)⟩
    · obtain ⟨b, off, spot⟩ := a
      have hspot : spot = none := by simpa [Addr.add] using World.cell?_spot (hcell 0 (by omega))
      subst hspot
      have hbW : b < W.heap.size := World.block_lt_of_cell? _ _ (hcell 0 (by omega))
      refine ⟨(ss.take len).map fun z => z.data.toList, fun s hs hok => ?_⟩
      subst hs
      have hll : (srow ((ss.take len).map fun z => z.data.toList)).length = len := by rw [srow_len, List.length_map, List.length_take]; omega
      have hv := V.sl (s := s) false 1 (srow ((ss.take len).map fun z => z.data.toList)) b off cap ((ss.take len).map Value.string) (.inr (hok b hbW)) (srow_el _) (by rw [srow_flat]; simp) (fun i v hi => by
        rw [List.getElem?_map] at hi
        cases hx : (ss.take len)[i]? with
        | none => rw [hx] at hi; cases hi
        | some z =>
          rw [hx] at hi; cases hi
          rw [List.getElem?_take] at hx
          split at hx
          · have hlt := (List.getElem?_eq_some_iff.1 hx).1
            have := hcell i hlt
            have e2 : ss.getD i ByteArray.empty = z := by rw [List.getD, hx]; rfl
            rw [e2] at this
            rw [add_none] at this; exact this
          · cases hx) (fun i c v h1 h2 => by
        rw [srow_flat, List.map_map, List.getElem?_map] at h1
        rw [List.getElem?_map] at h2
        cases hx : (ss.take len)[i]? with
        | none => rw [hx] at h1; cases h1
        | some z =>
          rw [hx] at h1 h2; cases h1; cases h2
          show V s (.str (ba z.data.toList)) _
          rw [← ba_eta]; exact .str _) (by rw [hll]; exact hl) (fun h => by cases h)
      rw [hll] at hv
      exact hv
end Lg
namespace Go
/-- The wrap with both: what is laid, and the world's shape. -/
theorem Lg.returns_and_shaped {H : Type} {enc : TypeId × Value → H} {a : Assume} {C : Checked} {os : Os} {f : FuncId} {fn : Func} {s : ChangeSpec} {conds : List PathCond} {apart fresh handsOn again : Bool} {X : World → Array Value → Prop}
    (hX : ∀ (w w' : World) (args : Array Value), w.heap = w'.heap → X w args → X w' args)
    (own : ownKnob C.prog.godebug = none) (started : os.Started) (noInit : C.prog.inits.idxOf? f = none) (hfn : C.prog.funcs[f]? = some fn)
    (witness : ∃ (w : World) (tape : Tape) (i : Input), w.os = os ∧ (w.forCall tape i).Shaped C.prog ∧ i.vars = [] ∧ Input.okWide C.prog (w.forCall tape i) .any w.heap.size f i ∧
      ((s.pre enc C.prog fn conds apart (w.forCall tape i).memory i.args ∧ X (w.forCall tape i).memory i.args) ∧ sizedMet enc C.prog fn (OpenSpec.ofChange s) apart (w.forCall tape i).memory i.args) ∧ a.holds C.prog (lone (Frame.enter C.prog f i.args .normal) [] (w.forCall tape i)))
    (contract : ∀ (W : World) (base : Nat) (args : Array Value) (ds gs : List (DataW H)) (before : List MemPlace),
      (∀ (j : Nat) t v, fn.params[j]? = some t → args[j]? = some v → Value.okWide C.prog W .any base t v) →
      DataW.Whole enc C.prog fn.params.toList s.vars apart W args.toList ds gs before →
      X W args → W.ShapedOpen C.prog →
      Calls C.prog f args W fun e W' => ∃ v, e = .returned v ∧ s.post enc C.prog fn apart fresh handsOn again W args v W') :
    ReturnsInHanded a C os f .any (fun w args => (s.pre enc C.prog fn conds apart w args ∧ X w args) ∧ sizedMet enc C.prog fn (OpenSpec.ofChange s) apart w args) (s.post enc C.prog fn apart fresh handsOn again) := by
  refine returnsInHanded_of_calls own started noInit witness ?_
  intro w tape i _ hsh _ hok hpre _
  obtain ⟨_, _, _, fn', hfn', _, _, _, _, hval⟩ := hok
  obtain rfl : fn' = fn := Option.some.inj (hfn'.symm.trans hfn)
  obtain ⟨⟨⟨ds, gs, before, hw, _⟩, hx⟩, _⟩ := hpre
  refine (contract (w.forCall tape i) w.heap.size i.args ds gs before hval (DataW.Whole.of_heap (w' := w.forCall tape i) (by rfl) hw) (hX _ _ _ (by rfl) hx) hsh).mono fun e W' ⟨v, he, hp⟩ => ?_
  subst he
  exact ChangeSpec.post_blind hp
end Go
set_option maxRecDepth 20000
set_option maxHeartbeats 4000000
namespace Lg
open Go Go.Proofs Go.RowKit
variable [GLay] 
theorem run_c (s : ByteArray) (a : Int) (σ : List AO) (hs : s.size ≤ 1000000000) (h0 : 0 ≤ a) (ha : a ≤ 1000000000) : ACalls Tryd.prog 76 [.str s, .int .i64 a] σ (Ret (.int .i64 (runl s a.toNat : Int)) σ) := by
 refine ACalls_body Tryd.func76 rfl Tryd.ntmps76 (res1 Tryd.results76) (Nat.le_of_ble_eq_true rfl) (fun hcl hal => ?_)
 refine zw1 ?_
 refine zw1 ?_
 refine AWp_seq ?_
 refine AWp_block ?_
 -- loop 0 LIVE 0:param 1:param 4:assign 5:assign
 refine AWp_loop (ι := Nat) (fun i => i + runl s (a.toNat + i) = runl s a.toNat) (fun i => ⟨[], [(0, .str s), (1, .int .i64 a), (5, .int .i64 (i : Int))]⟩) (fun i => σ) (fun i => s.size - (a.toNat + i)) (0) (by simp) ?_ rfl (fun i hi => ?_)
 ·refine ⟨rfl, rfl, rfl, rfl, trivial⟩
 have hle := runl_le s (a.toNat + i)
 have hle0 := runl_le s a.toNat
 have hto : (a + (i : Int)).toNat = a.toNat + i := by omega
 refine AWp_seq ?_
 refine zu7 ?_
 refine zsp 12 rfl (fun h1 => ?_) fun h1 => ?_
 ·rw [h1]; replace h1 := zcl h1
  refine zg8 ?_
  refine zsp 20 rfl (fun h2 => ?_) fun h2 => ?_
  ·rw [h2]; replace h2 := zcl h2
   refine zv7 ?_
   refine AWp_cond rfl (fun h3 => ?_) (fun h3 => ?_)
   ·(try rw [h3]); replace h3 := zcl h3
    refine AWp_skip ?_
    refine AWp_block ?_
    refine AWp_regL ?_
    refine zv3 ?_
    (try simp only [hto] at *)
    have hd : dig s (a.toNat + i) := by simp only [dig]; omega
    have hr := runl_yes (by omega) hd
    refine ⟨i + 1, σ.length, by rw [← Nat.add_assoc]; omega, by omega, Nat.le_refl _, ⟨rfl, rfl, rfl, rfl, trivial⟩, hcl, ?_, List.take_length⟩
    simp [ltE, AV.lt]
   ·(try rw [h3]); replace h3 := zcl h3
    refine AWp_exit ?_
    refine zw2 ?_
    refine zrt ?_
    (try simp only [hto] at *)
    have hr := runl_no (b := s) (i := a.toNat + i) (by simp only [dig]; omega)
    refine ResQ_10 rfl hcl trivial (Ret_of ?_)
    congr 1; omega
  ·rw [h2]; replace h2 := zcl h2
   refine zv7 ?_
   refine AWp_condF rfl ?_
   refine AWp_exit ?_
   refine zw2 ?_
   refine zrt ?_
   (try simp only [hto] at *)
   have hr := runl_no (b := s) (i := a.toNat + i) (by simp only [dig]; omega)
   refine ResQ_10 rfl hcl trivial (Ret_of ?_)
   congr 1; omega
 ·rw [h1]; replace h1 := zcl h1
  refine zg10 ?_
  refine zg5 ?_
  refine zon ?_
  refine AWp_condF rfl ?_
  refine AWp_exit ?_
  refine zw2 ?_
  refine zrt ?_
  (try simp only [hto] at *)
  have hr := runl_no (b := s) (i := a.toNat + i) (by simp only [dig]; omega)
  refine ResQ_10 rfl hcl trivial (Ret_of ?_)
  congr 1; omega

theorem mayNum_c (n : JNum) (σ : List AO) (hn : n.digits.size ≤ 1000000000) : ACalls Tryd.prog 91 [.agg (ncells n)] σ (Ret (.bool (pb (NumMay n))) σ) := by
 refine ACalls_body Tryd.func91 rfl Tryd.ntmps91 (res1 Tryd.results91) (Nat.le_of_ble_eq_true rfl) (fun hcl hal => ?_)
 have hr0 := runl0 n.digits
 refine zw2 ?_
 refine AWp_seq ?_
 refine zw3 ?_
 refine AWp_cond rfl (fun h1 => ?_) (fun h1 => ?_)
 ·(try rw [h1]); replace h1 := zcl h1
  refine zu4 ?_
  refine zsp 9 rfl (fun h2 => ?_) fun h2 => ?_
  ·rw [h2]; replace h2 := zcl h2
   refine zv5 ?_
   refine zrt ?_
   refine ResQ_1 rfl hcl trivial (Ret_of ?_)
   refine bool_of ?_
   by_cases hd : digs n.digits n.digits.size
   ·have hd2 := hr0.2 hd; simp_all [NumMay] <;> omega
   ·have hd2 := mt hr0.1 hd; simp_all [NumMay] <;> omega
  ·rw [h2]; replace h2 := zcl h2
   refine zv5 ?_
   refine zrt ?_
   refine ResQ_1 rfl hcl trivial (Ret_of ?_)
   refine bool_of ?_
   by_cases hd : digs n.digits n.digits.size
   ·have hd2 := hr0.2 hd; simp_all [NumMay] <;> omega
   ·have hd2 := mt hr0.1 hd; simp_all [NumMay] <;> omega
 ·(try rw [h1]); replace h1 := zcl h1
  have hpos := ba_pos h1
  refine AWp_skip ?_
  refine AWp_seq ?_
  refine AWp_seq ?_
  refine AWp_drawL #[0, 1, 3, 7, 15, 31, 63, 127, 255, 511, 1023, 2047, 4095, 8191, 16383, 32767, 65535, 131071, 32767, 294911, 819199, 2097151, 4194303] Tryd.mixed (by decide +kernel) (by decide +kernel) ?_
  refine zd1 ?_
  refine zp1 ?_
  refine zd3 ?_
  refine zspr 18 rfl (fun h3 => ?_) fun h3 => ?_
  ·rw [h3]; replace h3 := zcl h3
   refine zd10 ?_
   refine zd8 ?_
   refine RP.nil rfl ?_
   refine AWp_condT rfl ?_
   refine zw1 ?_
   refine zrt ?_
   refine ResQ_1 rfl hcl trivial (Ret_of ?_)
   refine bool_of ?_
   by_cases hd : digs n.digits n.digits.size
   ·have hd2 := hr0.2 hd; simp_all [NumMay] <;> omega
   ·have hd2 := mt hr0.1 hd; simp_all [NumMay] <;> omega
  ·rw [h3]; replace h3 := zcl h3
   refine zd1 ?_
   refine zp1 ?_
   refine zd3 ?_
   refine zspr 23 rfl (fun h4 => ?_) fun h4 => ?_
   ·rw [h4]; replace h4 := zcl h4
    refine zd10 ?_
    refine zd3 ?_
    refine RP.nil rfl ?_
    refine AWp_condT rfl ?_
    refine zw1 ?_
    refine zrt ?_
    refine ResQ_1 rfl hcl trivial (Ret_of ?_)
    refine bool_of ?_
    by_cases hd : digs n.digits n.digits.size
    ·have hd2 := hr0.2 hd; simp_all [NumMay] <;> omega
    ·have hd2 := mt hr0.1 hd; simp_all [NumMay] <;> omega
   ·rw [h4]; replace h4 := zcl h4
    refine zd1 ?_
    refine zp1 ?_
    refine zd3 ?_
    refine zspr 28 rfl (fun h5 => ?_) fun h5 => ?_
    ·rw [h5]; replace h5 := zcl h5
     refine zd8 ?_
     refine RP.nil rfl ?_
     refine AWp_condT rfl ?_
     refine zw1 ?_
     refine zrt ?_
     refine ResQ_1 rfl hcl trivial (Ret_of ?_)
     refine bool_of ?_
     by_cases hd : digs n.digits n.digits.size
     ·have hd2 := hr0.2 hd; simp_all [NumMay] <;> omega
     ·have hd2 := mt hr0.1 hd; simp_all [NumMay] <;> omega
    ·rw [h5]; replace h5 := zcl h5
     refine zd1 ?_
     refine zp1 ?_
     refine yPG rfl rfl rfl (zc rfl (run_c _ _ _ hn (by omega) (by omega))) (trivial) ?_
     refine zd1 ?_
     refine zp1 ?_
     refine zd3 ?_
     refine RP.nil rfl ?_
     refine AWp_cond rfl (fun h6 => ?_) (fun h6 => ?_)
     ·(try rw [h6]); replace h6 := zcl h6
      refine zw1 ?_
      refine zrt ?_
      refine ResQ_1 rfl hcl trivial (Ret_of ?_)
      refine bool_of ?_
      by_cases hd : digs n.digits n.digits.size
      ·have hd2 := hr0.2 hd; simp_all [NumMay] <;> omega
      ·have hd2 := mt hr0.1 hd; simp_all [NumMay] <;> omega
     ·(try rw [h6]); replace h6 := zcl h6
      refine AWp_skip ?_
      refine zu5 ?_
      refine zsp 41 rfl (fun h7 => ?_) fun h7 => ?_
      ·rw [h7]; replace h7 := zcl h7
       refine zg10 ?_
       refine zon ?_
       refine zrt ?_
       refine ResQ_1 rfl hcl trivial (Ret_of ?_)
       refine bool_of ?_
       by_cases hd : digs n.digits n.digits.size
       ·have hd2 := hr0.2 hd; simp_all [NumMay] <;> omega
       ·have hd2 := mt hr0.1 hd; simp_all [NumMay] <;> omega
      ·rw [h7]; replace h7 := zcl h7
       refine zg10 ?_
       refine zon ?_
       refine zrt ?_
       refine ResQ_1 rfl hcl trivial (Ret_of ?_)
       refine bool_of ?_
       by_cases hd : digs n.digits n.digits.size
       ·have hd2 := hr0.2 hd; simp_all [NumMay] <;> omega
       ·have hd2 := mt hr0.1 hd; simp_all [NumMay] <;> omega
end Lg
namespace Lg
open Go Go.RowKit
variable [GLay] {P : Program} {N : Nat} {σ l : List AO} {e : Env} {Q : QA} {o : Oper}
theorem spl_set (v : AV) : ∀ (i : Nat) (cs : List AV), i < cs.length → spl i cs [v] = some (cs.set i v)
  | 0, [], h => by simp at h
  | 0, c :: cs, _ => by simp [spl, putAt]
  | i + 1, [], h => by simp at h
  | i + 1, c :: cs, h => by simp [spl, spl_set v i cs (by simpa using h)]
theorem ldv_el {j g sz off i : Nat} {cs : List AV} {v : AV} (hl : l[j]? = some (.arr sz g cs)) (hv : cs[i]? = some v) (ho : off = i) : ldv (σ ++ l) 1 (.pel (σ.length + j) g off) = some [v] := by
  subst ho
  simp only [ldv, get_own, hl, if_true]
  have hi := (List.getElem?_eq_some_iff.1 hv).1
  rw [List.drop_eq_getElem_cons hi, (List.getElem?_eq_some_iff.1 hv).2]
  rfl
theorem op_storeEl {T : TypeId} {x y : Operand} {j g sz off i : Nat} {cs : List AV} {b : ByteArray} (ho : o.op = .store T x y) (hz : ∀ w, (Go.sizeOf T).run P w = Result.ok 1 w) (hy : opO e y = some (.str b)) (hx : opO e x = some (.pel (σ.length + j) g off)) (hoff : off = i)
    (hl : l[j]? = some (.arr sz g cs)) (hi : i < cs.length) : AOp P (σ ++ l) e o .any (σ ++ l.set j (.arr sz g (cs.set i (.str b)))) := by
  subst hoff
  have e1 := opO_eq hy
  have := op_store (P := P) (σ := σ ++ l) (e := e) (p := σ.length + j) (O := .arr sz g (cs.set off (.str b))) ho hz (by rw [e1]; rfl) (by rw [e1]; rfl) (by
    rw [e1, opO_eq hx]
    show stv (σ ++ l) [.str b] (.pel (σ.length + j) g off) = _
    simp only [stv, get_own, hl, if_true, spl_set _ _ _ hi, Option.map_some]) (by decide)
  rwa [set_own] at this
end Lg
namespace Lg
open Go
theorem ra2_len (l : BL) (h : okP l) : (ra [126, 49] [47] l).length ≤ l.length := by
  refine okP_ind (M := fun l => (ra [126, 49] [47] l).length ≤ l.length) ?_ ?_ ?_ ?_ l.length l (Nat.le_refl _) h
  · rw [ra_nil (by simp)]; simp
  · intro r _ ih
    rw [ra_cons (b := 126) (by simp) (pf_no (d := 0) (by rintro ⟨_, r', e⟩; simp at e)), ra_cons (b := 48) (by simp) (pf_no (d := 0) (by rintro ⟨e, _⟩; simp at e))]
    simp only [List.length_cons]; omega
  · intro r _ ih
    rw [show (126 :: 49 :: r : BL) = [126, 49] ++ r from rfl, ra_pre (by simp)]
    simp only [List.length_append, List.length_cons, List.length_nil]; omega
  · intro b r hb _ ih
    rw [ra_cons (by simp) (pf_no (d := 0) (by rintro ⟨e, _⟩; exact hb e.symm))]
    simp only [List.length_cons]; omega
theorem pcs_len (c : UInt8) : ∀ l : BL, (pcs c l).length ≤ l.length + 1
  | [] => by simp [pcs]
  | b :: l => by
    have ih := pcs_len c l
    unfold pcs
    split
    · simp only [List.length_cons]; omega
    · split
      · simp
      · rename_i p r h; rw [h] at ih; simp only [List.length_cons] at ih ⊢; omega
end Lg
namespace Lg
open Go
theorem ext_tl (s : BL) : (ba s).extract (Int.toNat 1) ((ba s).size : Int).toNat = ba (s.drop 1) := ba_ext (by
  have e : (Int.toNat 1) = 1 := rfl
  rw [Int.toNat_natCast, ba_size, e]
  simp [ba]
  try exact List.take_of_length_le (by simp))
end Lg
namespace Lg
open Go
theorem pune_len (l : BL) (h : okP l) : (pune l).length ≤ l.length := by
  refine okP_ind (M := fun l => (pune l).length ≤ l.length) (Nat.le_refl _) ?_ ?_ ?_ l.length l (Nat.le_refl _) h
  · intro r _ ih; show (126 :: pune r).length ≤ _; simp only [List.length_cons]; omega
  · intro r _ ih; show (47 :: pune r).length ≤ _; simp only [List.length_cons]; omega
  · intro b r hb _ ih; rw [une_c hb]; simp only [List.length_cons]; omega
theorem pN_len {s : BL} (h : pE s = none) : (pN s).length ≤ s.length + 1 ∧ ∀ x ∈ pN s, x.length ≤ s.length := by
  by_cases h0 : s = []
  · subst h0; exact ⟨Nat.zero_le _, fun x hx => by simp [pN] at hx⟩
  · obtain ⟨h1, h2⟩ := pE_ok h0 h
    have ht : okP (s.drop 1) := by cases s with | nil => exact absurd rfl h0 | cons b r => exact okP_tl h2
    have hl := pcs_len 47 (s.drop 1)
    have hd : (s.drop 1).length ≤ s.length := by rw [List.length_drop]; omega
    unfold pN; rw [if_neg h0, h]
    refine ⟨by simp only [Option.isSome_none, Bool.false_eq_true, if_false, List.length_map]; omega, fun x hx => ?_⟩
    simp only [Option.isSome_none, Bool.false_eq_true, if_false, List.mem_map] at hx
    obtain ⟨p, hp, rfl⟩ := hx
    obtain ⟨a, b, c⟩ := pcs_ok _ (s.drop 1) (Nat.le_refl _) ht p hp
    have := pune_len p a
    omega
def ex6 : BL := [47, 97, 126, 49, 98, 47, 48]
def ex6n : List BL := [[97, 47, 98], [48]]
theorem ex6_s : shw ex6n = ex6 := by decide
theorem ex6_ok : pE ex6 = none ∧ pN ex6 = ex6n := by rw [← ex6_s]; exact pN_shw _
theorem exA_ok : pE [97] = some 0 ∧ pN [97] = [] := by decide
variable [GLay] {P : Program} {σ : List AO}
theorem ldv_elP {p g sz off i : Nat} {cs : List AV} {v : AV} (hl : σ[p]? = some (.arr sz g cs)) (hv : cs[i]? = some v) (ho : off = i) : ldv σ 1 (.pel p g off) = some [v] := by
  subst ho
  simp only [ldv, hl, if_true]
  have hi := (List.getElem?_eq_some_iff.1 hv).1
  rw [List.drop_eq_getElem_cons hi, (List.getElem?_eq_some_iff.1 hv).2]
  rfl
end Lg
namespace Lg
open Go
/-! ### A pointer's names, byte by byte (the reference's way) -/
theorem pcs_split (c : UInt8) : ∀ l : BL, ∃ ps p, pcs c l = ps ++ [p]
  | [] => ⟨[], [], rfl⟩
  | b :: l => by
    obtain ⟨ps, p, h⟩ := pcs_split c l
    unfold pcs
    split
    · exact ⟨[] :: ps, p, by rw [h]; rfl⟩
    · rw [h]
      cases ps with
      | nil => exact ⟨[], b :: p, rfl⟩
      | cons q r => exact ⟨(b :: q) :: r, p, rfl⟩
theorem pcs_snoc_c (c : UInt8) : ∀ l : BL, pcs c (l ++ [c]) = pcs c l ++ [[]]
  | [] => by simp [pcs]
  | b :: l => by
    rw [List.cons_append, pcs, pcs, pcs_snoc_c c l]
    split
    · rfl
    · obtain ⟨ps, p, h⟩ := pcs_split c l
      rw [h]
      cases ps with
      | nil => rfl
      | cons q r => rfl
theorem pcs_snoc {b c : UInt8} (hb : ¬ b = c) : ∀ {l : BL} {ps : List BL} {p : BL}, pcs c l = ps ++ [p] → pcs c (l ++ [b]) = ps ++ [p ++ [b]]
  | [], ps, p, h => by
    have : ps = [] ∧ p = [] := by
      rw [pcs] at h
      cases ps with
      | nil => simp at h; exact ⟨rfl, h⟩
      | cons q r => simp at h
    obtain ⟨rfl, rfl⟩ := this
    simp [pcs, hb]
  | a :: l, ps, p, h => by
    obtain ⟨qs, q, hq⟩ := pcs_split c l
    have ih := pcs_snoc hb hq
    rw [List.cons_append, pcs, ih]
    rw [pcs, hq] at h
    split at h
    · rename_i e
      rw [if_pos e]
      have h2 : ([] :: qs) ++ [q] = ps ++ [p] := h
      obtain ⟨h3, h4⟩ := List.append_inj' h2 rfl
      subst h3; simp at h4; subst h4; rfl
    · rename_i e
      rw [if_neg e]
      cases qs with
      | nil =>
        have h2 : [] ++ [a :: q] = ps ++ [p] := h
        obtain ⟨h3, h4⟩ := List.append_inj' h2 rfl
        subst h3; simp at h4; subst h4; rfl
      | cons r rs =>
        have h2 : ((a :: r) :: rs) ++ [q] = ps ++ [p] := h
        obtain ⟨h3, h4⟩ := List.append_inj' h2 rfl
        subst h3; simp at h4; subst h4; rfl
theorem pune_app (m : BL) : ∀ (n : Nat) (l : BL), l.length ≤ n → okP l → pune (l ++ m) = pune l ++ pune m :=
  okP_ind (M := fun l => pune (l ++ m) = pune l ++ pune m) rfl
    (fun r _ ih => by simp only [List.cons_append, pune, ih]) (fun r _ ih => by simp only [List.cons_append, pune, ih])
    (fun b r hb _ ih => by rw [List.cons_append, une_c hb, une_c hb, ih]; rfl)
def nms (u : BL) : List BL := (pcs 47 u).map pune
theorem nms_split (u : BL) : ∃ ps p, nms u = ps ++ [p] := by
  obtain ⟨ps, p, h⟩ := pcs_split 47 u
  exact ⟨ps.map pune, pune p, by simp [nms, h]⟩
theorem nms_c (u : BL) : nms (u ++ [47]) = nms u ++ [[]] := by
  unfold nms; rw [pcs_snoc_c]; simp [pune]
theorem nms_b {u : BL} {ps : List BL} {p : BL} {b : UInt8} (h : nms u = ps ++ [p]) (hu : okP u) (h7 : ¬ b = 47) (h126 : ¬ b = 126) : nms (u ++ [b]) = ps ++ [p ++ [b]] := by
  obtain ⟨qs, q, hq⟩ := pcs_split 47 u
  have hok := pcs_ok u.length u (Nat.le_refl _) hu q (by rw [hq]; simp)
  unfold nms at h ⊢
  rw [pcs_snoc h7 hq]
  rw [hq, List.map_append] at h
  obtain ⟨h1, h2⟩ := List.append_inj' h rfl
  simp at h2; subst h1; subst h2
  rw [List.map_append, List.map_cons, List.map_nil, pune_app [b] _ q (Nat.le_refl _) hok.1]
  rw [une_c h126]; rfl
theorem nms_e {u : BL} {ps : List BL} {p : BL} {b : UInt8} (h : nms u = ps ++ [p]) (hu : okP u) (hb : b = 48 ∨ b = 49) : nms (u ++ [126, b]) = ps ++ [p ++ [if b = 49 then 47 else 126]] := by
  obtain ⟨qs, q, hq⟩ := pcs_split 47 u
  have hok := pcs_ok u.length u (Nat.le_refl _) hu q (by rw [hq]; simp)
  have h1 := pcs_snoc (b := 126) (c := 47) (by decide) hq
  have h2 := pcs_snoc (b := b) (c := 47) (by rcases hb with rfl | rfl <;> decide) h1
  rw [show u ++ [126, b] = u ++ [126] ++ [b] by simp]
  unfold nms at h ⊢
  rw [h2]
  rw [hq, List.map_append] at h
  obtain ⟨h3, h4⟩ := List.append_inj' h rfl
  simp at h4; subst h3; subst h4
  rw [List.map_append, List.map_cons, List.map_nil, show q ++ [126] ++ [b] = q ++ [126, b] by simp, pune_app [126, b] _ q (Nat.le_refl _) hok.1]
  rcases hb with rfl | rfl <;> rfl
theorem okP_snoc {u : BL} {b : UInt8} (h : okP u) (hb : ¬ b = 126) : okP (u ++ [b]) := fun i hi => by
  rcases Nat.lt_trichotomy i u.length with h1 | h1 | h1
  · rw [List.getElem?_append_left h1] at hi
    have := h i hi
    have h2 : i + 1 < u.length := by
      rcases this with h | h <;> exact (List.getElem?_eq_some_iff.1 h).1
    rwa [List.getElem?_append_left h2]
  · subst h1; simp at hi; exact absurd hi hb
  · rw [List.getElem?_append_right (by omega)] at hi
    have : i - u.length = (i - u.length - 1) + 1 := by omega
    rw [this] at hi; simp at hi
theorem okP_snoc2 {u : BL} {b : UInt8} (h : okP u) (hb : b = 48 ∨ b = 49) : okP (u ++ [126, b]) := fun i hi => by
  rcases Nat.lt_trichotomy i u.length with h1 | h1 | h1
  · rw [List.getElem?_append_left h1] at hi
    have := h i hi
    have h2 : i + 1 < u.length := by
      rcases this with h | h <;> exact (List.getElem?_eq_some_iff.1 h).1
    rwa [List.getElem?_append_left h2]
  · subst h1
    rw [List.getElem?_append_right (by omega), Nat.add_sub_cancel_left]
    rcases hb with rfl | rfl <;> simp
  · rw [List.getElem?_append_right (by omega)] at hi
    obtain ⟨k, hk⟩ : ∃ k, i - u.length = k + 1 := ⟨i - u.length - 1, by omega⟩
    rw [hk] at hi
    cases k with
    | zero => simp at hi; rcases hb with rfl | rfl <;> cases hi
    | succ k => simp at hi
theorem take_b {s : BL} {i : Nat} {b : UInt8} (h : s[i]? = some b) (hi : 1 ≤ i) : (s.take (i + 1)).drop 1 = (s.take i).drop 1 ++ [b] := by
  rw [List.take_add_one, h]
  have hl := (List.getElem?_eq_some_iff.1 h).1
  rw [List.drop_append_of_le_length (by rw [List.length_take]; omega)]; rfl
theorem take_2 {s : BL} {i : Nat} {a b : UInt8} (h : s[i]? = some a) (h2 : s[i + 1]? = some b) (hi : 1 ≤ i) : (s.take (i + 1 + 1)).drop 1 = (s.take i).drop 1 ++ [a, b] := by
  rw [take_b h2 (by omega), take_b h hi]; simp
/-- What the reference's Pointer has when it stands at i. -/
structure PAt (s : BL) (i : Nat) (L : List BL) : Prop where
  le : i ≤ s.length
  z : i = 0 → L = []
  ok : okP ((s.take i).drop 1)
  nm : 1 ≤ i → L = nms ((s.take i).drop 1)
  bad : ∀ j, j < i → tbad s j = false
theorem PAt.zero (s : BL) : PAt s 0 [] := ⟨Nat.zero_le _, fun _ => rfl, okP_nil, fun h => absurd h (by omega), fun j h => absurd h (by omega)⟩
theorem tb_no {s : BL} {i : Nat} {b : UInt8} (h : s[i]? = some b) (hb : ¬ b = 126) : tbad s i = false := by
  unfold tbad; rw [decide_eq_false (by rw [h]; simpa using hb)]; rfl
theorem PAt.slash {s : BL} {i : Nat} {L : List BL} (p : PAt s i L) (h : s[i]? = some 47) : PAt s (i + 1) (L ++ [[]]) where
  le := (List.getElem?_eq_some_iff.1 h).1
  z := fun e => absurd e (by omega)
  ok := by
    by_cases h0 : i = 0
    · subst h0; rw [List.drop_eq_nil_of_le (by simp [List.length_take]; omega)]; exact okP_nil
    · rw [take_b h (by omega)]; exact okP_snoc p.ok (by decide)
  nm := fun _ => by
    by_cases h0 : i = 0
    · subst h0; rw [p.z rfl, List.drop_eq_nil_of_le (by simp [List.length_take]; omega)]; rfl
    · rw [take_b h (by omega), nms_c, ← p.nm (by omega)]
  bad := fun j hj => by
    by_cases e : j = i
    · subst e; exact tb_no h (by decide)
    · exact p.bad j (by omega)
theorem PAt.byte {s : BL} {i : Nat} {L ps : List BL} {q : BL} {b : UInt8} (p : PAt s i L) (hi : 1 ≤ i) (hL : L = ps ++ [q]) (h : s[i]? = some b) (h7 : ¬ b = 47) (h126 : ¬ b = 126) : PAt s (i + 1) (ps ++ [q ++ [b]]) where
  le := (List.getElem?_eq_some_iff.1 h).1
  z := fun e => absurd e (by omega)
  ok := by rw [take_b h hi]; exact okP_snoc p.ok h126
  nm := fun _ => by rw [take_b h hi]; exact (nms_b ((p.nm hi).symm.trans hL) p.ok h7 h126).symm
  bad := fun j hj => by
    by_cases e : j = i
    · subst e; exact tb_no h h126
    · exact p.bad j (by omega)
theorem PAt.esc {s : BL} {i : Nat} {L ps : List BL} {q : BL} {b : UInt8} (p : PAt s i L) (hi : 1 ≤ i) (hL : L = ps ++ [q]) (h : s[i]? = some 126) (h2 : s[i + 1]? = some b) (hb : b = 48 ∨ b = 49) : PAt s (i + 1 + 1) (ps ++ [q ++ [if b = 49 then 47 else 126]]) where
  le := (List.getElem?_eq_some_iff.1 h2).1
  z := fun e => absurd e (by omega)
  ok := by rw [take_2 h h2 hi]; exact okP_snoc2 p.ok hb
  nm := fun _ => by rw [take_2 h h2 hi]; exact (nms_e ((p.nm hi).symm.trans hL) p.ok hb).symm
  bad := fun j hj => by
    by_cases e : j = i
    · subst e; unfold tbad; rw [h2]; rcases hb with rfl | rfl <;> simp
    · by_cases e2 : j = i + 1
      · subst e2; exact tb_no h2 (by rcases hb with rfl | rfl <;> decide)
      · exact p.bad j (by omega)
theorem PAt.done {s : BL} {L : List BL} (p : PAt s s.length L) (h0 : ¬ s = []) (h1 : s[0]? = some 47) : pE s = none ∧ pN s = L := by
  have hl : 1 ≤ s.length := List.length_pos_iff.2 h0
  have hE : pE s = none := pE_none h0 h1 p.bad
  refine ⟨hE, ?_⟩
  rw [p.nm hl]
  unfold pN; rw [if_neg h0, hE, List.take_length]; rfl
theorem PAt.last {s : BL} {i : Nat} {L : List BL} (p : PAt s i L) (hi : 1 ≤ i) : ∃ ps q, L = ps ++ [q] := by
  obtain ⟨ps, q, h⟩ := nms_split ((s.take i).drop 1)
  exact ⟨ps, q, (p.nm hi).trans h⟩
theorem PAt.len {s : BL} {i : Nat} {L : List BL} (p : PAt s i L) : L.length ≤ i + 1 := by
  by_cases h0 : i = 0
  · rw [p.z h0]; simp
  · rw [p.nm (by omega)]; unfold nms; rw [List.length_map]
    have := pcs_len 47 ((s.take i).drop 1)
    rw [List.length_drop, List.length_take] at this; omega
theorem PAt.el {s : BL} {i : Nat} {L : List BL} (p : PAt s i L) : ∀ x ∈ L, x.length ≤ i := by
  intro x hx
  by_cases h0 : i = 0
  · rw [p.z h0] at hx; cases hx
  · rw [p.nm (by omega)] at hx
    unfold nms at hx
    obtain ⟨y, hy, rfl⟩ := List.mem_map.1 hx
    have h1 := pcs_ok _ _ (Nat.le_refl _) p.ok y hy
    have := pune_len y h1.1
    have h2 := h1.2.2
    rw [List.length_drop, List.length_take] at h2; omega
end Lg
namespace Lg
open Go
def pEi (s : BL) : Int := match pE s with
  | none => -1
  | some i => (i : Int)
theorem pEi_n {s : BL} (h : pE s = none) : pEi s = -1 := by unfold pEi; rw [h]
theorem pEi_s {s : BL} {i : Nat} (h : pE s = some i) : pEi s = i := by unfold pEi; rw [h]
theorem pN_bad {s : BL} {i : Nat} (h0 : ¬ s = []) (h : pE s = some i) : pN s = [] := by unfold pN; rw [if_neg h0, h]; rfl
theorem sflat_len (L : List BL) : (srow L).flatten.length = L.length := by rw [srow_flat, List.length_map]
theorem srow_snoc (L : List BL) (x : BL) : (srow (L ++ [x])).flatten = (srow L).flatten ++ [.str (ba x)] := by rw [srow_flat, srow_flat, List.map_append]; rfl
theorem srow_last (ps : List BL) (q : BL) : (srow (ps ++ [q])).flatten[(ps ++ [q]).length - 1]? = some (.str (ba q)) := by
  rw [srow_snoc, List.length_append]
  rw [List.getElem?_append_right (by rw [sflat_len]; simp), sflat_len]
  simp
theorem srow_setl (ps : List BL) (q r : BL) : (srow (ps ++ [q])).flatten.set ((ps ++ [q]).length - 1) (.str (ba r)) = (srow (ps ++ [r])).flatten := by
  rw [srow_snoc, srow_snoc, List.length_append]
  rw [List.set_append_right _ _ (by rw [sflat_len]; simp), sflat_len]
  simp
end Lg
namespace Lg
open Go Go.RowKit
variable [GLay]
/-! ### Maps of the call's own -/
/-! ### Keys that are ints -/
def imap (m : List (Int × AV)) : List (AV × AV) := m.map fun q => (.int .i64 q.1, q.2)
def iget : List (Int × AV) → Int → Option (Nat × AV)
  | [], _ => none
  | (x, v) :: r, k => if k = x then some (0, v) else (iget r k).map fun z => (z.1 + 1, z.2)
theorem iget_none {m : List (Int × AV)} {k : Int} (h : ∀ q ∈ m, ¬ q.1 = k) : iget m k = none := by
  induction m with
  | nil => rfl
  | cons q r ih => obtain ⟨x, v⟩ := q; rw [iget, if_neg (fun e => h (x, v) (by simp) e.symm), ih (fun q hq => h q (by simp [hq]))]; rfl
theorem findNow_i {s : CS} (k : Int) : ∀ (m : List (Int × AV)) (es : List MapEntry) (i : Nat), PW s (mflat (imap m)) (mflat (es.map fun e => (e.key, e.val))) →
    ∃ r, Instr.findNow (.int .i64) (.int .i64 k) es i = some r ∧ (match iget m k with
      | none => r = none
      | some (j, v) => ∃ c, r = some (i + j, c) ∧ V s v c)
  | [], es, i, h => by
    have := h.inv_nil
    cases es with
    | nil => exact ⟨none, rfl, rfl⟩
    | cons a r => simp [mflat] at this
  | (y, v) :: m, es, i, h => by
    cases es with
    | nil => have := h.1; simp [imap, mflat] at this
    | cons a r =>
      have h' : PW s (.int .i64 y :: v :: mflat (imap m)) (a.key :: a.val :: mflat (r.map fun e => (e.key, e.val))) := h
      have k1 := h'.2 0 _ _ rfl rfl
      have k2 := h'.2 1 _ _ rfl rfl
      have k3 : PW s (mflat (imap m)) (mflat (r.map fun e => (e.key, e.val))) := by
        obtain ⟨q, qs, e1, _, h2⟩ := h'.inv_cons
        obtain ⟨q2, qs2, e2, _, h3⟩ := h2.inv_cons
        cases e1; cases e2; exact h3
      simp only [Instr.findNow, k1.inv_int, Instr.sameNow]
      simp only [iget]
      by_cases hk : k = y
      · subst hk
        rw [if_pos rfl]
        refine ⟨some (i, a.val), ?_, a.val, rfl, k2⟩
        simp
      · rw [if_neg hk]
        obtain ⟨r', h1, h2⟩ := findNow_i k m r (i + 1) k3
        refine ⟨r', ?_, ?_⟩
        · rw [show (k == y) = false by simpa using hk]; exact h1
        · revert h2
          cases iget m k with
          | none => exact id
          | some z => obtain ⟨j, v'⟩ := z; rintro ⟨c, e1, e2⟩; exact ⟨c, by rw [e1]; congr 1; congr 1; omega, e2⟩
variable {P : Program} {N : Nat} {σ : List AO} {e : Env} {o : Oper} {p : Nat}
theorem V.tup2 {s : CS} {a b : AV} {x y : Value} (h : V s a x) (k : V s b y) : V s (.tup [a, b]) (.tuple #[x, y]) :=
  .tup [a, b] [x, y] rfl (fun i c v h1 h2 => by
    match i, h1, h2 with
    | 0, h1, h2 => cases h1; cases h2; exact h
    | 1, h1, h2 => cases h1; cases h2; exact k)
section
variable {T K E : TypeId} {a b c : Operand} {m : List (Int × AV)} {k : Int} {z : Value}
theorem op_lookupI (ho : o.op = .lookup T a b false) (hu : P.underlying T = some (.map K E)) (hK : P.underlying K = some (.int .i64)) (hz : ∀ w, (zeroValue E).run P w = Result.ok z w) (hx : opO e a = some (.mapv p)) (hy : opO e b = some (.int .i64 k))
    (hσ : σ[p]? = some (.map (imap m))) : AOp P σ e o (((iget m k).map (·.2)).getD (ofConst z)) σ :=
  .of_run fun s ac hs g hv => by
    subst hs
    have h1 := opO_eq hx ▸ hv a (by simp [ho, Op.operands])
    have h2 := (opO_eq hy ▸ hv b (by simp [ho, Op.operands])).inv_int
    have h1' := h1.inv_mapv
    obtain ⟨hnok, es, ck, hb, hpw⟩ := g.obj p _ hσ
    obtain ⟨r, hr, hm⟩ := findNow_i k m es 0 hpw
    have hc : ∀ em, (Instr.checkKey em 10000 K (.int .i64 k)).run P s.w = .ok () s.w := fun em => MapKept.run_checkKey (k := .int .i64 k) hK (by simp [MapKept.IsKey]) em 9999
    have hf : (Instr.findKey K (.int .i64 k) es).run P s.w = .ok r s.w := MapKept.run_findKey hK hr
    cases hg : iget m k with
    | none =>
      rw [hg] at hm
      subst hm
      refine ⟨z, ?_, by simpa using V_ofConst s z⟩
      simp [execOp, ho, h1', h2, Instr.lookup, run_underlying hu, MapKept.run_getObj_map hb, hc, hf, hz, Result.andThen]
    | some y =>
      obtain ⟨j, v⟩ := y
      rw [hg] at hm
      obtain ⟨cv, rfl, hcv⟩ := hm
      refine ⟨cv, ?_, by simpa using hcv⟩
      simp [execOp, ho, h1', h2, Instr.lookup, run_underlying hu, MapKept.run_getObj_map hb, hc, hf, Result.andThen]
theorem op_lookupI2 (ho : o.op = .lookup T a b true) (hu : P.underlying T = some (.map K E)) (hK : P.underlying K = some (.int .i64)) (hz : ∀ w, (zeroValue E).run P w = Result.ok z w) (hx : opO e a = some (.mapv p)) (hy : opO e b = some (.int .i64 k))
    (hσ : σ[p]? = some (.map (imap m))) : AOp P σ e o (.tup [((iget m k).map (·.2)).getD (ofConst z), .bool (iget m k).isSome]) σ :=
  .of_run fun s ac hs g hv => by
    subst hs
    have h1 := opO_eq hx ▸ hv a (by simp [ho, Op.operands])
    have h2 := (opO_eq hy ▸ hv b (by simp [ho, Op.operands])).inv_int
    have h1' := h1.inv_mapv
    obtain ⟨hnok, es, ck, hb, hpw⟩ := g.obj p _ hσ
    obtain ⟨r, hr, hm⟩ := findNow_i k m es 0 hpw
    have hc : ∀ em, (Instr.checkKey em 10000 K (.int .i64 k)).run P s.w = .ok () s.w := fun em => MapKept.run_checkKey (k := .int .i64 k) hK (by simp [MapKept.IsKey]) em 9999
    have hf : (Instr.findKey K (.int .i64 k) es).run P s.w = .ok r s.w := MapKept.run_findKey hK hr
    cases hg : iget m k with
    | none =>
      rw [hg] at hm
      subst hm
      refine ⟨.tuple #[z, .bool false], ?_, V.tup2 (V_ofConst s z) (.bool _)⟩
      simp [execOp, ho, h1', h2, Instr.lookup, run_underlying hu, MapKept.run_getObj_map hb, hc, hf, hz, Result.andThen]
    | some y =>
      obtain ⟨j, v⟩ := y
      rw [hg] at hm
      obtain ⟨cv, rfl, hcv⟩ := hm
      refine ⟨.tuple #[cv, .bool true], ?_, V.tup2 hcv (.bool _)⟩
      simp [execOp, ho, h1', h2, Instr.lookup, run_underlying hu, MapKept.run_getObj_map hb, hc, hf, Result.andThen]
/-- A key that isn't there yet. -/
theorem op_mapUpdI {v : AV} (ho : o.op = .mapUpdate T a b c) (hu : P.underlying T = some (.map K E)) (hK : P.underlying K = some (.int .i64)) (hx : opO e a = some (.mapv p)) (hy : opO e b = some (.int .i64 k)) (hc : opO e c = some v)
    (hσ : σ[p]? = some (.map (imap m))) (hn : iget m k = none) : AOp P σ e o .any (σ.set p (.map (imap (m ++ [(k, v)])))) := by
  intro s ac hs g hv Kk Q hk _
  subst hs
  have h1 := opO_eq hx ▸ hv a (by simp [ho, Op.operands])
  have h2 := (opO_eq hy ▸ hv b (by simp [ho, Op.operands])).inv_int
  have h3 := opO_eq hc ▸ hv c (by simp [ho, Op.operands])
  have h1' := h1.inv_mapv
  obtain ⟨hnok, es, ck, hb, hpw⟩ := g.obj p _ hσ
  obtain ⟨r, hr, hm⟩ := findNow_i k m es 0 hpw
  rw [hn] at hm
  subst hm
  have hcc : (Instr.checkKey false 10000 K (.int .i64 k)).run P s.w = .ok () s.w := MapKept.run_checkKey (k := .int .i64 k) hK (by simp [MapKept.IsKey]) false 9999
  have hf : (Instr.findKey K (.int .i64 k) es).run P s.w = .ok none s.w := MapKept.run_findKey hK hr
  have mf : ∀ {α : Type} (x y : List (α × α)), mflat (x ++ y) = mflat x ++ mflat y := fun {α} x y => by
    induction x with
    | nil => rfl
    | cons q r ih => simp [mflat, ih]
  obtain ⟨s', e1, e2, g', x'⟩ := g.setMap hσ (l' := imap (m ++ [(k, v)])) (es := es ++ [{ key := .int .i64 k, val := ac.eval c, born := ck }]) (c := ck + 1) (by
    simp only [imap, List.map_append, mf]
    exact hpw.append (PW.cons (.int .i64 k) (PW.cons h3 PW.nil)))
  refine wp_skipv (w' := s'.w) ?_ (hk .any undef s' ⟨rfl, e1⟩ g' x' (.any _))
  rw [e2]
  simp [execOp, ho, h1', h2, Instr.mapUpdate, run_underlying hu, MapKept.run_getObj_map hb, hcc, hf, MapKept.run_setObj_map _ hb, Result.andThen]
end
theorem mflat_length {α : Type} (l : List (α × α)) : (mflat l).length = 2 * l.length := by
  induction l with
  | nil => rfl
  | cons q r ih => simp [mflat, ih]; omega
/-- How many keys. -/
theorem op_lenMap {T K E : TypeId} {x : Operand} {c : Array TypeId} {l : List (AV × AV)} (ho : o.op = .call { callee := .builtin .len, args := #[x], argTypes := c }) (hc : c[0]? = some T) (hu : P.underlying T = some (.map K E))
    (hx : opO e x = some (.mapv p)) (hσ : σ[p]? = some (.map l)) : AOp P σ e o (.int .i64 (l.length : Int)) σ :=
  .of_run fun s a hs g hv => by
    subst hs
    have h1 := (opO_eq hx ▸ hv x (by simp [ho, Op.operands, Call.operands])).inv_mapv
    obtain ⟨hnok, es, ck, hb, hpw⟩ := g.obj p _ hσ
    have hl : es.length = l.length := by
      have := hpw.1
      rw [mflat_length, mflat_length, List.length_map] at this
      omega
    refine ⟨.int .i64 (es.length : Int), ?_, by rw [hl]; exact .int _ _⟩
    simp [execOp, ho, resolve, invoke, builtin, h1, Builtin.len_, hc, run_underlying hu, goInt, MapKept.run_getObj_map hb, Result.andThen]
end Lg
namespace Lg
open Go Go.RowKit
variable [GLay] {P : Program} {N : Nat} {σ l : List AO} {e : Env} {Q : QA} {o : Oper}
/-- A nil slice, asked whether it is nil. -/
theorem op_eqNils {T T' E : TypeId} {x : Operand} (ho : o.op = .binOp .eql T x (.const (.slice none 0 0)) T') (hu : P.underlying T = some (.slice E)) (hx : opO e x = some .nils) : AOp P σ e o (.bool true) σ :=
  op_bin ho (opO_eq hx) rfl fun s cx cy _ _ h1 h2 => by
    have e1 := h1.inv_nils
    have e2 : cy = .slice none 0 0 := h2.inv_nils
    subst e1; subst e2
    have he : ∀ d, (Go.Op.equalIn (d + 1) T (.slice none 0 0) (.slice none 0 0)).run P s.w = .ok true s.w := fun d => by simp [Go.Op.equalIn, run_underlying hu]
    have he' : (Go.Op.equal T (.slice none 0 0) (.slice none 0 0)).run P s.w = .ok true s.w := he 9999
    exact ⟨.bool true, by simp only [binOp]; simp [he'], .bool _, by simp [eqGuard]⟩
/-- Two objects of the caller's are written; what is the call's own stays behind. -/
theorem set2_app {τ l : List AO} {p q : Nat} (hp : p < τ.length) (hq : q < τ.length) (x y : AO) : ((τ ++ l).set p x).set q y = (τ.set p x).set q y ++ l := by
  rw [List.set_append_left _ _ hp, List.set_append_left _ _ (by simpa using hq)]
theorem set2_len {τ : List AO} {p q n : Nat} {x y : AO} (h : τ.length = n) : ((τ.set p x).set q y).length = n := by simpa using h
theorem set2_set {τ : List AO} {p q : Nat} (h : p ≠ q) (x y x' y' : AO) : (((τ.set p x).set q y).set p x').set q y' = (τ.set p x').set q y' := by
  rw [List.set_comm _ _ (Ne.symm h), List.set_set, List.set_set]
end Lg
namespace Lg
open Go
/-! ### Trees (layer 16): the cells of a node that is done, its Ids one behind the other -/
def krow (m : List (ByteArray × JV)) : List (List AV) := m.map fun q => [AV.str q.1]
def bare8 (k : Int) (b : Bool) (n : JNum) (s : ByteArray) : List AV := [.int .i64 k, .bool b, .bool n.neg, .str n.digits, .int .i64 n.exp, .str s, .nils, .nils]
mutual
def tcells : JV → Int → List AV
  | .mk k b n s l m, id => .int .i64 id :: (bare8 k b n s ++ [.sl false 1 (krow m), .sl false 1 (tL l (id + 1) ++ tM m (id + 1 + lsize l))])
def tL : List JV → Int → List (List AV)
  | [], _ => []
  | x :: r, id => [.pp (tcells x id)] :: tL r (id + jsize x)
def tM : List (ByteArray × JV) → Int → List (List AV)
  | [], _ => []
  | (_, x) :: r, id => [.pp (tcells x id)] :: tM r (id + jsize x)
end
theorem tcells_eq (v : JV) (id : Int) : tcells v id = .int .i64 id :: (bare8 v.kind v.b v.n v.s ++ [.sl false 1 (krow v.m), .sl false 1 (tL v.l (id + 1) ++ tM v.m (id + 1 + lsize v.l))]) := by
  cases v; simp [tcells, JV.kind, JV.b, JV.n, JV.s, JV.l, JV.m]
theorem tL_snoc (x : JV) : ∀ (l : List JV) (id : Int), tL (l ++ [x]) id = tL l id ++ [[.pp (tcells x (id + lsize l))]]
  | [], id => by simp [tL, lsize]
  | y :: r, id => by
    rw [List.cons_append, tL, tL_snoc x r, tL, lsize, List.cons_append]
    rw [show id + jsize y + lsize r = id + (jsize y + lsize r) by omega]
theorem tM_snoc (q : ByteArray × JV) : ∀ (m : List (ByteArray × JV)) (id : Int), tM (m ++ [q]) id = tM m id ++ [[.pp (tcells q.2 (id + msize m))]]
  | [], id => by obtain ⟨k, x⟩ := q; simp [tM, msize]
  | (a, y) :: r, id => by
    rw [List.cons_append, tM, tM_snoc q r, tM, msize, List.cons_append]
    rw [show id + jsize y + msize r = id + (jsize y + msize r) by omega]
theorem tL_len : ∀ (l : List JV) (id : Int), (tL l id).length = l.length
  | [], _ => rfl
  | x :: r, id => by rw [tL, List.length_cons, tL_len r, List.length_cons]
theorem tM_len : ∀ (m : List (ByteArray × JV)) (id : Int), (tM m id).length = m.length
  | [], _ => rfl
  | (a, x) :: r, id => by rw [tM, List.length_cons, tM_len r, List.length_cons]
theorem tL_get {x : JV} : ∀ {l : List JV} {i : Nat} (id : Int), l[i]? = some x → (tL l id)[i]? = some [.pp (tcells x (id + lsize (l.take i)))]
  | [], i, id, h => by simp at h
  | y :: r, 0, id, h => by simp at h; subst h; simp [tL, lsize]
  | y :: r, i + 1, id, h => by
    rw [tL, List.getElem?_cons_succ, tL_get (id + jsize y) (by simpa using h), List.take_succ_cons, lsize]
    rw [show id + jsize y + lsize (r.take i) = id + (jsize y + lsize (r.take i)) by omega]
theorem tM_get {q : ByteArray × JV} : ∀ {m : List (ByteArray × JV)} {i : Nat} (id : Int), m[i]? = some q → (tM m id)[i]? = some [.pp (tcells q.2 (id + msize (m.take i)))]
  | [], i, id, h => by simp at h
  | (a, y) :: r, 0, id, h => by simp at h; subst h; simp [tM, msize]
  | (a, y) :: r, i + 1, id, h => by
    rw [tM, List.getElem?_cons_succ, tM_get (id + jsize y) (by simpa using h), List.take_succ_cons, msize]
    rw [show id + jsize y + msize (r.take i) = id + (jsize y + msize (r.take i)) by omega]
end Lg
namespace Lg
open Go Go.RowKit
variable [GLay]
variable {P : Program} {N : Nat} {e : Env} {σ l : List AO} {Q : QA} {ops : Array Oper} {o : Oper}
theorem AWp_ghostInO {c : Code} (k i sz n : Nat) (hn : l.length = n) {bs : List AV} (hq : l[k]? = some (.box bs)) (hi : bs[i]? = some .nils) (h : AWp P N c e (σ ++ (l ++ [AO.arr sz 0 []]).set k (.box (bs.set i (.arr (σ.length + n) 0 sz 0 0)))) Q) : AWp P N c e (σ ++ l) Q :=
  AWp_ghostIn (σ.length + k) i sz (by rw [get_ownT rfl]; exact hq) hi (by
    have e1 : (σ ++ l).length = σ.length + n := by simp [hn]
    rw [e1, List.append_assoc, set_ownT rfl]; exact h)
theorem AWp_freezeInO {c : Code} (kq i kp gg sz len : Nat) {bs cs : List AV} (hq : l[kq]? = some (.box bs)) (hi : bs[i]? = some (.arr (σ.length + kp) gg sz 0 len)) (hσ : l[kp]? = some (.arr sz gg cs)) (es : List (List AV)) (hes : es.flatten = cs)
    (hel : ∀ r ∈ es, r.length = sz) (hlen : es.length = len) (hsz : sz ≠ 0) (k : AWp P N c e (σ ++ (l.set kp .dead).set kq (.box (bs.set i (.sl false sz es)))) Q) : AWp P N c e (σ ++ l) Q := by
  have hcl : cs.length = len * sz := by rw [← hes, flatten_len hel, hlen]
  refine AWp_freezeIn (σ.length + kq) i (σ.length + kp) gg sz 0 len (by rw [get_ownT rfl]; exact hq) hi (by rw [get_ownT rfl]; exact hσ) es ?_ hel hlen hsz ?_ (by rw [set_ownT rfl, set_ownT rfl]; exact k)
  · rw [Nat.zero_mul, List.drop_zero, ← hcl, List.take_length]; exact hes
  · rw [Nat.zero_add, hcl]; exact Nat.le_refl _
theorem AWp_freezeBoxO {c : Code} (t k : Nat) {cs : List AV} (hl : lookO e.l t = some (.ptr (σ.length + k) 0)) (hk : l[k]? = some (.box cs)) (h : AWp P N c (e.put (some t) (.pp cs)) (σ ++ l.set k .gone) Q) (ht : t < N) : AWp P N c e (σ ++ l) Q :=
  AWp_freeze t (σ.length + k) 0 hl (by rw [get_own]; exact hk) (by rw [set_own]; exact h) ht
/-- Within a region: a slice of an array of the call's own becomes one that is never written again. -/
theorem AOps_freezeAO {D : List (FuncId × List AV)} {el : List (Nat × AV)} {rest : List Oper} (t k gg sz n : Nat) (es : List (List AV)) (hl : lookO el t = some (.arr (σ.length + k) gg sz 0 n)) (hk : l[k]? = some (.arr sz gg es.flatten)) (hel : ∀ r ∈ es, r.length = sz) (hn : es.length = n) (hsz : sz ≠ 0)
    (h : AOps P N ops rest ⟨D, (t, .sl false sz es) :: el⟩ (σ ++ l.set k .dead) Q) (ht : Nat.blt t N = true) : AOps P N ops rest ⟨D, el⟩ (σ ++ l) Q := fun s0 s a hs g x he => by
  have hσ : s.σ[σ.length + k]? = some (.arr sz gg es.flatten) := by rw [hs, get_own]; exact hk
  have hv := he.tmps t
  rw [show (Env.mk D el).look t = .arr (σ.length + k) gg sz 0 n from lookO_eq hl] at hv
  have hfl : es.flatten.length = n * sz := by rw [flatten_len hel, hn]
  obtain ⟨s', e1, e2, g', x', hv'⟩ := freezeArr_V g hσ hv es (by rw [Nat.zero_mul, List.drop_zero, ← hfl, List.take_length]) hel hn hsz (by rw [Nat.zero_add, hfl]; exact Nat.le_refl _)
  have htN : t < N := by simpa using ht
  have := h s0 s' a (by rw [e1, hs, set_own]) g' (x.trans x') (by
    have h1 := (he.mono g x').put (some t) hv' (fun d hd => by cases hd; exact htN)
    rwa [put_self (by rw [he.size]; exact htN)] at h1)
  rwa [e2] at this
/-- A call's end: what it leaves up to m is the caller's. -/
theorem ResQ_K {n0 : Nat} {ts : List Nat} {el : List (Nat × AV)} {v : AV} {R : Out → List AO → Prop} (m : Nat) (hm : n0 ≤ m) (h : resA ts ⟨[], el⟩ = v) (hc : closed m σ) (hv : v.lt m) (hR : R (.ret v) (σ.take m)) : ResQ n0 ts R .ret ⟨[], el⟩ σ :=
  ⟨rfl, m, hm, hc, by rw [h]; exact hv, by rw [h]; exact hR⟩
theorem set1_app {τ : List AO} {p : Nat} (hp : p < τ.length) (x : AO) : (τ ++ l).set p x = τ.set p x ++ l := List.set_append_left _ _ hp
theorem get_app {τ : List AO} {p : Nat} {x : AO} (h : τ[p]? = some x) : (τ ++ l)[p]? = some x := get_old h
theorem iget_app {m : List (Int × AV)} {k : Int} (h : ∀ q ∈ m, ¬ q.1 = k) (r : List (Int × AV)) : (iget (m ++ r) k).map (·.2) = (iget r k).map (·.2) := by
  induction m with
  | nil => rfl
  | cons a m ih =>
    obtain ⟨x, v⟩ := a
    have h1 : ¬ k = x := fun e => h (x, v) (by simp) e.symm
    rw [List.cons_append, iget, if_neg h1]
    have := ih (fun q hq => h q (by simp [hq]))
    rw [← this]
    cases iget (m ++ r) k <;> rfl
theorem iget_last {m : List (Int × AV)} {k : Int} (h : ∀ q ∈ m, ¬ q.1 = k) (v : AV) : (iget (m ++ [(k, v)]) k).map (·.2) = some v := by
  rw [iget_app h]; simp [iget]
theorem imap_lt (n : Nat) (m : List (Int × AV)) (h : ∀ q ∈ m, q.2.lt n) : AV.ltL n (mflat (imap m)) := by
  induction m with
  | nil => trivial
  | cons a r ih =>
    obtain ⟨k, v⟩ := a
    exact ⟨trivial, h (k, v) (by simp), ih (fun q hq => h q (by simp [hq]))⟩
end Lg
namespace Lg
open Go
/-! ### What the law's Seen has seen of a tree -/
mutual
def seenV : JV → Int → List (Int × AV)
  | .mk k b n s l m, id => seenL l (id + 1) ++ seenM m (id + 1 + lsize l) ++ [(id, .agg (vcells (.mk k b n s l m)))]
def seenL : List JV → Int → List (Int × AV)
  | [], _ => []
  | x :: r, id => seenV x id ++ seenL r (id + jsize x)
def seenM : List (ByteArray × JV) → Int → List (Int × AV)
  | [], _ => []
  | (_, x) :: r, id => seenV x id ++ seenM r (id + jsize x)
end
theorem seenV_eq (v : JV) (id : Int) : seenV v id = seenL v.l (id + 1) ++ seenM v.m (id + 1 + lsize v.l) ++ [(id, .agg (vcells v))] := by
  cases v; simp [seenV, JV.l, JV.m]
theorem seenL_snoc (x : JV) : ∀ (l : List JV) (id : Int), seenL (l ++ [x]) id = seenL l id ++ seenV x (id + lsize l)
  | [], id => by simp [seenL, lsize]
  | y :: r, id => by
    rw [List.cons_append, seenL, seenL_snoc x r, seenL, lsize, List.append_assoc]
    rw [show id + jsize y + lsize r = id + (jsize y + lsize r) by omega]
theorem seenM_snoc (q : ByteArray × JV) : ∀ (m : List (ByteArray × JV)) (id : Int), seenM (m ++ [q]) id = seenM m id ++ seenV q.2 (id + msize m)
  | [], id => by obtain ⟨k, x⟩ := q; simp [seenM, msize]
  | (a, y) :: r, id => by
    rw [List.cons_append, seenM, seenM_snoc q r, seenM, msize, List.append_assoc]
    rw [show id + jsize y + msize r = id + (jsize y + msize r) by omega]
mutual
theorem seenV_key : ∀ (v : JV) (id : Int), ∀ q ∈ seenV v id, id ≤ q.1 ∧ q.1 < id + jsize v
  | .mk k b n s l m, id => fun q hq => by
    have hl := lsize_nn l
    have hm := msize_nn m
    rw [seenV] at hq
    rw [jsize]
    rcases List.mem_append.1 hq with hq | hq
    · rcases List.mem_append.1 hq with hq | hq
      · have := seenL_key l _ q hq; omega
      · have := seenM_key m _ q hq; omega
    · rw [List.mem_singleton] at hq; subst hq; simp only; omega
theorem seenL_key : ∀ (l : List JV) (id : Int), ∀ q ∈ seenL l id, id ≤ q.1 ∧ q.1 < id + lsize l
  | [], id => fun q hq => by simp [seenL] at hq
  | x :: r, id => fun q hq => by
    have hr := lsize_nn r
    have hx := jsize_pos x
    rw [seenL] at hq
    rw [lsize]
    rcases List.mem_append.1 hq with hq | hq
    · have := seenV_key x _ q hq; omega
    · have := seenL_key r _ q hq; omega
theorem seenM_key : ∀ (m : List (ByteArray × JV)) (id : Int), ∀ q ∈ seenM m id, id ≤ q.1 ∧ q.1 < id + msize m
  | [], id => fun q hq => by simp [seenM] at hq
  | (a, x) :: r, id => fun q hq => by
    have hr := msize_nn r
    have hx := jsize_pos x
    rw [seenM] at hq
    rw [msize]
    rcases List.mem_append.1 hq with hq | hq
    · have := seenV_key x _ q hq; omega
    · have := seenM_key r _ q hq; omega
end
mutual
theorem seenV_len : ∀ (v : JV) (id : Int), ((seenV v id).length : Int) = jsize v
  | .mk k b n s l m, id => by rw [seenV, jsize, List.length_append, List.length_append]; have := seenL_len l (id + 1); have := seenM_len m (id + 1 + lsize l); simp only [List.length_cons, List.length_nil]; omega
theorem seenL_len : ∀ (l : List JV) (id : Int), ((seenL l id).length : Int) = lsize l
  | [], id => rfl
  | x :: r, id => by rw [seenL, lsize, List.length_append]; have := seenV_len x id; have := seenL_len r (id + jsize x); omega
theorem seenM_len : ∀ (m : List (ByteArray × JV)) (id : Int), ((seenM m id).length : Int) = msize m
  | [], id => rfl
  | (a, x) :: r, id => by rw [seenM, msize, List.length_append]; have := seenV_len x id; have := seenM_len r (id + jsize x); omega
end
section
variable [GLay]
mutual
theorem seenV_lt (n : Nat) : ∀ (v : JV) (id : Int), ∀ q ∈ seenV v id, q.2.lt n
  | .mk k b nn s l m, id => fun q hq => by
    rw [seenV] at hq
    rcases List.mem_append.1 hq with hq | hq
    · rcases List.mem_append.1 hq with hq | hq
      · exact seenL_lt n l _ q hq
      · exact seenM_lt n m _ q hq
    · rw [List.mem_singleton] at hq; subst hq; simp [AV.lt]
theorem seenL_lt (n : Nat) : ∀ (l : List JV) (id : Int), ∀ q ∈ seenL l id, q.2.lt n
  | [], id => fun q hq => by simp [seenL] at hq
  | x :: r, id => fun q hq => by
    rw [seenL] at hq
    rcases List.mem_append.1 hq with hq | hq
    · exact seenV_lt n x _ q hq
    · exact seenL_lt n r _ q hq
theorem seenM_lt (n : Nat) : ∀ (m : List (ByteArray × JV)) (id : Int), ∀ q ∈ seenM m id, q.2.lt n
  | [], id => fun q hq => by simp [seenM] at hq
  | (a, x) :: r, id => fun q hq => by
    rw [seenM] at hq
    rcases List.mem_append.1 hq with hq | hq
    · exact seenV_lt n x _ q hq
    · exact seenM_lt n r _ q hq
end
/-- A tree's value, once it was seen. -/
theorem seen_get {M : List (Int × AV)} {v : JV} {id : Int} (h : ∀ q ∈ M, q.1 < id) : (iget (M ++ seenV v id) id).map (·.2) = some (.agg (vcells v)) := by
  rw [seenV_eq, ← List.append_assoc]
  refine iget_last (fun q hq => ?_) _
  rcases List.mem_append.1 hq with hq | hq
  · have := h q hq; omega
  · rcases List.mem_append.1 hq with hq | hq
    · have := seenL_key v.l _ q hq; omega
    · have := seenM_key v.m _ q hq; have := lsize_nn v.l; omega
theorem seen_below {M : List (Int × AV)} {v : JV} {id : Int} (h : ∀ q ∈ M, q.1 < id) : ∀ q ∈ M ++ seenV v id, q.1 < id + jsize v := fun q hq => by
  have := jsize_pos v
  rcases List.mem_append.1 hq with hq | hq
  · have := h q hq; omega
  · exact (seenV_key v id q hq).2
end
/-- The Ids of a tree. -/
def idrow (id : Int) (n : Nat) : List (List AV) := (List.range n).map fun i => [AV.int .i64 (id + (i : Nat))]
theorem idrow_len (id : Int) (n : Nat) : (idrow id n).length = n := by simp [idrow]
theorem idrow_app (id : Int) (a b : Nat) : idrow id a ++ idrow (id + a) b = idrow id (a + b) := by
  unfold idrow
  rw [List.range_add, List.map_append, List.map_map]
  congr 1
  refine List.map_congr_left fun i _ => ?_
  simp only [Function.comp_apply]
  rw [show id + (a : Int) + (i : Int) = id + ((a + i : Nat) : Int) by omega]
theorem idrow_get {id : Int} {n i : Nat} (h : i < n) : (idrow id n)[i]? = some [.int .i64 (id + (i : Nat))] := by
  simp [idrow, h]
theorem idrow_el (id : Int) (n : Nat) : ∀ r ∈ idrow id n, r.length = 1 := by
  intro r hr; simp [idrow] at hr; obtain ⟨i, _, rfl⟩ := hr; rfl
theorem idrow_flat (id : Int) (n : Nat) : (idrow id n).flatten = (List.range n).map fun i => AV.int .i64 (id + (i : Nat)) := by
  unfold idrow
  induction (List.range n) with
  | nil => rfl
  | cons a r ih => simp [ih]
@[simp] theorem idrow_lt (m : Nat) (id : Int) (n : Nat) : AV.ltLL m (idrow id n) := by
  rw [AV.ltLL_iff]; intro e he; simp [idrow] at he; obtain ⟨i, _, rfl⟩ := he; exact ⟨trivial, trivial⟩
@[simp] theorem idflat_lt (m : Nat) (id : Int) (n : Nat) : AV.ltL m (idrow id n).flatten := by
  rw [idrow_flat, AV.ltL_iff]; intro a ha; simp at ha; obtain ⟨i, _, rfl⟩ := ha; trivial
theorem idones [GLay] (id : Int) (n : Nat) : ones (idrow id n).flatten = true := by
  rw [idrow_flat, ones_iff]; intro a ha; simp at ha; obtain ⟨i, _, rfl⟩ := ha; rfl
mutual
theorem tcells_lt (m : Nat) : ∀ (v : JV) (id : Int), AV.ltL m (tcells v id)
  | .mk k b n s l q, id => by
    rw [tcells, bare8]
    refine ⟨trivial, trivial, trivial, trivial, trivial, trivial, trivial, trivial, trivial, ?_, ?_, trivial⟩
    · show AV.ltLL m (krow q)
      rw [AV.ltLL_iff]; intro e he; simp [krow] at he; obtain ⟨a, b, _, rfl⟩ := he; exact ⟨trivial, trivial⟩
    · show AV.ltLL m (tL l (id + 1) ++ tM q (id + 1 + lsize l))
      rw [AV.ltLL_iff]; intro e he
      rcases List.mem_append.1 he with he | he
      · exact (AV.ltLL_iff _ _).1 (tL_lt m l _) e he
      · exact (AV.ltLL_iff _ _).1 (tM_lt m q _) e he
theorem tL_lt (m : Nat) : ∀ (l : List JV) (id : Int), AV.ltLL m (tL l id)
  | [], id => trivial
  | x :: r, id => by rw [tL]; exact ⟨⟨tcells_lt m x id, trivial⟩, tL_lt m r _⟩
theorem tM_lt (m : Nat) : ∀ (l : List (ByteArray × JV)) (id : Int), AV.ltLL m (tM l id)
  | [], id => trivial
  | (a, x) :: r, id => by rw [tM]; exact ⟨⟨tcells_lt m x id, trivial⟩, tM_lt m r _⟩
end
end Lg
namespace Lg
open Go
/-! ### How deep what is read may be -/
theorem ldep_snoc (l : List JV) (x : JV) : ldep (l ++ [x]) = max (ldep l) (jdepth x) := by
  induction l with
  | nil => simp only [List.nil_append, ldep]
  | cons a r ih => simp only [List.cons_append, ldep, ih]; omega
theorem mdep_ins [GLay] (m : List (ByteArray × JV)) (key : ByteArray) (x : JV) : mdep (rins m key x) = max (mdep m) (jdepth x) := by
  induction m with
  | nil => rw [rins_nil]; simp only [mdep]
  | cons p m ih =>
    obtain ⟨k, v⟩ := p
    rw [rins_cons]
    split
    · simp only [mdep, ih]; omega
    · simp only [mdep]
theorem ldep_mem {l : List JV} {i : Nat} {x : JV} (h : l[i]? = some x) : jdepth x ≤ ldep l := by
  induction l generalizing i with
  | nil => simp at h
  | cons a r ih =>
    cases i with
    | zero => simp at h; subst h; simp only [ldep]; omega
    | succ i => have := ih (i := i) (by simpa using h); simp only [ldep]; omega
theorem mdep_mem {m : List (ByteArray × JV)} {i : Nat} {q : ByteArray × JV} (h : m[i]? = some q) : jdepth q.2 ≤ mdep m := by
  induction m generalizing i with
  | nil => simp at h
  | cons a r ih =>
    obtain ⟨k, y⟩ := a
    cases i with
    | zero => simp at h; subst h; simp only [mdep]; omega
    | succ i => have := ih (i := i) (by simpa using h); simp only [mdep]; omega
/-- The depth of what was read without an error. -/
def DD (r : RS) (x : JV × RS) : Prop := r.deep ≤ 32 → x.2.bad = 0 → jdepth x.1 + r.deep ≤ 32
section
variable [GLay]
variable {rv : RS → JV × RS} {s : ByteArray} (hs : s.size ≤ 100000) (hrv : ∀ r, ROK s r → VR s r (rv r)) (hd : ∀ r, ROK s r → DD r (rv r))
include hrv hd
theorem rarrF_dep : ∀ (k : Nat) (l : List JV) (r : RS), ROK s r → r.deep ≤ 32 → (r.bad = 0 → ldep l + r.deep ≤ 32) → (rarrF rv s k l r).2.bad = 0 → ldep (rarrF rv s k l r).1 + r.deep ≤ 32 := by
  intro k
  induction k with
  | zero => intro l r h h1 h2 h3; exact h2 h3
  | succ k ih =>
    intro l r h h1 h2 h3
    rw [rarrF] at h3 ⊢
    have hv := hrv r h
    split at h3
    · rename_i hc
      rw [if_pos hc]
      split at h3
      · rename_i hp
        rw [if_pos hp]
        have hi := rinc_to hv.fwd.ok (by omega)
        have e : (rinc (rv r).2).deep = r.deep := hv.deep
        have := ih (l ++ [(rv r).1]) (rinc (rv r).2) hi.ok (by omega) (fun e2 => by
          rw [ldep_snoc]
          have := hd r h h1 e2
          have := h2 (hv.fwd.b e2)
          omega) h3
        omega
      · rename_i hp
        rw [if_neg hp, ldep_snoc]
        have := hd r h h1 h3
        have := h2 (hv.fwd.b h3)
        omega
    · rename_i hc
      rw [if_neg hc]; exact h2 h3
omit hd in
theorem ropen_dep {r : RS} (hb : r.bad = 0) (h : (ropen s r).bad = 0) (h1 : r.deep ≤ 32) : r.deep + 1 ≤ 32 := by
  by_cases e : r.deep = 32
  · simp [ropen, e, hb] at h
  · omega
include hs
theorem rarr_dep {r : RS} (h : ROK s r) (hb : r.bad = 0) (ha : r.a < s.size) : DD r (rarr rv s r) := fun h1 h2 => by
  obtain ⟨o1, o2, o3⟩ := ropen_to h hb ha
  obtain ⟨q1, q2, q3, q4, q5⟩ := rarrF_ok hrv (s.size + 2) [] (ropen s r) o1.ok trivial (fun _ => trivial)
  obtain ⟨w1, w2⟩ := rwant_to (lit := rb1) q1.ok
  have h3 : (rarrF rv s (s.size + 2) [] (ropen s r)).2.bad = 0 := w1.b h2
  have h4 := ropen_dep hrv hb (q1.b h3) h1
  have h5 := rarrF_dep hrv hd (s.size + 2) [] (ropen s r) o1.ok (by omega) (fun _ => by simp only [ldep]; omega) h3
  unfold rarr
  show jdepth (.mk 4 false {} e0 _ []) + _ ≤ _
  rw [jdepth, if_pos (.inl rfl), mdep]
  have := ldep_nn (rarrF rv s (s.size + 2) [] (ropen s r)).1
  omega
theorem robjF_dep : ∀ (k : Nat) (m : List (ByteArray × JV)) (r : RS), ROK s r → r.deep ≤ 32 → (r.bad = 0 → mdep m + r.deep ≤ 32) → (robjF rv s k m r).2.bad = 0 → mdep (robjF rv s k m r).1 + r.deep ≤ 32 := by
  intro k
  induction k with
  | zero => intro m r h h1 h2 h3; exact h2 h3
  | succ k ih =>
    intro m r h h1 h2 h3
    rw [robjF] at h3 ⊢
    obtain ⟨k1, k2, k3, k4, k5⟩ := rkey_ok hrv (m := m) h
    have hv := hrv _ k1.ok
    split at h3
    · rename_i hc
      rw [if_pos hc]
      split at h3
      · rename_i hp
        rw [if_pos hp]
        have hi := rinc_to hv.fwd.ok (by omega)
        have e : (rinc (rv (rkey s m r).2).2).deep = r.deep := hv.deep.trans k2
        have := ih (rins m (rkey s m r).1 (rv (rkey s m r).2).1) (rinc (rv (rkey s m r).2).2) hi.ok (by omega) (fun e2 => by
          rw [mdep_ins]
          have := hd _ k1.ok (by omega) e2
          have := h2 (k1.b (hv.fwd.b e2))
          omega) h3
        omega
      · rename_i hp
        rw [if_neg hp, mdep_ins]
        have := hd _ k1.ok (by omega) h3
        have := h2 (k1.b (hv.fwd.b h3))
        omega
    · rename_i hc
      rw [if_neg hc]; exact h2 h3
theorem robj_dep {r : RS} (h : ROK s r) (hb : r.bad = 0) (ha : r.a < s.size) : DD r (robj rv s r) := fun h1 h2 => by
  obtain ⟨o1, o2, o3⟩ := ropen_to h hb ha
  obtain ⟨q1, q2, q3, q4, q5⟩ := robjF_ok hs hrv (s.size + 2) [] (ropen s r) o1.ok trivial (fun _ => ⟨fun q hq => by simp at hq, List.Pairwise.nil⟩)
  obtain ⟨w1, w2⟩ := rwant_to (lit := rb2) q1.ok
  have h3 : (robjF rv s (s.size + 2) [] (ropen s r)).2.bad = 0 := w1.b h2
  have h4 := ropen_dep hrv hb (q1.b h3) h1
  have h5 := robjF_dep hs hrv hd (s.size + 2) [] (ropen s r) o1.ok (by omega) (fun _ => by simp only [mdep]; omega) h3
  unfold robj
  show jdepth (.mk 5 false {} e0 [] _) + _ ≤ _
  rw [jdepth, if_pos (.inr rfl), ldep]
  have := mdep_nn (robjF rv s (s.size + 2) [] (ropen s r)).1
  omega
theorem rone_dep {r : RS} (h : ROK s r) : DD r (rone rv s r) := by
  have hz : ∀ {k : Int} {b : Bool} {n : JNum} {t : ByteArray} {r' : RS}, ¬ (k = 4 ∨ k = 5) → DD r (.mk k b n t [] [], r') := fun {k b n t r'} hk h1 _ => by
    show jdepth (.mk k b n t [] []) + _ ≤ _
    rw [jdepth, if_neg hk]; omega
  unfold rone
  split
  · rename_i hp; have := pk_yes (s := s) (a := r.a) (bad := r.bad) (by omega); exact robj_dep hs hrv hd h this.1 this.2.1
  split
  · rename_i hp; have := pk_yes (s := s) (a := r.a) (bad := r.bad) (by omega); exact rarr_dep hs hrv hd h this.1 this.2.1
  split
  · exact hz (by decide)
  split
  · exact hz (by decide)
  split
  · exact hz (by decide)
  split
  · exact hz (by decide)
  split
  · exact hz (by decide)
  · exact hz (by decide)
end
section
variable [GLay]
theorem rval_dep {s : ByteArray} (hs : s.size ≤ 100000) : ∀ (n : Nat) (r : RS), ROK s r → DD r (rval n s r) := by
  intro n
  induction n with
  | zero => intro r h h1 h2; show jdepth (.mk 0 false {} ⟨#[]⟩ [] []) + _ ≤ _; rw [jdepth, if_neg (by decide)]; omega
  | succ n ih =>
    intro r h h1 h2
    have b1 := rblank_to h
    have hv := rone_ok hs (rval_ok hs n) b1.ok
    have b2 := rblank_to hv.fwd.ok
    rw [rval] at h2 ⊢
    exact rone_dep hs (rval_ok hs n) ih b1.ok h1 (b2.b h2)
theorem rParse_dep (s : ByteArray) (h : (rParse s).2.1 = 0) : jdepth (rParse s).1 ≤ 32 := by
  unfold rParse at h ⊢
  split at h
  · cases h
  · rename_i hs
    split at h
    · rename_i hb
      rw [if_neg hs, if_pos hb]
      have h0 : ROK s ⟨0, 0, 0, 0⟩ := ⟨Nat.zero_le _, fun _ => Nat.zero_le _, Int.le_refl _, Int.le_refl _⟩
      have hb2 : (rpar s).2.bad = 0 := by
        unfold rparE at hb
        split at hb
        · exact absurd hb (rfail_bad (by decide))
        · exact hb
      have := rval_dep (by omega) (s.size + 2) ⟨0, 0, 0, 0⟩ h0 (by decide) hb2
      have e : (rval (s.size + 2) s ⟨0, 0, 0, 0⟩) = rpar s := rfl
      rw [e] at this; dsimp only at this ⊢; omega
    · rename_i hb; exact absurd h hb
theorem rValue_dep (s : ByteArray) (h : (rValue s).2 ≠ 0) : jdepth (rValue s).1 ≤ 32 := by
  unfold rValue at h ⊢
  split
  · rename_i h1; rw [if_pos h1] at h; exact absurd rfl h
  rename_i h1
  rw [if_neg h1] at h
  split
  · rename_i h2; exact rParse_dep s h2
  · rename_i h2; rw [if_neg h2] at h; exact absurd rfl h
end
/-! ### A node's kids -/
def jkids (v : JV) : List JV := v.l ++ v.m.map (·.2)
theorem tLM (m : List (ByteArray × JV)) : ∀ (l : List JV) (id : Int), tL l id ++ tM m (id + lsize l) = tL (l ++ m.map (·.2)) id
  | [], id => by
    simp only [tL, lsize, List.nil_append, Int.add_zero]
    induction m generalizing id with
    | nil => rfl
    | cons q r ih => obtain ⟨k, x⟩ := q; simp only [tM, List.map_cons, tL, ih]
  | y :: r, id => by
    simp only [List.cons_append, tL]
    rw [← tLM m r (id + jsize y), lsize, show id + (jsize y + lsize r) = id + jsize y + lsize r by omega]
theorem tcells_k (v : JV) (id : Int) : tcells v id = .int .i64 id :: (bare8 v.kind v.b v.n v.s ++ [.sl false 1 (krow v.m), .sl false 1 (tL (jkids v) (id + 1))]) := by
  rw [tcells_eq, tLM]; rfl
theorem tcells_x (v : JV) (id : Int) : tcells v id = [.int .i64 id, .int .i64 v.kind, .bool v.b, .bool v.n.neg, .str v.n.digits, .int .i64 v.n.exp, .str v.s, .nils, .nils, .sl false 1 (krow v.m), .sl false 1 (tL (jkids v) (id + 1))] := tcells_k v id
theorem lsize_kids (m : List (ByteArray × JV)) : ∀ l : List JV, lsize (l ++ m.map (·.2)) = lsize l + msize m
  | [] => by
    simp only [List.nil_append, lsize, Int.zero_add]
    induction m with
    | nil => rfl
    | cons q r ih => obtain ⟨k, x⟩ := q; simp only [List.map_cons, lsize, msize, ih]
  | y :: r => by simp only [List.cons_append, lsize, lsize_kids m r]; omega
theorem jsize_kids (v : JV) : jsize v = 1 + lsize (jkids v) := by rw [jsize_eq, jkids, lsize_kids]; omega
theorem tLf_len (l : List JV) (id : Int) : (tL l id).flatten.length = l.length := by
  induction l generalizing id with
  | nil => rfl
  | cons a r ih => simp only [tL, List.flatten_cons, List.length_append, ih, List.length_cons, List.length_nil]; omega
theorem tMf_len (m : List (ByteArray × JV)) (id : Int) : (tM m id).flatten.length = m.length := by
  induction m generalizing id with
  | nil => rfl
  | cons a r ih => obtain ⟨k, x⟩ := a; simp only [tM, List.flatten_cons, List.length_append, ih, List.length_cons, List.length_nil]; omega
theorem tL_el (l : List JV) (id : Int) : ∀ r ∈ tL l id, r.length = 1 := by
  induction l generalizing id with
  | nil => intro r hr; simp [tL] at hr
  | cons a r ih =>
    intro x hx
    rw [tL] at hx
    rcases List.mem_cons.1 hx with rfl | h
    · rfl
    · exact ih _ x h
theorem tM_el (m : List (ByteArray × JV)) (id : Int) : ∀ r ∈ tM m id, r.length = 1 := by
  induction m generalizing id with
  | nil => intro r hr; simp [tM] at hr
  | cons a r ih =>
    obtain ⟨k, y⟩ := a
    intro x hx
    rw [tM] at hx
    rcases List.mem_cons.1 hx with rfl | h
    · rfl
    · exact ih _ x h
theorem krow_len (m : List (ByteArray × JV)) : (krow m).length = m.length := by simp [krow]
theorem krow_get {m : List (ByteArray × JV)} {i : Nat} {q : ByteArray × JV} (h : m[i]? = some q) : (krow m)[i]? = some [.str q.1] := by simp [krow, h]
theorem krow_el (m : List (ByteArray × JV)) : ∀ r ∈ krow m, r.length = 1 := by intro r hr; simp [krow] at hr; obtain ⟨_, _, _, rfl⟩ := hr; rfl
theorem krow_snoc (m : List (ByteArray × JV)) (q : ByteArray × JV) : (krow (m ++ [q])).flatten = (krow m).flatten ++ [.str q.1] := by simp [krow]
theorem kflat_len (m : List (ByteArray × JV)) : (krow m).flatten.length = m.length := by
  induction m with
  | nil => rfl
  | cons a r ih =>
    have : krow (a :: r) = [.str a.1] :: krow r := rfl
    rw [this]; simp only [List.flatten_cons, List.length_append, ih, List.length_cons, List.length_nil]; omega
@[simp] theorem krow_lt (n : Nat) (m : List (ByteArray × JV)) : AV.ltLL n (krow m) := by
  rw [AV.ltLL_iff]; intro e he; simp [krow] at he; obtain ⟨a, b, _, rfl⟩ := he; exact ⟨trivial, trivial⟩
theorem flat_lt {n : Nat} {es : List (List AV)} (h : AV.ltLL n es) : AV.ltL n es.flatten := by
  rw [AV.ltL_iff]; intro a ha
  obtain ⟨e, he, h2⟩ := List.mem_flatten.1 ha
  exact (AV.ltL_iff _ _).1 ((AV.ltLL_iff _ _).1 h e he) a h2
theorem flat_snoc {α : Type} (a b : List (List α)) (c : List α) : (a ++ (b ++ [c])).flatten = (a ++ b).flatten ++ c := by simp
theorem ltLL_app (n : Nat) (a b : List (List AV)) : AV.ltLL n (a ++ b) ↔ AV.ltLL n a ∧ AV.ltLL n b := by
  induction a with
  | nil => simp [AV.ltLL]
  | cons x a ih => simp only [List.cons_append, AV.ltLL, ih, and_assoc]
attribute [simp] tcells_lt tL_lt tM_lt
section
variable [GLay]
theorem may_nol {v : JV} (h : jmay v) (hk : ¬ v.kind = 4) : v.l = [] := by
  have hb := ((jmay_eq v).1 h).1.2.2.1
  unfold jbare at hb
  simp only [hk, Bool.and_eq_true, Bool.or_eq_true, decide_eq_true_eq, or_false] at hb
  exact List.length_eq_zero_iff.1 hb.2.1
theorem may_nom {v : JV} (h : jmay v) (hk : ¬ v.kind = 5) : v.m = [] := by
  have hb := ((jmay_eq v).1 h).1.2.2.1
  unfold jbare at hb
  simp only [hk, Bool.and_eq_true, Bool.or_eq_true, decide_eq_true_eq, or_false] at hb
  exact List.length_eq_zero_iff.1 hb.2.2
theorem may_get {v : JV} (h : jmay v) {i : Nat} {x : JV} (hx : v.l[i]? = some x) : jmay x := ((jmay_eq v).1 h).2.2 i x hx
theorem may_mget {v : JV} (h : jmay v) {i : Nat} {q : ByteArray × JV} (hq : v.m[i]? = some q) : jmay q.2 :=
  (((jmay_eq v).1 h).2.1 i q (List.getElem?_eq_some_iff.1 hq).1 hq).2
end
end Lg
set_option maxRecDepth 20000
set_option maxHeartbeats 4000000
namespace Lg
open Go Go.Proofs Go.RowKit
variable [GLay] 
theorem rptr_c (s : BL) (σ : List AO) (hs : s.length ≤ 1000000) : ACalls Tryd.prog 93 [.str (ba s)] σ (Ret (.tup [.sl false 1 (srow (pN s)), .int .i64 (pEi s)]) σ) := by
 refine ACalls_body Tryd.func93 rfl Tryd.ntmps93 (res2 Tryd.results93) (Nat.le_of_ble_eq_true rfl) (fun hcl hal => ?_)
 have hbz : (ba s).size = s.length := ba_size s
 refine zw2 ?_
 refine AWp_seq ?_
 refine zw2 ?_
 refine AWp_cond rfl (fun h1 => ?_) (fun h1 => ?_)
 ·(try rw [h1]); replace h1 := zcl h1
  have hs0 : s = [] := ba_nil.1 h1
  refine zw2 ?_
  refine AWp_slotLe 2 rfl (AVle.nils false 1) ?_ (by decide)
  refine zrt ?_
  subst hs0
  exact ResQ_20 rfl rfl hcl (by simp [AV.lt, AV.ltL, AV.ltLL]) (Ret_of rfl)
 ·(try rw [h1]); replace h1 := zcl h1
  have hs0 : ¬ s = [] := fun e => h1 (ba_nil.2 e)
  have hsl : 0 < s.length := List.length_pos_iff.2 hs0
  refine AWp_skip ?_
  refine AWp_seq ?_
  refine zw3 ?_
  refine AWp_cond rfl (fun h2 => ?_) (fun h2 => ?_)
  ·(try rw [h2]); replace h2 := zcl h2
   have h47 : ¬ s[0]? = some 47 := fun e => h2 ((g47 hsl).1 e)
   refine zw2 ?_
   refine AWp_slotLe 2 rfl (AVle.nils false 1) ?_ (by decide)
   refine zrt ?_
   have hE : pE s = some 0 := by unfold pE; rw [if_neg hs0, if_pos h47]
   rw [pEi_s hE, pN_bad hs0 hE]
   exact ResQ_20 rfl rfl hcl (by simp [AV.lt, AV.ltL, AV.ltLL]) (Ret_of rfl)
  ·(try rw [h2]); replace h2 := zcl h2
   have h47 : s[0]? = some 47 := (g47 hsl).2 h2
   refine AWp_skip ?_
   refine zw1 ?_
   refine AWp_seq ?_
   refine AWp_seq ?_
   refine AWp_ghostT 4 1 rfl ?_ (by decide)
   refine AWp_regL ?_
   refine zv1 ?_
   refine AWp_block ?_
   -- loop 0 LIVE 0:param 2:assign 3:assign 4:assign 5:assign
   refine AWp_loop (ι := Nat × List BL × Nat) (fun z => PAt s z.1 z.2.1) (fun z => ⟨[], [(0, .str (ba s)), (4, .arr (σ.length + 0) z.2.2 1 0 z.2.1.length), (5, .int .i64 (z.1 : Int))]⟩) (fun z => σ ++ [.arr 1 z.2.2 (srow z.2.1).flatten]) (fun z => s.length - z.1) ((0, [], 0)) (PAt.zero s) ?_ rfl (fun z hz => ?_)
   ·exact ⟨rfl, rfl, rfl, rfl, trivial⟩
   obtain ⟨i, L, g⟩ := z
   simp only at hz ⊢
   have hzl := hz.le
   have hzn := hz.len
   have z1 : ∀ c : UInt8, (ByteArray.mk #[c]).size = 1 := fun c => rfl
   refine AWp_seq ?_
   refine zw4 ?_
   refine AWp_cond rfl (fun h3 => ?_) (fun h3 => ?_)
   ·(try rw [h3]); replace h3 := zcl h3
    refine AWp_skip ?_
    refine AWp_seq ?_
    refine AWp_block ?_
    refine zw4 ?_
    refine AWp_seq ?_
    refine zw2 ?_
    refine AWp_cond rfl (fun h4 => ?_) (fun h4 => ?_)
    ·(try rw [h4]); replace h4 := zcl h4
     have hz47 := (g47 (show i < s.length by omega)).2 h4
     refine zu1 ?_
     refine zt rfl (op_buildSlice [[_]] rfl Tryd.underlying64 Tryd.sizeOf9 Tryd.zeroValue9 rfl (by decide) (by decide) rfl rfl rfl rfl rfl) ?_
     refine zt rfl (op_appendArrT rfl 0 (sz := 1) (m := 1) (len := L.length) (cs := [.str ⟨#[]⟩]) rfl (.inr ⟨_, rfl⟩) Tryd.underlying64 Tryd.underlying64 Tryd.type9 rfl rfl rfl (by decide) rfl rfl (by rw [sflat_len, Nat.mul_one]) rfl rfl rfl (by show (L.length + 1) * 16 ≤ _; omega) (by omega) rfl) ?_
     refine zv1 ?_
     refine AWp_exit ?_
     refine AWp_regL ?_
     refine zv3 ?_
     have hp9 := hz.slash hz47
     refine ⟨(i + 1, L ++ [[]], g + 1), σ.length + 1, hp9, by have := hp9.le; simp only; omega, by simp, ⟨rfl, rfl, by rw [List.length_append]; rfl, rfl, trivial⟩, closed_own 1 hcl ?_, ?_, ?_⟩
     ·simp [ownLt, AO.cells, ltL_append, AV.ltL, AV.lt, flat_lt]
     ·simp [ltE, AV.lt]
     ·refine (take_own 1).trans ?_
      rw [srow_snoc]; rfl
    ·(try rw [h4]); replace h4 := zcl h4
     have hn47 : ¬ s[i]? = some 47 := fun e => h4 ((g47 (show i < s.length by omega)).1 e)
     have hi1 : 1 ≤ i := by rcases Nat.eq_zero_or_pos i with e | e; subst e; exact absurd h47 hn47; exact e
     obtain ⟨ps, q, hLq⟩ := hz.last hi1
     have hqs := hz.el q (by rw [hLq]; simp)
     have hLl := hz.len
     subst hLq
     have hLp : 1 ≤ (ps ++ [q]).length := by rw [List.length_append]; simp
     have hqz : (ba q).size = q.length := ba_size q
     have hlst := srow_last ps q
     refine AWp_skip ?_
     refine AWp_seq ?_
     refine zw2 ?_
     refine AWp_cond rfl (fun h5 => ?_) (fun h5 => ?_)
     ·(try rw [h5]); replace h5 := zcl h5
      have hz126 := (g126 (show i < s.length by omega)).2 h5
      refine AWp_seq ?_
      refine zw5 ?_
      refine AWp_cond rfl (fun h6 => ?_) (fun h6 => ?_)
      ·(try rw [h6]); replace h6 := zcl h6
       refine zw3 ?_
       refine AWp_slotLe 2 rfl (AVle.nils false 1) ?_ (by decide)
       refine zrt ?_
       have ht : tbad s i = true := tbad_t (show i < s.length by omega) h5 (.inl (by omega))
       have hE : pE s = some i := pE_at hs0 h47 (show i < s.length by omega) ht hz.bad
       rw [pEi_s hE, pN_bad hs0 hE]
       exact ResQ_2 rfl rfl hcl (by simp [AV.lt, AV.ltL, AV.ltLL]) (Ret_of rfl)
      ·(try rw [h6]); replace h6 := zcl h6
       refine AWp_skip ?_
       refine zw3 ?_
       refine AWp_seq ?_
       refine zu5 ?_
       refine zsp 40 rfl (fun h7 => ?_) fun h7 => ?_
       ·rw [h7]; replace h7 := zcl h7
        refine zv5 ?_
        refine AWp_cond rfl (fun h8 => ?_) (fun h8 => ?_)
        ·(try rw [h8]); replace h8 := zcl h8
         refine zw4 ?_
         refine AWp_slotLe 2 rfl (AVle.nils false 1) ?_ (by decide)
         refine zrt ?_
         have ht : tbad s i = true := tbad_t (show i < s.length by omega) h5 (.inr ⟨h7, h8⟩)
         have hE : pE s = some i := pE_at hs0 h47 (show i < s.length by omega) ht hz.bad
         rw [pEi_s hE, pN_bad hs0 hE]
         exact ResQ_2 rfl rfl hcl (by simp [AV.lt, AV.ltL, AV.ltLL]) (Ret_of (by rw [show (i : Int) + 1 - 1 = i by omega]; rfl))
        ·(try rw [h8]); replace h8 := zcl h8
         refine AWp_skip ?_
         refine zw1 ?_
         refine zw4 ?_
         refine AWp_cond rfl (fun h9 => ?_) (fun h9 => ?_)
         ·(try rw [h9]); replace h9 := zcl h9
          have hi9 := hz126
          refine AWp_regL ?_
          refine zv1 ?_
          refine AWp_drawL #[0, 0, 2, 6, 0, 0, 32, 96, 240, 496, 0, 1024, 3072, 8176, 16383, 32767] Tryd.mixed (by decide +kernel) (by decide +kernel) ?_
          refine zd2 ?_
          refine yP rfl rfl (op_lenS rfl rfl Tryd.underlying64 rfl rfl ⟨1, _, get_own 0⟩) (trivial) ?_
          refine zd3 ?_
          refine yP rfl rfl (op_lenS rfl rfl Tryd.underlying64 rfl rfl ⟨1, _, get_own 0⟩) (trivial) ?_
          refine zd1 ?_
          refine yP rfl rfl (op_indexAddrAO (j := 0) rfl Tryd.underlying64 Tryd.sizeOf9 rfl rfl (by omega) (by omega) rfl) (trivial) ?_
          refine yP rfl rfl (op_load1 rfl Tryd.isAgg9 (ldv_el (j := 0) (i := (ps ++ [q]).length - 1) rfl hlst (by omega))) (trivial) ?_
          refine zd1 ?_
          refine yA rfl rfl (fun _ => op_buildSlice [[_]] rfl Tryd.underlying114 Tryd.sizeOf5 Tryd.zeroValue5 rfl (by decide) (by decide) rfl rfl rfl rfl rfl) ?_
          refine yA rfl rfl (fun _ => (by first | exact op_bytesStr (b := ⟨#[126]⟩) (m := 1) rfl Tryd.underlying114 Tryd.underlying5 Tryd.underlying9 rfl rfl rfl | exact op_bytesStr (b := ⟨#[47]⟩) (m := 1) rfl Tryd.underlying114 Tryd.underlying5 Tryd.underlying9 rfl rfl rfl | exact op_bytesStr (b := ⟨#[bat (ba s) i]⟩) (m := 1) rfl Tryd.underlying114 Tryd.underlying5 Tryd.underlying9 rfl rfl rfl)) ?_
          refine yA rfl rfl (fun _ => op_cat rfl rfl rfl (by rw [hqz]; show q.length + 1 ≤ _; omega)) ?_
          refine yP rfl rfl (op_indexAddrAO (j := 0) rfl Tryd.underlying64 Tryd.sizeOf9 rfl rfl (by omega) (by omega) rfl) (trivial) ?_
          refine yEN rfl rfl rfl (op_storeEl (j := 0) (i := (ps ++ [q]).length - 1) rfl Tryd.sizeOf9 rfl rfl (by omega) rfl (by rw [sflat_len]; omega)) (⟨.inl rfl, ⟨.inl rfl, ⟨.inl rfl, ⟨.inl rfl, ⟨.inl rfl, trivial⟩⟩⟩⟩⟩) (trivial) ?_
          refine RP.nil rfl ?_
          refine AWp_regL ?_
          refine zv3 ?_
          have hz49 := (g49 (show i + 1 < s.length by omega)).2 h8
          have hp9 := hz.esc hi1 rfl hz126 hz49 (.inr rfl)
          refine ⟨(i + 1 + 1, ps ++ [q ++ [47]], g), σ.length + 1, hp9, by have := hp9.le; simp only; omega, by simp, ⟨rfl, rfl, by rw [List.length_append, List.length_append]; rfl, rfl, trivial⟩, closed_own 1 hcl ?_, ?_, ?_⟩
          ·simp [ownLt, AO.cells]; rw [AV.ltL_iff]; intro a ha; rcases List.mem_or_eq_of_mem_set ha with h | rfl; exact (AV.ltL_iff _ _).1 (flat_lt (srow_lt _ _)) a h; trivial
          ·simp [ltE, AV.lt]
          ·refine (take_own 1).trans ?_
           rw [← srow_setl ps q (q ++ [47]), ← ba_app]; rfl
         ·(try rw [h9]); replace h9 := zcl h9
          exact absurd h8 h9
       ·rw [h7]; replace h7 := zcl h7
        refine zv5 ?_
        refine AWp_condF rfl ?_
        refine AWp_skip ?_
        refine zw1 ?_
        refine zw4 ?_
        refine AWp_cond rfl (fun h10 => ?_) (fun h10 => ?_)
        ·(try rw [h10]); replace h10 := zcl h10
         omega
        ·(try rw [h10]); replace h10 := zcl h10
         refine AWp_skip ?_
         refine AWp_drawL #[0, 0, 2, 6, 0, 0, 32, 96, 240, 496, 0, 1024, 3072, 8176, 16383, 32767] Tryd.mixed (by decide +kernel) (by decide +kernel) ?_
         refine zd2 ?_
         refine yP rfl rfl (op_lenS rfl rfl Tryd.underlying64 rfl rfl ⟨1, _, get_own 0⟩) (trivial) ?_
         refine zd3 ?_
         refine yP rfl rfl (op_lenS rfl rfl Tryd.underlying64 rfl rfl ⟨1, _, get_own 0⟩) (trivial) ?_
         refine zd1 ?_
         refine yP rfl rfl (op_indexAddrAO (j := 0) rfl Tryd.underlying64 Tryd.sizeOf9 rfl rfl (by omega) (by omega) rfl) (trivial) ?_
         refine yP rfl rfl (op_load1 rfl Tryd.isAgg9 (ldv_el (j := 0) (i := (ps ++ [q]).length - 1) rfl hlst (by omega))) (trivial) ?_
         refine zd1 ?_
         refine yA rfl rfl (fun _ => op_buildSlice [[_]] rfl Tryd.underlying114 Tryd.sizeOf5 Tryd.zeroValue5 rfl (by decide) (by decide) rfl rfl rfl rfl rfl) ?_
         refine yA rfl rfl (fun _ => (by first | exact op_bytesStr (b := ⟨#[126]⟩) (m := 1) rfl Tryd.underlying114 Tryd.underlying5 Tryd.underlying9 rfl rfl rfl | exact op_bytesStr (b := ⟨#[47]⟩) (m := 1) rfl Tryd.underlying114 Tryd.underlying5 Tryd.underlying9 rfl rfl rfl | exact op_bytesStr (b := ⟨#[bat (ba s) i]⟩) (m := 1) rfl Tryd.underlying114 Tryd.underlying5 Tryd.underlying9 rfl rfl rfl)) ?_
         refine yA rfl rfl (fun _ => op_cat rfl rfl rfl (by rw [hqz]; show q.length + 1 ≤ _; omega)) ?_
         refine yP rfl rfl (op_indexAddrAO (j := 0) rfl Tryd.underlying64 Tryd.sizeOf9 rfl rfl (by omega) (by omega) rfl) (trivial) ?_
         refine yEN rfl rfl rfl (op_storeEl (j := 0) (i := (ps ++ [q]).length - 1) rfl Tryd.sizeOf9 rfl rfl (by omega) rfl (by rw [sflat_len]; omega)) (⟨.inl rfl, ⟨.inl rfl, ⟨.inl rfl, ⟨.inl rfl, ⟨.inl rfl, trivial⟩⟩⟩⟩⟩) (trivial) ?_
         refine RP.nil rfl ?_
         refine AWp_regL ?_
         refine zv3 ?_
         have hz48 := (g48 (show i + 1 < s.length by omega)).2 h7
         have hp9 := hz.esc hi1 rfl hz126 hz48 (.inl rfl)
         refine ⟨(i + 1 + 1, ps ++ [q ++ [126]], g), σ.length + 1, hp9, by have := hp9.le; simp only; omega, by simp, ⟨rfl, rfl, by rw [List.length_append, List.length_append]; rfl, rfl, trivial⟩, closed_own 1 hcl ?_, ?_, ?_⟩
         ·simp [ownLt, AO.cells]; rw [AV.ltL_iff]; intro a ha; rcases List.mem_or_eq_of_mem_set ha with h | rfl; exact (AV.ltL_iff _ _).1 (flat_lt (srow_lt _ _)) a h; trivial
         ·simp [ltE, AV.lt]
         ·refine (take_own 1).trans ?_
          rw [← srow_setl ps q (q ++ [126]), ← ba_app]; rfl
     ·(try rw [h5]); replace h5 := zcl h5
      have hn126 : ¬ s[i]? = some 126 := fun e => h5 ((g126 (show i < s.length by omega)).1 e)
      refine AWp_skip ?_
      refine AWp_drawL #[0, 0, 2, 6, 0, 0, 32, 96, 240, 496, 0, 1024, 3072, 8176, 16383, 32767] Tryd.mixed (by decide +kernel) (by decide +kernel) ?_
      refine zd2 ?_
      refine yP rfl rfl (op_lenS rfl rfl Tryd.underlying64 rfl rfl ⟨1, _, get_own 0⟩) (trivial) ?_
      refine zd3 ?_
      refine yP rfl rfl (op_lenS rfl rfl Tryd.underlying64 rfl rfl ⟨1, _, get_own 0⟩) (trivial) ?_
      refine zd1 ?_
      refine yP rfl rfl (op_indexAddrAO (j := 0) rfl Tryd.underlying64 Tryd.sizeOf9 rfl rfl (by omega) (by omega) rfl) (trivial) ?_
      refine yP rfl rfl (op_load1 rfl Tryd.isAgg9 (ldv_el (j := 0) (i := (ps ++ [q]).length - 1) rfl hlst (by omega))) (trivial) ?_
      refine zd1 ?_
      refine yA rfl rfl (fun _ => op_buildSlice [[_]] rfl Tryd.underlying114 Tryd.sizeOf5 Tryd.zeroValue5 rfl (by decide) (by decide) rfl rfl rfl rfl rfl) ?_
      refine yA rfl rfl (fun _ => (by first | exact op_bytesStr (b := ⟨#[126]⟩) (m := 1) rfl Tryd.underlying114 Tryd.underlying5 Tryd.underlying9 rfl rfl rfl | exact op_bytesStr (b := ⟨#[47]⟩) (m := 1) rfl Tryd.underlying114 Tryd.underlying5 Tryd.underlying9 rfl rfl rfl | exact op_bytesStr (b := ⟨#[bat (ba s) i]⟩) (m := 1) rfl Tryd.underlying114 Tryd.underlying5 Tryd.underlying9 rfl rfl rfl)) ?_
      refine yA rfl rfl (fun _ => op_cat rfl rfl rfl (by rw [hqz]; show q.length + 1 ≤ _; omega)) ?_
      refine yP rfl rfl (op_indexAddrAO (j := 0) rfl Tryd.underlying64 Tryd.sizeOf9 rfl rfl (by omega) (by omega) rfl) (trivial) ?_
      refine yEN rfl rfl rfl (op_storeEl (j := 0) (i := (ps ++ [q]).length - 1) rfl Tryd.sizeOf9 rfl rfl (by omega) rfl (by rw [sflat_len]; omega)) (⟨.inl rfl, ⟨.inl rfl, ⟨.inl rfl, ⟨.inl rfl, ⟨.inl rfl, trivial⟩⟩⟩⟩⟩) (trivial) ?_
      refine RP.nil rfl ?_
      refine AWp_regL ?_
      refine zv3 ?_
      have hzb : s[i]? = some (bat (ba s) i) := (get_is (show i < s.length by omega)).2 rfl
      have hp9 := hz.byte hi1 rfl hzb (fun e => hn47 (hzb.trans (congrArg some e))) (fun e => hn126 (hzb.trans (congrArg some e)))
      refine ⟨(i + 1, ps ++ [q ++ [bat (ba s) i]], g), σ.length + 1, hp9, by have := hp9.le; simp only; omega, by simp, ⟨rfl, rfl, by rw [List.length_append, List.length_append]; rfl, rfl, trivial⟩, closed_own 1 hcl ?_, ?_, ?_⟩
      ·simp [ownLt, AO.cells]; rw [AV.ltL_iff]; intro a ha; rcases List.mem_or_eq_of_mem_set ha with h | rfl; exact (AV.ltL_iff _ _).1 (flat_lt (srow_lt _ _)) a h; trivial
      ·simp [ltE, AV.lt]
      ·refine (take_own 1).trans ?_
       rw [← srow_setl ps q (q ++ [bat (ba s) i]), ← ba_app]; rfl
   ·(try rw [h3]); replace h3 := zcl h3
    refine AWp_exit ?_
    refine AWp_seq ?_
    have hie : i = s.length := by omega
    subst hie
    obtain ⟨hE, hN⟩ := hz.done hs0 h47
    refine AWp_freezeAO 4 0 g 1 L.length (srow L) rfl rfl (srow_el _) (srow_len _) (by decide) ?_ (by decide)
    refine AWp_regL ?_
    refine zv3 ?_
    refine zrt ?_
    rw [hN, pEi_n hE]
    exact ResQ_2 rfl rfl hcl (by simp [AV.lt, AV.ltL]) (Ret_of rfl)
end Lg
set_option maxRecDepth 20000
set_option maxHeartbeats 4000000
namespace Go.Proofs
open Go.Shelf
def Tryd.lays155_ren : Go.Shelf.Ren := ⟨fun | 155 => 61 | 154 => 87 | 138 => 106 | 165 => 107 | 143 => 108 | 166 => 109 | 197 => 110 | 169 => 111 | 195 => 123 | 218 => 124 | 240 => 125 | 241 => 126 | 219 => 127 | 260 => 128 | 276 => 131 | 277 => 132 | 217 => 133 | 225 => 134 | 224 => 135 | 267 => 136 | 266 => 138 | 314 => 139 | n => n, fun | 9 => 9 | 3 => 3 | 4 => 4 | 72 => 162 | 0 => 0 | 76 => 164 | 105 => 166 | 21 => 21 | 5 => 5 | 70 => 160 | 20 => 20 | 37 => 114 | 75 => 35 | 127 => 179 | 164 => 183 | 46 => 135 | 119 => 187 | 139 => 190 | 138 => 189 | 146 => 192 | 51 => 157 | 80 => 125 | n => n, fun | 1 => 0 | 3 => 1 | 4 => 2 | n => n⟩
theorem Tryd.lays155 : Go.Proofs.Lays.n155 Tryd.prog Tryd.lays155_ren := {
  mixed := by kernel_rfl, f138 := Tryd.func106.trans (congrArg some (by kernel_rfl)), f143 := Tryd.func108.trans (congrArg some (by kernel_rfl)), f154 := Tryd.func87.trans (congrArg some (by kernel_rfl)), f155 := Tryd.func61.trans (congrArg some (by kernel_rfl)), f165 := Tryd.func107.trans (congrArg some (by kernel_rfl)), f166 := Tryd.func109.trans (congrArg some (by kernel_rfl)), f169 := Tryd.func111.trans (congrArg some (by kernel_rfl)), f195 := Tryd.func123.trans (congrArg some (by kernel_rfl)), f197 := Tryd.func110.trans (congrArg some (by kernel_rfl)), f217 := Tryd.func133.trans (congrArg some (by kernel_rfl)), f218 := Tryd.func124.trans (congrArg some (by kernel_rfl)), f219 := Tryd.func127.trans (congrArg some (by kernel_rfl)), f224 := Tryd.func135.trans (congrArg some (by kernel_rfl)), f225 := Tryd.func134.trans (congrArg some (by kernel_rfl)), f240 := Tryd.func125.trans (congrArg some (by kernel_rfl)), f241 := Tryd.func126.trans (congrArg some (by kernel_rfl)), f260 := Tryd.func128.trans (congrArg some (by kernel_rfl)), f266 := Tryd.func138.trans (congrArg some (by kernel_rfl)), f267 := Tryd.func136.trans (congrArg some (by kernel_rfl)), f276 := Tryd.func131.trans (congrArg some (by kernel_rfl)), f277 := Tryd.func132.trans (congrArg some (by kernel_rfl)), f314 := Tryd.func139.trans (congrArg some (by kernel_rfl)), t0 := Tryd.underlying0, a0 := Tryd.isAgg0, z0 := Tryd.sizeOf0, v0 := Tryd.zeroValue0, t3 := Tryd.underlying3, a3 := Tryd.isAgg3, z3 := Tryd.sizeOf3, v3 := Tryd.zeroValue3, t4 := Tryd.underlying4, a4 := Tryd.isAgg4, z4 := Tryd.sizeOf4, v4 := Tryd.zeroValue4, t5 := Tryd.underlying5, a5 := Tryd.isAgg5, z5 := Tryd.sizeOf5, v5 := Tryd.zeroValue5, t9 := Tryd.underlying9, a9 := Tryd.isAgg9, z9 := Tryd.sizeOf9, v9 := Tryd.zeroValue9, t20 := Tryd.underlying20, a20 := Tryd.isAgg20, z20 := Tryd.sizeOf20, v20 := Tryd.zeroValue20, t21 := Tryd.underlying21, a21 := Tryd.isAgg21, z21 := Tryd.sizeOf21, v21 := Tryd.zeroValue21, t37 := Tryd.underlying114, a37 := Tryd.isAgg114, z37 := Tryd.sizeOf114, v37 := Tryd.zeroValue114, t46 := Tryd.underlying135, a46 := Tryd.isAgg135, z46 := Tryd.sizeOf135, v46 := Tryd.zeroValue135, t51 := Tryd.underlying157, a51 := Tryd.isAgg157, z51 := Tryd.sizeOf157, v51 := Tryd.zeroValue157, t70 := Tryd.underlying160, a70 := Tryd.isAgg160, z70 := Tryd.sizeOf160, v70 := Tryd.zeroValue160, t72 := Tryd.underlying162, a72 := Tryd.isAgg162, z72 := Tryd.sizeOf162, v72 := Tryd.zeroValue162, t75 := Tryd.underlying35, a75 := Tryd.isAgg35, z75 := Tryd.sizeOf35, v75 := Tryd.zeroValue35, t76 := Tryd.underlying164, a76 := Tryd.isAgg164, z76 := Tryd.sizeOf164, v76 := Tryd.zeroValue164, t105 := Tryd.underlying166, a105 := Tryd.isAgg166, z105 := Tryd.sizeOf166, v105 := Tryd.zeroValue166, t119 := Tryd.underlying187, a119 := Tryd.isAgg187, z119 := Tryd.sizeOf187, t127 := Tryd.underlying179, a127 := Tryd.isAgg179, z127 := Tryd.sizeOf179, v127 := Tryd.zeroValue179, t138 := Tryd.underlying189, a138 := Tryd.isAgg189, z138 := Tryd.sizeOf189, v138 := Tryd.zeroValue189, t139 := Tryd.underlying190, a139 := Tryd.isAgg190, z139 := Tryd.sizeOf190, v139 := Tryd.zeroValue190, t146 := Tryd.underlying192, a146 := Tryd.isAgg192, z146 := Tryd.sizeOf192, v146 := Tryd.zeroValue192, t164 := Tryd.underlying183, a164 := Tryd.isAgg183, z164 := Tryd.sizeOf183, v164 := Tryd.zeroValue183, g1 := by kernel_rfl, g3 := by kernel_rfl, g4 := by kernel_rfl }
def Tryd.lays146_ren : Go.Shelf.Ren := ⟨fun | 146 => 116 | 221 => 129 | 268 => 137 | 138 => 106 | 143 => 108 | 195 => 123 | 197 => 110 | 218 => 124 | 219 => 127 | 260 => 128 | 217 => 133 | 225 => 134 | 224 => 135 | 267 => 136 | 266 => 138 | 314 => 139 | n => n, fun | 9 => 9 | 31 => 64 | 3 => 3 | 4 => 4 | 0 => 0 | 105 => 166 | 21 => 21 | 5 => 5 | 46 => 135 | 119 => 187 | 139 => 190 | 138 => 189 | 146 => 192 | 51 => 157 | n => n, fun | 1 => 0 | 3 => 1 | 4 => 2 | n => n⟩
theorem Tryd.lays146 : Go.Proofs.Lays.n146 Tryd.prog Tryd.lays146_ren := {
  mixed := by kernel_rfl, f138 := Tryd.func106.trans (congrArg some (by kernel_rfl)), f143 := Tryd.func108.trans (congrArg some (by kernel_rfl)), f146 := Tryd.func116.trans (congrArg some (by kernel_rfl)), f195 := Tryd.func123.trans (congrArg some (by kernel_rfl)), f197 := Tryd.func110.trans (congrArg some (by kernel_rfl)), f217 := Tryd.func133.trans (congrArg some (by kernel_rfl)), f218 := Tryd.func124.trans (congrArg some (by kernel_rfl)), f219 := Tryd.func127.trans (congrArg some (by kernel_rfl)), f221 := Tryd.func129.trans (congrArg some (by kernel_rfl)), f224 := Tryd.func135.trans (congrArg some (by kernel_rfl)), f225 := Tryd.func134.trans (congrArg some (by kernel_rfl)), f260 := Tryd.func128.trans (congrArg some (by kernel_rfl)), f266 := Tryd.func138.trans (congrArg some (by kernel_rfl)), f267 := Tryd.func136.trans (congrArg some (by kernel_rfl)), f268 := Tryd.func137.trans (congrArg some (by kernel_rfl)), f314 := Tryd.func139.trans (congrArg some (by kernel_rfl)), t0 := Tryd.underlying0, a0 := Tryd.isAgg0, z0 := Tryd.sizeOf0, v0 := Tryd.zeroValue0, t3 := Tryd.underlying3, a3 := Tryd.isAgg3, z3 := Tryd.sizeOf3, v3 := Tryd.zeroValue3, t4 := Tryd.underlying4, a4 := Tryd.isAgg4, z4 := Tryd.sizeOf4, v4 := Tryd.zeroValue4, t5 := Tryd.underlying5, a5 := Tryd.isAgg5, z5 := Tryd.sizeOf5, v5 := Tryd.zeroValue5, t9 := Tryd.underlying9, a9 := Tryd.isAgg9, z9 := Tryd.sizeOf9, v9 := Tryd.zeroValue9, t21 := Tryd.underlying21, a21 := Tryd.isAgg21, z21 := Tryd.sizeOf21, v21 := Tryd.zeroValue21, t31 := Tryd.underlying64, a31 := Tryd.isAgg64, z31 := Tryd.sizeOf64, v31 := Tryd.zeroValue64, t46 := Tryd.underlying135, a46 := Tryd.isAgg135, z46 := Tryd.sizeOf135, v46 := Tryd.zeroValue135, t51 := Tryd.underlying157, a51 := Tryd.isAgg157, z51 := Tryd.sizeOf157, v51 := Tryd.zeroValue157, t105 := Tryd.underlying166, a105 := Tryd.isAgg166, z105 := Tryd.sizeOf166, v105 := Tryd.zeroValue166, t119 := Tryd.underlying187, a119 := Tryd.isAgg187, z119 := Tryd.sizeOf187, t138 := Tryd.underlying189, a138 := Tryd.isAgg189, z138 := Tryd.sizeOf189, v138 := Tryd.zeroValue189, t139 := Tryd.underlying190, a139 := Tryd.isAgg190, z139 := Tryd.sizeOf190, v139 := Tryd.zeroValue190, t146 := Tryd.underlying192, a146 := Tryd.isAgg192, z146 := Tryd.sizeOf192, v146 := Tryd.zeroValue192, g1 := by kernel_rfl, g3 := by kernel_rfl, g4 := by kernel_rfl }
def Tryd.laysM143_ren : Go.Shelf.Ren := ⟨fun | 143 => 108 | 219 => 127 | 217 => 133 | 225 => 134 | 224 => 135 | 267 => 136 | 266 => 138 | 314 => 139 | n => n, fun | 9 => 9 | 3 => 3 | 4 => 4 | 5 => 5 | 46 => 135 | 146 => 192 | 51 => 157 | n => n, fun | 1 => 0 | n => n⟩
theorem Tryd.laysM143 : Go.Proofs.LaysM.n143 Tryd.prog Tryd.laysM143_ren := {
  mixed := by kernel_rfl, f143 := Tryd.func108.trans (congrArg some (by kernel_rfl)), f217 := Tryd.func133.trans (congrArg some (by kernel_rfl)), f219 := Tryd.func127.trans (congrArg some (by kernel_rfl)), f224 := Tryd.func135.trans (congrArg some (by kernel_rfl)), f225 := Tryd.func134.trans (congrArg some (by kernel_rfl)), f266 := Tryd.func138.trans (congrArg some (by kernel_rfl)), f267 := Tryd.func136.trans (congrArg some (by kernel_rfl)), f314 := Tryd.func139.trans (congrArg some (by kernel_rfl)), t3 := Tryd.underlying3, a3 := Tryd.isAgg3, z3 := Tryd.sizeOf3, v3 := Tryd.zeroValue3, t4 := Tryd.underlying4, a4 := Tryd.isAgg4, z4 := Tryd.sizeOf4, v4 := Tryd.zeroValue4, t5 := Tryd.underlying5, a5 := Tryd.isAgg5, z5 := Tryd.sizeOf5, v5 := Tryd.zeroValue5, t9 := Tryd.underlying9, a9 := Tryd.isAgg9, z9 := Tryd.sizeOf9, v9 := Tryd.zeroValue9, t46 := Tryd.underlying135, a46 := Tryd.isAgg135, z46 := Tryd.sizeOf135, v46 := Tryd.zeroValue135, t51 := Tryd.underlying157, a51 := Tryd.isAgg157, z51 := Tryd.sizeOf157, v51 := Tryd.zeroValue157, t146 := Tryd.underlying192, a146 := Tryd.isAgg192, z146 := Tryd.sizeOf192, v146 := Tryd.zeroValue192, g1 := by kernel_rfl, i3 := by kernel_rfl, i4 := by kernel_rfl, i5 := by kernel_rfl, i9 := by kernel_rfl, i46 := by kernel_rfl, i51 := by kernel_rfl, i146 := by kernel_rfl, m1 := by kernel_rfl, s1_3 := fun w h => Go.Proofs.cell_of_shapedOpen_int (zero := #[.int .i64 0]) (t := 3) h (of_decide_eq_true (by kernel_rfl)) (by kernel_rfl) rfl (by kernel_rfl) (by kernel_rfl) Tryd.underlying3 }
theorem Tryd.bldX : Builder.Extra Tryd.prog Tryd.lays155_ren := { sizeBuilder := by kernel_rfl, liesBuilder := by kernel_rfl, t5 := Tryd.underlying5, a5 := Tryd.isAgg5, z5 := Tryd.sizeOf5, v5 := Tryd.zeroValue5, infoByte := by kernel_rfl, cellsByte := by kernel_rfl, sizeByte := by kernel_rfl, neB5 := by decide }
end Go.Proofs
namespace Lg
open Go Go.Proofs Go.RowKit
/-- The library's variable MaxLen holds some int. -/
class ML [GLay] : Prop where
  cell : ∃ m, ∀ w : World, Laid w → w.cell? ⟨0, 0, none⟩ = some (.int .i64 m)
section
variable [GLay] [ML]
theorem replA_c (s : ByteArray) (old nw : BL) (σ : List AO) (h0 : old ≠ []) (hne : old ≠ nw) (hs : s.size ≤ 1000000) (hn : nw.length ≤ 2) : ACalls Tryd.prog 61 [.str s, .str (ba old), .str (ba nw)] σ (Ret (.str (ba (ra old nw s.data.toList))) σ) :=
  ACalls_below fun st cargs g hp => by
    obtain ⟨q, qs, rfl, h1, h2⟩ := hp.inv_cons
    obtain ⟨q2, qs2, rfl, h3, h4⟩ := h2.inv_cons
    obtain ⟨q3, qs3, rfl, h5, h6⟩ := h4.inv_cons
    obtain rfl := h6.inv_nil
    obtain rfl := h1.inv_str
    obtain rfl := h3.inv_str
    obtain rfl := h5.inv_str
    obtain ⟨m, hm⟩ := ML.cell
    have hol : 1 ≤ (ba old).size := by rw [ba_size]; cases old with
      | nil => exact absurd rfl h0
      | cons => simp
    have hc := Lib.countB_le (ba old) hol s.size s (Nat.le_refl _)
    have hb : Lib.countB s (ba old) * (ba nw).size ≤ 1000000 * 2 := Nat.mul_le_mul (by omega) (by rw [ba_size]; exact hn)
    have h := Any.strings_ReplaceAll Tryd.lays155 Tryd.bldX s (ba old) (ba nw) m st.w (by omega) (hm _ g.laid) hol (by omega)
    rw [ba_toList, ba_toList, ra_all hne] at h
    exact ⟨_, fun _ => .str _, h⟩
theorem split_c (s : ByteArray) (c : UInt8) (σ : List AO) (hs : s.size ≤ 1000000) : ACalls Tryd.prog 116 [.str s, .str ⟨#[c]⟩] σ (fun o σ' => o = .ret (.arr σ.length 0 1 0 (pcs c s.data.toList).length) ∧ σ' = σ ++ [.arr 1 0 ((pcs c s.data.toList).map fun x => AV.str (ba x))]) := by
  intro st cargs hst g hp
  subst hst
  obtain ⟨q, qs, rfl, h1, h2⟩ := hp.inv_cons
  obtain ⟨q2, qs2, rfl, h3, h4⟩ := h2.inv_cons
  obtain rfl := h4.inv_nil
  obtain rfl := h1.inv_str
  obtain rfl := h3.inv_str
  obtain ⟨m, hm⟩ := ML.cell
  refine (Any.strings_Split Tryd.lays146 (by kernel_rfl) s ⟨#[c]⟩ m st.w (by omega) (hm _ g.laid) (by show 1 ≤ 1; omega)).mono ?_
  rintro e w' ⟨rfl, rfl⟩
  have hsp := splitB_pcs c s.data.toList.length s.data.toList (Nat.le_refl _)
  rw [← ba_eta] at hsp
  have hlen := Lib.splitB_all ⟨#[c]⟩ (by show 1 ≤ 1; omega) 0 _ s rfl
  rw [hsp, List.length_map] at hlen
  rw [hsp]
  obtain ⟨s', e1, e2, g', x', hμ⟩ := g.newArr (sz := 1) (cs := (pcs c s.data.toList).map fun x => AV.str (ba x)) (vs := ((pcs c s.data.toList).map ba).map Value.string) (by
    rw [List.take_of_length_le (by simp)]
    refine ⟨by simp, fun i cv v h1 h2 => ?_⟩
    rw [List.getElem?_map] at h1
    rw [List.getElem?_map, List.getElem?_map] at h2
    cases hx : (pcs c s.data.toList)[i]? with
    | none => rw [hx] at h1; cases h1
    | some x => rw [hx] at h1 h2; cases h1; cases h2; exact .str _) (by simp) (Tryd.lays146_ren.t 9) (Go.RowKit.Below.refl _ _) rfl
  exact ⟨s', e2, g', x', .arr st.σ.length 0 1 0 (Lib.countB s ⟨#[c]⟩ + 1), V.newArr (sz := 1) (cs := (pcs c s.data.toList).map fun x => AV.str (ba x)) (by rw [e1]; simp) hμ (Nat.le_refl _) (by simp; omega), by rw [hlen], e1⟩
end
theorem cell_heap0 [g : GLay] {W w : World} (hg : ∀ b, g.f b = W.heap[b]?) (hw : Laid w) {b c : Nat} {v : Value} (h : W.cell? ⟨b, c, none⟩ = some v) : w.cell? ⟨b, c, none⟩ = some v := by
  cases hb : W.heap[b]? with
  | none => simp [World.cell?, hb] at h
  | some o => rw [← h]; simp only [World.cell?, hb, hw b o ((hg b).trans hb)]
theorem ML.of [g : GLay] {W : World} (hS : W.ShapedOpen Tryd.prog) (hg : ∀ b, g.f b = W.heap[b]?) : ML := by
  obtain ⟨m, hm⟩ := Tryd.laysM143.s1_3 W hS
  exact ⟨m, fun w hw => cell_heap0 hg hw hm⟩
end Lg
set_option maxRecDepth 20000
set_option maxHeartbeats 4000000
namespace Lg
open Go Go.Proofs Go.RowKit
variable [GLay] [ML]
theorem pshw_c (f : Bool) (l : List BL) (σ : List AO) (hl : l.length ≤ 1000) (hx : ∀ x ∈ l, x.length ≤ 1000) : ACalls Tryd.prog 37 [.sl f 1 (srow l)] σ (Ret (.str (ba (shw l))) σ) := by
 refine ACalls_body Tryd.func37 rfl Tryd.ntmps37 (res1 Tryd.results37) (Nat.le_of_ble_eq_true rfl) (fun hcl hal => ?_)
 have hrl := srow_len l
 refine zw1 ?_
 refine zw1 ?_
 refine AWp_seq ?_
 refine zw3 ?_
 refine AWp_block ?_
 -- loop 0 LIVE 2:assign 3:assign 6:move 7:call 8:move
 refine AWp_loop (ι := Nat) (fun i => i ≤ l.length) (fun i => ⟨[], [(3, .str (ba (shw (l.take i)))), (6, .sl f 1 (srow l)), (7, .int .i64 ((srow l).length : Int)), (8, .int .i64 (i : Int))]⟩) (fun i => σ) (fun i => l.length - i) (0) (Nat.zero_le _) ?_ rfl (fun i hi => ?_)
 ·exact ⟨rfl, rfl, rfl, rfl, rfl, trivial⟩
 have hsl := shw_len 1000 (l.take i) (fun x h => hx x (List.mem_of_mem_take h))
 have htl : (l.take i).length ≤ 1000 := by rw [List.length_take]; omega
 have hsl2 : (shw (l.take i)).length ≤ 1000 * 2001 := Nat.le_trans hsl (Nat.mul_le_mul htl (Nat.le_refl _))
 refine zw1 ?_
 refine AWp_seq ?_
 refine AWp_cond rfl (fun h1 => ?_) (fun h1 => ?_)
 ·(try rw [h1]); replace h1 := zcl h1
  obtain ⟨x, hxi⟩ : ∃ x, l[i]? = some x := ⟨_, List.getElem?_eq_getElem (show i < l.length by omega)⟩
  have hxr := srow_get hxi
  have hxl := hx x (List.mem_of_getElem? hxi)
  have hr1 := ra1_len 126 [126, 48] (by decide) x
  have he1 := esc_len x
  refine AWp_skip ?_
  refine AWp_seq ?_
  refine AWp_block ?_
  refine zsr ?_
  refine zt rfl (op_indexAddr rfl Tryd.underlying64 Tryd.sizeOf9 rfl rfl (by omega) (hxr)) ?_
  refine zv2 ?_
  refine AWp_regL ?_
  refine zg2 ?_
  refine zt rfl (zc rfl (replA_c (ba x) [126] [126, 48] _ (by decide) (by decide) (by rw [ba_size]; omega) (by decide))) ?_
  rw [ba_toList]
  refine zt rfl (zc rfl (replA_c (ba (ra [126] [126, 48] x)) [47] [126, 49] _ (by decide) (by decide) (by rw [ba_size]; omega) (by decide))) ?_
  rw [ba_toList, esc_ra]
  have z1 : (ByteArray.mk #[47]).size = 1 := rfl
  have z2 : (ba (pesc x)).size = (pesc x).length := ba_size _
  have z3 : (ba (shw (l.take i))).size = (shw (l.take i)).length := ba_size _
  have z4 := ByteArray.size_append (a := (⟨#[47]⟩ : ByteArray)) (b := ba (pesc x))
  refine zv3 ?_
  refine AWp_regL ?_
  refine zv2 ?_
  refine ⟨i + 1, σ.length, by omega, by omega, Nat.le_refl _, ⟨rfl, ?_, rfl, rfl, rfl, trivial⟩, hcl, ?_, List.take_length⟩
  ·rw [List.take_add_one, hxi]; show _ = AV.str (ba (shw (List.take i l ++ [x]))); rw [shw_snoc, show (47 :: pesc x : BL) = [47] ++ pesc x from rfl, ← ba_app, ← ba_app]; rfl
  ·simp [ltE, AV.lt]
 ·(try rw [h1]); replace h1 := zcl h1
  refine AWp_exit ?_
  refine zw2 ?_
  refine zrt ?_
  exact ResQ_10 rfl hcl trivial (Ret_of (by rw [show i = l.length by omega, List.take_length]))

theorem names_c (f g : Bool) (a b : List BL) (σ : List AO) (hl : a.length ≤ 100000000) (hl2 : b.length ≤ 100000000) : ACalls Tryd.prog 41 [.sl f 1 (srow a), .sl g 1 (srow b)] σ (Ret (.int .i64 (bif pb (a = b) then 1 else 0)) σ) := by
 refine ACalls_body Tryd.func41 rfl Tryd.ntmps41 (res1 Tryd.results41) (Nat.le_of_ble_eq_true rfl) (fun hcl hal => ?_)
 have hra := srow_len a
 have hrb := srow_len b
 refine zw1 ?_
 refine AWp_seq ?_
 refine zw5 ?_
 refine AWp_cond rfl (fun h1 => ?_) (fun h1 => ?_)
 ·(try rw [h1]); replace h1 := zcl h1
  refine zw1 ?_
  refine zrt ?_
  exact ResQ_10 rfl hcl trivial (Ret_of (by rw [pb_f (fun h => h1 (by rw [h]))]; rfl))
 ·(try rw [h1]); replace h1 := zcl h1
  refine AWp_skip ?_
  refine AWp_seq ?_
  refine zw1 ?_
  refine AWp_block ?_
  -- loop 0 LIVE 0:param 1:param 4:assign 5:assign
  refine AWp_loop (ι := Nat) (fun i => i ≤ a.length ∧ ∀ (j : Nat), j < i → a[j]? = b[j]?) (fun i => ⟨[], [(0, .sl f 1 (srow a)), (1, .sl g 1 (srow b)), (5, .int .i64 (i : Int))]⟩) (fun i => σ) (fun i => a.length - i) (0) (⟨Nat.zero_le _, fun j h => absurd h (by omega)⟩) ?_ rfl (fun i hi => ?_)
  ·exact ⟨rfl, rfl, rfl, rfl, trivial⟩
  obtain ⟨hi1, hi2⟩ := hi
  refine AWp_seq ?_
  refine zw4 ?_
  refine AWp_cond rfl (fun h2 => ?_) (fun h2 => ?_)
  ·(try rw [h2]); replace h2 := zcl h2
   obtain ⟨x, hx⟩ : ∃ x, a[i]? = some x := ⟨_, List.getElem?_eq_getElem (show i < a.length by omega)⟩
   obtain ⟨y, hy⟩ : ∃ y, b[i]? = some y := ⟨_, List.getElem?_eq_getElem (show i < b.length by omega)⟩
   have hxr := srow_get hx
   have hyr := srow_get hy
   refine AWp_skip ?_
   refine AWp_seq ?_
   refine AWp_block ?_
   refine AWp_seq ?_
   refine AWp_drawL #[0, 0, 3, 7, 0, 0, 48, 112, 255] Tryd.mixed (by decide +kernel) (by decide +kernel) ?_
   refine zd2 ?_
   refine yA rfl rfl (fun _ => op_indexAddr rfl Tryd.underlying64 Tryd.sizeOf9 rfl rfl (by omega) (hxr)) ?_
   refine zp1 ?_
   refine zd2 ?_
   refine yA rfl rfl (fun _ => op_indexAddr rfl Tryd.underlying64 Tryd.sizeOf9 rfl rfl (by omega) (hyr)) ?_
   refine zp1 ?_
   refine zd1 ?_
   refine RP.nil rfl ?_
   refine AWp_cond rfl (fun h3 => ?_) (fun h3 => ?_)
   ·(try rw [h3]); replace h3 := zcl h3
    refine zw1 ?_
    refine zrt ?_
    exact ResQ_10 rfl hcl trivial (Ret_of (by rw [pb_f (fun h => h3 (by rw [h, hy] at hx; cases hx; rfl))]; rfl))
   ·(try rw [h3]); replace h3 := zcl h3
    refine AWp_skip ?_
    refine AWp_regL ?_
    refine zv3 ?_
    refine ⟨i + 1, σ.length, ⟨by omega, fun j hj => ?_⟩, by omega, Nat.le_refl _, ⟨rfl, rfl, rfl, rfl, trivial⟩, hcl, ?_, List.take_length⟩
    ·by_cases e : j = i
     ·subst e; rw [hx, hy, ba_inj.1 h3]
     ·exact hi2 j (by omega)
    ·simp [ltE, AV.lt]
  ·(try rw [h2]); replace h2 := zcl h2
   refine AWp_exit ?_
   refine zw1 ?_
   refine zrt ?_
   have hab : a = b := List.ext_getElem? fun j => by by_cases hj : j < i; exact hi2 j hj; rw [List.getElem?_eq_none (by omega), List.getElem?_eq_none (by omega)]
   exact ResQ_10 rfl hcl trivial (Ret_of (by rw [pb_t hab]; rfl))
end Lg
namespace Lg
open Go Go.RowKit
variable [GLay]
variable {P : Program} {N : Nat} {σ l : List AO} {e : Env} {Q : QA} {o : Oper}
/-- A pointer in an interface, to a box of the call's own, becomes one to what is never written again. -/
theorem AWp_freezeI {c : Code} (t p off : Nat) (T : TypeId) {cs : List AV} (hl : lookO e.l t = some (.iface T (.ptr p off))) (hσ : σ[p]? = some (.box cs)) (k : AWp P N c (e.put (some t) (.iface T (.pp (cs.drop off)))) (σ.set p .gone) Q) (ht : t < N) : AWp P N c e σ Q := fun s0 s a hs g x he => by
  subst hs
  have hv := he.tmps t
  rw [show e.look t = .iface T (.ptr p off) from lookO_eq hl] at hv
  obtain ⟨v, hv0, hv1⟩ := hv.inv_iface
  obtain ⟨s', e1, e2, g', x', hv'⟩ := freezeBox_V g hσ hv1
  have hv2 : V s' (.iface T (.pp (cs.drop off))) (a.eval (.tmp t)) := by rw [hv0]; exact .iface _ _ _ hv'
  have := k s0 s' a e1 g' (x.trans x') (by
    have h1 := (he.mono g x').put (some t) hv2 (fun d hd => by cases hd; exact ht)
    have h2 : a.put (some t) (a.eval (.tmp t)) = a := put_self (by rw [he.size]; exact ht)
    rwa [h2] at h1)
  rwa [e2] at this
section asserts
variable {T U U' E : TypeId} {x : Operand} {v : AV}
theorem op_assertT (ho : o.op = .typeAssert x T U true) (hu : P.underlying U = some (.pointer E)) (hx : opO e x = some (.iface U v)) : AOp P σ e o (.tup [v, .bool true]) σ :=
  .of_run fun s a hs g hv => by
    have h1 := hv x (by simp [ho, Op.operands])
    rw [opO_eq hx] at h1
    obtain ⟨w, h2, h3⟩ := h1.inv_iface
    refine ⟨.tuple #[w, .bool true], ?_, .tup [v, .bool true] [w, .bool true] rfl (fun i c z e1 e2 => by
      match i, e1, e2 with
      | 0, e1, e2 => cases e1; cases e2; exact h3
      | 1, e1, e2 => cases e1; cases e2; exact .bool _)⟩
    simp [execOp, ho, h2, Instr.typeAssert, run_underlying hu]
theorem op_assertF (ho : o.op = .typeAssert x T U true) (hu : P.underlying U = some (.pointer E)) (hz : ∀ w, (zeroValue U).run P w = Result.ok (.pointer none) w) (hx : opO e x = some (.iface U' v)) (hne : U' ≠ U) : AOp P σ e o (.tup [.nilp, .bool false]) σ :=
  .of_run fun s a hs g hv => by
    have h1 := hv x (by simp [ho, Op.operands])
    rw [opO_eq hx] at h1
    obtain ⟨w, h2, h3⟩ := h1.inv_iface
    refine ⟨.tuple #[.pointer none, .bool false], ?_, .tup [.nilp, .bool false] [.pointer none, .bool false] rfl (fun i c z e1 e2 => by
      match i, e1, e2 with
      | 0, e1, e2 => cases e1; cases e2; exact .nilp
      | 1, e1, e2 => cases e1; cases e2; exact .bool _)⟩
    simp [execOp, ho, h2, Instr.typeAssert, run_underlying hu, hne, hz]
end asserts
end Lg
set_option maxRecDepth 20000
set_option maxHeartbeats 4000000
namespace Lg
open Go Go.Proofs Go.RowKit
variable [GLay] 
def errV : Option (Int × Int) → AV
  | none => .nili
  | some z => .iface 99 (.pp [.int .i64 z.1, .int .i64 z.2])
theorem errV_lt (n : Nat) (z : Option (Int × Int)) : (errV z).lt n := by
  cases z <;> simp [errV, AV.lt, AV.ltL]
theorem op_neErr {P : Program} {σ : List AO} {e : Env} {o : Oper} {T T' : TypeId} {x : Operand} {ms : Array (String × TypeId)} {z : Option (Int × Int)} (ho : o.op = .binOp .neq T x (.const .nilIface) T') (hu : P.underlying T = some (.interface ms)) (hx : opO e x = some (errV z)) : AOp P σ e o (.bool z.isSome) σ := by
  cases z with
  | none => exact op_neINil ho hu hx
  | some z => exact op_neIN ho hu hx
end Lg
set_option maxRecDepth 20000
set_option maxHeartbeats 4000000
namespace Lg
open Go Go.Proofs Go.RowKit
variable [GLay] [ML]
theorem ptrP_c (s : BL) (σ : List AO) (hs : s.length ≤ 1000000) : ACalls Tryd.prog 92 [.str (ba s)] σ (Ret (.tup [.sl false 1 (srow (pN s)), errV ((pE s).map fun i => ((i : Int), (1 : Int)))]) σ) := by
 refine ACalls_body Tryd.func92 rfl Tryd.ntmps92 (res2 Tryd.results92) (Nat.le_of_ble_eq_true rfl) (fun hcl hal => ?_)
 have hbz : (ba s).size = s.length := ba_size s
 refine zw2 ?_
 refine AWp_seq ?_
 refine zw2 ?_
 refine AWp_cond rfl (fun h1 => ?_) (fun h1 => ?_)
 ·(try rw [h1]); replace h1 := zcl h1
  have hs0 : s = [] := ba_nil.1 h1
  refine zw2 ?_
  refine AWp_slotLe 2 rfl (AVle.nils false 1) ?_ (by decide)
  refine zrt ?_
  subst hs0
  exact ResQ_20 rfl rfl hcl (by simp [AV.lt, AV.ltL, AV.ltLL]) (Ret_of rfl)
 ·(try rw [h1]); replace h1 := zcl h1
  have hs0 : ¬ s = [] := fun e => h1 (ba_nil.2 e)
  have hsl : 0 < s.length := List.length_pos_iff.2 hs0
  refine AWp_skip ?_
  refine AWp_seq ?_
  refine zw3 ?_
  refine AWp_cond rfl (fun h2 => ?_) (fun h2 => ?_)
  ·(try rw [h2]); replace h2 := zcl h2
   have h47 : ¬ s[0]? = some 47 := fun e => h2 ((g47 hsl).1 e)
   refine zw5 ?_
   refine AWp_slotLe 2 rfl (AVle.nils false 1) ?_ (by decide)
   refine AWp_freezeI (cs := [.int .i64 0, .int .i64 1]) 3 (σ.length + 0) 0 99 rfl (by rw [get_own]; rfl) ?_ (by decide)
   rw [set_own]
   refine zrt ?_
   have hE : pE s = some 0 := by unfold pE; rw [if_neg hs0, if_pos h47]
   have hN : pN s = [] := by unfold pN; rw [if_neg hs0, hE]; rfl
   rw [hE, hN]
   exact ResQ_2 rfl rfl hcl (by simp [AV.lt, AV.ltL, AV.ltLL]) (Ret_of rfl)
  ·(try rw [h2]); replace h2 := zcl h2
   have h47 : s[0]? = some 47 := (g47 hsl).2 h2
   refine AWp_skip ?_
   refine AWp_seq ?_
   refine zw3 ?_
   refine AWp_block ?_
   -- loop 0 LIVE 0:param 2:assign 3:assign 17:call 18:move
   refine AWp_loop (ι := Nat) (fun i => i ≤ s.length ∧ ∀ j, j < i → tbad s j = false) (fun i => ⟨[], [(0, .str (ba s)), (17, .int .i64 ((ba s).size : Int)), (18, .int .i64 (i : Int))]⟩) (fun i => σ) (fun i => s.length - i) (0) (⟨Nat.zero_le _, fun j h => absurd h (by omega)⟩) ?_ rfl (fun i hi => ?_)
   ·exact ⟨rfl, rfl, rfl, rfl, trivial⟩
   obtain ⟨hi1, hi2⟩ := hi
   refine zw1 ?_
   refine AWp_seq ?_
   refine AWp_cond rfl (fun h3 => ?_) (fun h3 => ?_)
   ·(try rw [h3]); replace h3 := zcl h3
    refine AWp_skip ?_
    refine AWp_seq ?_
    refine AWp_block ?_
    refine zw2 ?_
    refine zu5 ?_
    refine zsp 25 rfl (fun h4 => ?_) fun h4 => ?_
    ·rw [h4]; replace h4 := zcl h4
     refine zg6 ?_
     refine zsp 31 rfl (fun h5 => ?_) fun h5 => ?_
     ·rw [h5]; replace h5 := zcl h5
      refine zg10 ?_
      refine zg4 ?_
      refine zon ?_
      refine AWp_condT rfl ?_
      refine zw6 ?_
      refine AWp_slotLe 2 rfl (AVle.nils false 1) ?_ (by decide)
      refine AWp_freezeI (cs := [.int .i64 (i : Int), .int .i64 1]) 3 (σ.length + 0) 0 99 rfl (by rw [get_own]; rfl) ?_ (by decide)
      rw [set_own]
      refine zrt ?_
      have ht : tbad s i = true := tbad_t (show i < s.length by omega) h4 (by first | exact .inl (by omega) | exact .inr ⟨h6, h7⟩)
      have hE : pE s = some i := pE_at hs0 h47 (by omega) ht hi2
      have hN : pN s = [] := by unfold pN; rw [if_neg hs0, hE]; rfl
      rw [hE, hN]
      exact ResQ_2 rfl rfl hcl (by simp [AV.lt, AV.ltL, AV.ltLL]) (Ret_of rfl)
     ·rw [h5]; replace h5 := zcl h5
      refine zg6 ?_
      refine zsp 37 rfl (fun h6 => ?_) fun h6 => ?_
      ·rw [h6]; replace h6 := zcl h6
       refine zv8 ?_
       refine AWp_cond rfl (fun h7 => ?_) (fun h7 => ?_)
       ·(try rw [h7]); replace h7 := zcl h7
        refine zw6 ?_
        refine AWp_slotLe 2 rfl (AVle.nils false 1) ?_ (by decide)
        refine AWp_freezeI (cs := [.int .i64 (i : Int), .int .i64 1]) 3 (σ.length + 0) 0 99 rfl (by rw [get_own]; rfl) ?_ (by decide)
        rw [set_own]
        refine zrt ?_
        have ht : tbad s i = true := tbad_t (show i < s.length by omega) h4 (by first | exact .inl (by omega) | exact .inr ⟨h6, h7⟩)
        have hE : pE s = some i := pE_at hs0 h47 (by omega) ht hi2
        have hN : pN s = [] := by unfold pN; rw [if_neg hs0, hE]; rfl
        rw [hE, hN]
        exact ResQ_2 rfl rfl hcl (by simp [AV.lt, AV.ltL, AV.ltLL]) (Ret_of rfl)
       ·(try rw [h7]); replace h7 := zcl h7
        refine AWp_skip ?_
        refine AWp_regL ?_
        refine zv2 ?_
        refine ⟨i + 1, σ.length, ⟨by omega, fun j hj => ?_⟩, by omega, Nat.le_refl _, ⟨rfl, rfl, rfl, rfl, trivial⟩, hcl, ?_, List.take_length⟩
        ·by_cases e : j = i
         ·subst e; exact tbad_f (show j < s.length by omega) (fun h0 => by first | exact absurd h0 h4 | (refine ⟨by omega, ?_⟩; first | exact .inl h6 | exact .inr h7))
         ·exact hi2 j (by omega)
        ·simp [ltE, AV.lt]
      ·rw [h6]; replace h6 := zcl h6
       refine zv8 ?_
       refine AWp_condF rfl ?_
       refine AWp_skip ?_
       refine AWp_regL ?_
       refine zv2 ?_
       refine ⟨i + 1, σ.length, ⟨by omega, fun j hj => ?_⟩, by omega, Nat.le_refl _, ⟨rfl, rfl, rfl, rfl, trivial⟩, hcl, ?_, List.take_length⟩
       ·by_cases e : j = i
        ·subst e; exact tbad_f (show j < s.length by omega) (fun h0 => by first | exact absurd h0 h4 | (refine ⟨by omega, ?_⟩; first | exact .inl h6 | exact .inr h7))
        ·exact hi2 j (by omega)
       ·simp [ltE, AV.lt]
    ·rw [h4]; replace h4 := zcl h4
     refine zg20 ?_
     refine zon ?_
     refine AWp_condF rfl ?_
     refine AWp_skip ?_
     refine AWp_regL ?_
     refine zv2 ?_
     refine ⟨i + 1, σ.length, ⟨by omega, fun j hj => ?_⟩, by omega, Nat.le_refl _, ⟨rfl, rfl, rfl, rfl, trivial⟩, hcl, ?_, List.take_length⟩
     ·by_cases e : j = i
      ·subst e; exact tbad_f (show j < s.length by omega) (fun h0 => by first | exact absurd h0 h4 | (refine ⟨by omega, ?_⟩; first | exact .inl h6 | exact .inr h7))
      ·exact hi2 j (by omega)
     ·simp [ltE, AV.lt]
   ·(try rw [h3]); replace h3 := zcl h3
    have hE : pE s = none := pE_none hs0 h47 (fun j hj => hi2 j (by omega))
    have hok : okP s := (pE_ok hs0 hE).2
    refine AWp_exit ?_
    refine zu2 ?_
    obtain ⟨t, ht⟩ : ∃ t, t = s.drop 1 := ⟨_, rfl⟩
    have htl : t.length + 1 = s.length := by rw [ht, List.length_drop]; omega
    have hot : okP t := by rw [ht]; cases s with | nil => exact absurd rfl hs0 | cons b r => exact okP_tl hok
    rw [ext_tl, ← ht]
    refine ztR rfl (zcR rfl (split_c (ba t) 47 _ (by rw [ba_size]; omega))) (fun v11_2 s11_2 hr => ?_) (fun v11_2 s11_2 hr => ?_)
    rotate_left
    ·exact nomatch hr.1
    obtain ⟨hv, hh⟩ := hr
    cases hv
    subst hh
    rw [ba_toList] at *
    generalize hL : pcs 47 t = L at *
    refine zv1 ?_
    refine AWp_seq ?_
    refine zu1 ?_
    refine zt rfl (op_lenS rfl rfl Tryd.underlying64 rfl rfl ⟨1, _, get_own 0⟩) ?_
    refine zv1 ?_
    refine AWp_block ?_
    -- loop 1 LIVE 2:assign 3:assign 5:assign 54:move 55:call 56:move
    have hLl : L.length ≤ t.length + 1 := by rw [← hL]; exact pcs_len 47 t
    rw [← pcell_0 L]
    refine AWp_loop (ι := Nat) (fun i => i ≤ L.length) (fun i => ⟨[], [(5, .arr (σ.length + 0) 0 1 0 L.length), (54, .arr (σ.length + 0) 0 1 0 L.length), (55, .int .i64 (L.length : Int)), (56, .int .i64 (i : Int))]⟩) (fun i => σ ++ [.arr 1 0 (pcell L i)]) (fun i => L.length - i) (0) (Nat.zero_le _) ?_ rfl (fun i hi => ?_)
    ·exact ⟨rfl, rfl, rfl, rfl, rfl, trivial⟩
    refine zw1 ?_
    refine AWp_seq ?_
    refine AWp_cond rfl (fun h8 => ?_) (fun h8 => ?_)
    ·(try rw [h8]); replace h8 := zcl h8
     obtain ⟨x, hx⟩ : ∃ x, L[i]? = some x := ⟨_, List.getElem?_eq_getElem (show i < L.length by omega)⟩
     have hxo := pcs_ok t.length t (Nat.le_refl _) hot x (by rw [hL]; exact List.mem_of_getElem? hx)
     have hxr := ra2_len x hxo.1
     refine AWp_skip ?_
     refine AWp_seq ?_
     refine AWp_block ?_
     refine zu1 ?_
     refine zt rfl (op_indexAddrAO (j := 0) rfl Tryd.underlying64 Tryd.sizeOf9 rfl rfl (by omega) (by omega) rfl) ?_
     refine zt rfl (op_load1 rfl Tryd.isAgg9 (ldv_el (j := 0) (i := i) rfl (pcell_get hx) (Nat.mul_one _))) ?_
     refine zv2 ?_
     refine AWp_regL ?_
     refine zg3 ?_
     refine zt rfl (zc rfl (replA_c (ba x) [126, 49] [47] _ (by decide) (by decide) (by rw [ba_size]; omega) (by decide))) ?_
     rw [ba_toList]
     refine zt rfl (zc rfl (replA_c (ba (ra [126, 49] [47] x)) [126, 48] [126] _ (by decide) (by decide) (by rw [ba_size]; omega) (by decide))) ?_
     rw [ba_toList, une_ra x hxo.1]
     refine zt rfl (op_indexAddrAO (j := 0) rfl Tryd.underlying64 Tryd.sizeOf9 rfl rfl (by omega) (by omega) rfl) ?_
     refine ztN rfl rfl (op_storeEl (j := 0) (i := i) rfl Tryd.sizeOf9 rfl rfl (Nat.mul_one _) rfl (by rw [pcell_len]; omega)) ?_
     refine zon ?_
     refine AWp_regL ?_
     refine zv2 ?_
     refine ⟨i + 1, σ.length + 1, by omega, by omega, by simp, ⟨rfl, rfl, rfl, rfl, rfl, trivial⟩, closed_own 1 hcl ?_, ?_, ?_⟩
     ·show ownLt (σ.length + 1) [AO.arr 1 0 ((pcell L i).set i (.str (ba (pune x))))]
      rw [pcell_step hx]; simp [ownLt, AO.cells]
     ·simp [ltE, AV.lt]
     ·refine (take_own 1).trans ?_
      rw [← pcell_step hx]; rfl
    ·(try rw [h8]); replace h8 := zcl h8
     have hie : i = L.length := by omega
     subst hie
     refine AWp_exit ?_
     refine zw3 ?_
     refine AWp_freezeAO 2 0 0 1 L.length (srow (L.map pune)) rfl (by rw [pcell_end]; rfl) (srow_el _) (by rw [srow_len, List.length_map]) (by decide) ?_ (by decide)
     refine zrt ?_
     have hN : pN s = L.map pune := by unfold pN; rw [if_neg hs0, hE, ← hL, ← ht]; rfl
     rw [hE, hN]
     exact ResQ_2 rfl rfl hcl (by simp [AV.lt, AV.ltL]) (Ret_of rfl)
end Lg
set_option maxRecDepth 20000
set_option maxHeartbeats 4000000
namespace Lg
open Go Go.Proofs Go.RowKit
variable [GLay] 
end Lg
set_option maxRecDepth 20000
set_option maxHeartbeats 4000000
namespace Lg
open Go Go.Proofs Go.RowKit
variable [GLay] 
theorem find_c (v : JV) (key : ByteArray) (σ : List AO) (hb : v.m.length ≤ 1000000) : ACalls Tryd.prog 72 [.agg (vcells v), .str key] σ (FindR v key σ) := by
 refine ACalls_bodyC Tryd.func72 rfl Tryd.ntmps72 (by rw [Tryd.results72]; exact (.ck Tryd.isAgg28 Tryd.sizeOf28 (.t .nil))) (Nat.le_of_ble_eq_true rfl) (fun hcl hal => ?_)
 rw [vcells_eq v]
 refine zw3 ?_
 refine AWp_seq ?_
 refine zw3 ?_
 refine AWp_cond rfl (fun h1 => ?_) (fun h1 => ?_)
 ·(try rw [h1]); replace h1 := zcl h1
  refine zw3 ?_
  refine zrt ?_
  have hf : jfind v key = none := by simp [jfind, h1]
  refine RQ_ret (rkvs_cons (rkv_ck rfl rfl rfl) (rkvs_cons (rkv_t rfl) rfl)) hcl ?_ ⟨rfl, _, _, rfl, ?_, ?_⟩
  ·simp [rks, AV.lt, AV.ltL, ofConst1]
  ·rw [hf]; exact vle8 nilL nilM
  ·rw [hf]; rfl
 ·(try rw [h1]); replace h1 := zcl h1
  refine AWp_skip ?_
  refine AWp_seq ?_
  refine zw4 ?_
  refine AWp_block ?_
  -- loop 0 LIVE 1:param 4:alloc 5:assign 13:load 14:call 15:move
  refine AWp_loop (ι := Nat) (fun i => i ≤ v.m.length ∧ ∀ (j : Nat) q, j < i → v.m[j]? = some q → ¬ q.1 = key) (fun i => ⟨[], [(1, .str key), (2, .ptr (σ.length + 0) 0), (4, .ptr (σ.length + 1) 0), (13, .sl false 9 (mcells v.m)), (14, .int .i64 (v.m.length : Int)), (15, .int .i64 (i : Int))]⟩) (fun i => σ ++ [_, _]) (fun i => v.m.length - i) (0) (⟨Nat.zero_le _, fun j q hj => absurd hj (by omega)⟩) ?_ rfl (fun i hi => ?_)
  ·refine ⟨rfl, rfl, rfl, rfl, rfl, ?_, rfl, trivial⟩
   rw [← mcells_length]; rfl
  obtain ⟨hi1, hi2⟩ := hi
  refine zw1 ?_
  refine AWp_seq ?_
  refine AWp_cond rfl (fun h2 => ?_) (fun h2 => ?_)
  ·(try rw [h2]); replace h2 := zcl h2
   obtain ⟨q, hq⟩ : ∃ q, v.m[i]? = some q := ⟨_, List.getElem?_eq_getElem (show i < v.m.length by omega)⟩
   refine AWp_skip ?_
   refine AWp_seq ?_
   refine AWp_block ?_
   refine zu1 ?_
   rw [vcells_eq q.2]
   refine zv3 ?_
   refine zw4 ?_
   refine AWp_cond rfl (fun h3 => ?_) (fun h3 => ?_)
   ·(try rw [h3]); replace h3 := zcl h3
    refine zw4 ?_
    refine zrt ?_
    have hf : jfind v key = some q.2 := by rw [jfind, if_pos h1, find_some (fun j y hj hy => by simpa using hi2 j y hj hy) hq (by simpa using h3)]; rfl
    refine RQ_ret (rkvs_cons (rkv_ck rfl rfl rfl) (rkvs_cons (rkv_t rfl) rfl)) hcl ?_ ⟨rfl, _, _, rfl, ?_, ?_⟩
    ·simp [rks, AV.lt, AV.ltL, ofConst1]
    ·rw [hf]; show AVleL _ (vcells q.2); rw [vcells_eq]; exact AVleL.refl _
    ·rw [hf]; rfl
   ·(try rw [h3]); replace h3 := zcl h3
    refine AWp_skip ?_
    refine AWp_regL ?_
    refine zv2 ?_
    refine ⟨i + 1, σ.length + 2, ⟨by omega, fun j y hj hy => ?_⟩, by omega, by simp, ⟨rfl, rfl, rfl, rfl, rfl, rfl, rfl, trivial⟩, closed_own 2 hcl ?_, ?_, take_own 2⟩
    ·by_cases e : j = i
     ·subst e; rw [hq] at hy; cases hy; exact h3
     ·exact hi2 j y (by omega) hy
    ·simp [ownLt, AO.cells, AV.ltL, AV.lt, ofConst1]
    ·simp [ltE, AV.lt]
  ·(try rw [h2]); replace h2 := zcl h2
   refine AWp_exit ?_
   refine zw3 ?_
   refine zrt ?_
   have hf : jfind v key = none := by rw [jfind, if_pos h1, find_none (fun j y hy => by simpa using hi2 j y (by have := (List.getElem?_eq_some_iff.1 hy).1; omega) hy)]; rfl
   refine RQ_ret (rkvs_cons (rkv_ck rfl rfl rfl) (rkvs_cons (rkv_t rfl) rfl)) hcl ?_ ⟨rfl, _, _, rfl, ?_, ?_⟩
   ·simp [rks, AV.lt, AV.ltL, ofConst1]
   ·rw [hf]; exact vle8 nilL nilM
   ·rw [hf]; rfl

theorem rfind_c (v : JV) (key : ByteArray) (σ : List AO) (hb : v.m.length ≤ 1000000) : ACalls Tryd.prog 49 [.agg (vcells v), .str key] σ (FindR v key σ) := by
 refine ACalls_bodyC Tryd.func49 rfl Tryd.ntmps49 (by rw [Tryd.results49]; exact (.ck Tryd.isAgg28 Tryd.sizeOf28 (.t .nil))) (Nat.le_of_ble_eq_true rfl) (fun hcl hal => ?_)
 have hmc := mcells_length v.m
 rw [vcells_eq v]
 refine zw3 ?_
 refine AWp_seq ?_
 refine zw1 ?_
 refine AWp_block ?_
 -- loop 0 LIVE 1:param 2:box 4:alloc 5:assign 6:assign
 refine AWp_loop (ι := Nat) (fun i => i ≤ v.m.length ∧ ∀ (j : Nat) q, j < i → v.m[j]? = some q → ¬ (v.kind = 5 ∧ q.1 = key)) (fun i => ⟨[], [(1, .str key), (2, .ptr (σ.length + 0) 0), (4, .ptr (σ.length + 1) 0), (6, .int .i64 (i : Int))]⟩) (fun i => σ ++ [_, _]) (fun i => v.m.length - i) (0) (⟨Nat.zero_le _, fun j q hj => absurd hj (by omega)⟩) ?_ rfl (fun i hi => ?_)
 ·exact ⟨rfl, rfl, rfl, rfl, rfl, trivial⟩
 obtain ⟨hi1, hi2⟩ := hi
 refine AWp_seq ?_
 refine zw5 ?_
 refine AWp_cond rfl (fun h1 => ?_) (fun h1 => ?_)
 ·(try rw [h1]); replace h1 := zcl h1
  obtain ⟨q, hq⟩ : ∃ q, v.m[i]? = some q := ⟨_, List.getElem?_eq_getElem (show i < v.m.length by omega)⟩
  refine AWp_skip ?_
  refine AWp_seq ?_
  refine AWp_block ?_
  refine zu4 ?_
  refine zsp 17 rfl (fun h2 => ?_) fun h2 => ?_
  ·rw [h2]; replace h2 := zcl h2
   refine zv9 ?_
   refine AWp_cond rfl (fun h3 => ?_) (fun h3 => ?_)
   ·(try rw [h3]); replace h3 := zcl h3
    refine zu5 ?_
    rw [vcells_eq q.2]
    refine zv3 ?_
    refine zrt ?_
    have hf : jfind v key = some q.2 := by rw [jfind, if_pos h2, find_some (fun j y hj hy => by have := hi2 j y hj hy; simpa [h2] using this) hq (by simpa using h3)]; rfl
    refine RQ_ret (rkvs_cons (rkv_ck rfl rfl rfl) (rkvs_cons (rkv_t rfl) rfl)) hcl ?_ ⟨rfl, _, _, rfl, ?_, ?_⟩
    ·simp [rks, AV.lt, AV.ltL, ofConst1]
    ·rw [hf]; show AVleL _ (vcells q.2); rw [vcells_eq]; exact AVleL.refl _
    ·rw [hf]; rfl
   ·(try rw [h3]); replace h3 := zcl h3
    refine AWp_skip ?_
    refine AWp_regL ?_
    refine zv3 ?_
    refine ⟨i + 1, σ.length + 2, ⟨by omega, fun j y hj hy => ?_⟩, by omega, by simp, ⟨rfl, rfl, rfl, rfl, rfl, trivial⟩, closed_own 2 hcl ?_, ?_, take_own 2⟩
    ·by_cases e : j = i
     ·subst e; rw [hq] at hy; cases hy; exact fun h => h3 h.2
     ·exact hi2 j y (by omega) hy
    ·simp [ownLt, AO.cells, AV.ltL, AV.lt, ofConst1]
    ·simp [ltE, AV.lt]
  ·rw [h2]; replace h2 := zcl h2
   refine zv9 ?_
   refine AWp_condF rfl ?_
   refine AWp_skip ?_
   refine AWp_regL ?_
   refine zv3 ?_
   refine ⟨i + 1, σ.length + 2, ⟨by omega, fun j y hj hy => ?_⟩, by omega, by simp, ⟨rfl, rfl, rfl, rfl, rfl, trivial⟩, closed_own 2 hcl ?_, ?_, take_own 2⟩
   ·by_cases e : j = i
    ·subst e; rw [hq] at hy; cases hy; exact fun h => h2 h.1
    ·exact hi2 j y (by omega) hy
   ·simp [ownLt, AO.cells, AV.ltL, AV.lt, ofConst1]
   ·simp [ltE, AV.lt]
 ·(try rw [h1]); replace h1 := zcl h1
  refine AWp_exit ?_
  refine zw3 ?_
  refine zrt ?_
  have hf : jfind v key = none := by
   by_cases hk : v.kind = 5
   ·rw [jfind, if_pos hk, find_none (fun j y hy => by have := hi2 j y (by have := (List.getElem?_eq_some_iff.1 hy).1; omega) hy; simpa [hk] using this)]; rfl
   ·simp [jfind, hk]
  refine RQ_ret (rkvs_cons (rkv_ck rfl rfl rfl) (rkvs_cons (rkv_t rfl) rfl)) hcl ?_ ⟨rfl, _, _, rfl, ?_, ?_⟩
  ·simp [rks, AV.lt, AV.ltL, ofConst1]
  ·rw [hf]; exact vle8 nilL nilM
  ·rw [hf]; rfl
end Lg
namespace Lg
open Go
/-! ### Operations of a patch, as data -/
structure JOp where
  op : Int
  pa : List BL
  fr : List BL
  v : JV
def ocells (o : JOp) : List AV := .int .i64 o.op :: .sl false 1 (srow o.pa) :: .sl false 1 (srow o.fr) :: vcells o.v
def orows (l : List JOp) : List (List AV) := l.map ocells
theorem ocells_eq (o : JOp) : ocells o = [.int .i64 o.op, .sl false 1 (srow o.pa), .sl false 1 (srow o.fr), .int .i64 o.v.kind, .bool o.v.b, .bool o.v.n.neg, .str o.v.n.digits, .int .i64 o.v.n.exp, .str o.v.s, .sl false 8 (lcells o.v.l), .sl false 9 (mcells o.v.m)] := by
  rw [ocells, vcells_eq]
theorem ocells_len (o : JOp) : (ocells o).length = 11 := by rw [ocells_eq]; rfl
theorem orows_len (l : List JOp) : (orows l).length = l.length := by simp [orows]
theorem orows_get {l : List JOp} {i : Nat} {x : JOp} (h : l[i]? = some x) : (orows l)[i]? = some (ocells x) := by simp [orows, h]
theorem orows_el (l : List JOp) : ∀ r ∈ orows l, r.length = 11 := by
  intro r hr; simp [orows] at hr; obtain ⟨x, _, rfl⟩ := hr; exact ocells_len x
theorem oflat_len [GLay] (l : List JOp) : (orows l).flatten.length = l.length * 11 := by rw [flatten_len (orows_el l), orows_len]
theorem orows_snoc (l : List JOp) (x : JOp) : (orows (l ++ [x])).flatten = (orows l).flatten ++ ocells x := by simp [orows]
theorem orows_app (l m : List JOp) : (orows (l ++ m)).flatten = (orows l).flatten ++ (orows m).flatten := by simp [orows]
section
variable [GLay]
@[simp] theorem ocells_lt (n : Nat) (o : JOp) : AV.ltL n (ocells o) := by
  rw [ocells]; exact ⟨trivial, srow_lt n _, srow_lt n _, vcells_lt n _⟩
@[simp] theorem orows_lt (n : Nat) (l : List JOp) : AV.ltLL n (orows l) := by
  rw [AV.ltLL_iff]; intro e he; simp [orows] at he; obtain ⟨x, _, rfl⟩ := he; exact ocells_lt n x
@[simp] theorem oflat_lt (n : Nat) (l : List JOp) : AV.ltL n (orows l).flatten := by
  rw [AV.ltL_iff]; intro a ha
  obtain ⟨e, he, h⟩ := List.mem_flatten.1 ha
  exact (AV.ltL_iff _ _).1 ((AV.ltLL_iff _ _).1 (orows_lt n l) e he) a h
theorem ocells_ones (o : JOp) : ones (ocells o) = true := by rw [ocells_eq]; rfl
theorem oflat_ones (l : List JOp) : ones (orows l).flatten = true := by
  rw [ones_iff]; intro a ha
  obtain ⟨e, he, h⟩ := List.mem_flatten.1 ha
  simp [orows] at he; obtain ⟨x, _, rfl⟩ := he
  exact (ones_iff _).1 (ocells_ones x) a h
end
/-! ### What a value says as an operation -/
def bOp : ByteArray := ⟨#[111, 112]⟩
def bPath : ByteArray := ⟨#[112, 97, 116, 104]⟩
def bFrom : ByteArray := ⟨#[102, 114, 111, 109]⟩
def bValue : ByteArray := ⟨#[118, 97, 108, 117, 101]⟩
def opL : List (ByteArray × Int) := [(⟨#[97, 100, 100]⟩, 1), (⟨#[114, 101, 109, 111, 118, 101]⟩, 2), (⟨#[114, 101, 112, 108, 97, 99, 101]⟩, 3), (⟨#[109, 111, 118, 101]⟩, 4), (⟨#[99, 111, 112, 121]⟩, 5), (⟨#[116, 101, 115, 116]⟩, 6)]
def opn (s : ByteArray) : Int := ((opL.find? fun q => decide (s = q.1)).map (·.2)).getD 0
def jfD (v : JV) (key : ByteArray) : JV := (jfind v key).getD vz
def jfB (v : JV) (key : ByteArray) : Bool := (jfind v key).isSome
/-- The pointer that a member has; may it be one? -/
def jptN (v : JV) (key : ByteArray) : List BL := if jfB v key = true ∧ (jfD v key).kind = 3 then pN (jfD v key).s.data.toList else []
def jptB (v : JV) (key : ByteArray) : Bool := jfB v key && decide ((jfD v key).kind = 3) && (pE (jfD v key).s.data.toList).isNone
def jopn (v : JV) : Int := if jfB v bOp = true ∧ (jfD v bOp).kind = 3 then opn (jfD v bOp).s else 0
def jop (v : JV) : Option JOp :=
  if jopn v = 0 then none else
  if jptB v bPath = false then none else
  if jopn v = 4 ∨ jopn v = 5 then (if jptB v bFrom = true then some ⟨jopn v, jptN v bPath, jptN v bFrom, vz⟩ else none) else
  if jopn v = 2 then some ⟨2, jptN v bPath, [], vz⟩ else
  if jfB v bValue = true then some ⟨jopn v, jptN v bPath, [], jfD v bValue⟩ else none
/-- The operations ahead of i, if each is one. -/
def jops : List JV → Option (List JOp)
  | [] => some []
  | x :: r => match jop x with
    | none => none
    | some o => (jops r).map (o :: ·)
theorem jops_snoc {l : List JV} {os : List JOp} {x : JV} (h : jops l = some os) : jops (l ++ [x]) = (jop x).map fun o => os ++ [o] := by
  induction l generalizing os with
  | nil => simp [jops] at h; subst h; simp only [List.nil_append, jops]; cases jop x <;> simp
  | cons a r ih =>
    rw [List.cons_append, jops]
    rw [jops] at h
    cases ha : jop a with
    | none => rw [ha] at h; cases h
    | some o =>
      rw [ha] at h
      simp only [Option.map_eq_some_iff] at h
      obtain ⟨os', h1, rfl⟩ := h
      rw [ih h1]
      cases jop x <;> simp
theorem jops_app {l m : List JV} {os ps : List JOp} (h : jops l = some os) (k : jops m = some ps) : jops (l ++ m) = some (os ++ ps) := by
  induction l generalizing os with
  | nil => simp [jops] at h; subst h; simpa using k
  | cons a r ih =>
    rw [List.cons_append, jops]
    rw [jops] at h
    cases ha : jop a with
    | none => rw [ha] at h; cases h
    | some o =>
      rw [ha] at h
      simp only [Option.map_eq_some_iff] at h
      obtain ⟨os', h1, rfl⟩ := h
      rw [ih h1]; rfl
theorem jops_len {l : List JV} {os : List JOp} (h : jops l = some os) : os.length = l.length := by
  induction l generalizing os with
  | nil => simp [jops] at h; subst h; rfl
  | cons a r ih =>
    rw [jops] at h
    cases ha : jop a with
    | none => rw [ha] at h; cases h
    | some o =>
      rw [ha] at h
      simp only [Option.map_eq_some_iff] at h
      obtain ⟨os', h1, rfl⟩ := h
      simp [ih h1]
theorem jops_get {l : List JV} {os : List JOp} (h : jops l = some os) {i : Nat} {x : JV} (hx : l[i]? = some x) : ∃ o, jop x = some o ∧ os[i]? = some o := by
  induction l generalizing os i with
  | nil => simp at hx
  | cons a r ih =>
    rw [jops] at h
    cases ha : jop a with
    | none => rw [ha] at h; cases h
    | some o =>
      rw [ha] at h
      simp only [Option.map_eq_some_iff] at h
      obtain ⟨os', h1, rfl⟩ := h
      cases i with
      | zero => simp at hx; subst hx; exact ⟨o, ha, rfl⟩
      | succ i => simpa using ih h1 (by simpa using hx)
theorem jops_none {l : List JV} {i : Nat} {x : JV} (hx : l[i]? = some x) (h : jop x = none) : jops l = none := by
  induction l generalizing i with
  | nil => simp at hx
  | cons a r ih =>
    rw [jops]
    cases i with
    | zero => simp at hx; subst hx; rw [h]
    | succ i =>
      rw [ih (by simpa using hx)]
      cases jop a <;> rfl
/-- Where the first that is none stands. -/
def jbadI (l : List JV) : Nat := (l.takeWhile fun x => (jop x).isSome).length
/-- What Read tells: the operations; an error's number, and its place. -/
def jrdC (v : JV) : Int := if ¬ v.kind = 4 then 1 else if 100 < v.l.length then 5 else if (jops v.l).isNone then 1 else 0
def jrdA (v : JV) : Int := if ¬ v.kind = 4 then 0 else if 100 < v.l.length then 100 else if (jops v.l).isNone then (jbadI v.l : Int) else 0
def jrd (v : JV) : List JOp := if ¬ v.kind = 4 then [] else if 100 < v.l.length then [] else (jops v.l).getD []
def jrdE (v : JV) : Option (Int × Int) := if jrdC v = 0 then none else some (jrdA v, jrdC v)
theorem jbad_at {l : List JV} {i : Nat} {x : JV} {os : List JOp} (h : jops (l.take i) = some os) (hx : l[i]? = some x) (hn : jop x = none) : jbadI l = i := by
  have hi := (List.getElem?_eq_some_iff.1 hx).1
  have e : l = l.take i ++ (x :: l.drop (i + 1)) := by
    have h0 : l.drop i = x :: l.drop (i + 1) := by
      rw [List.drop_eq_getElem_cons hi]; congr 1
      have := List.getElem?_eq_getElem hi
      rw [hx] at this; exact (Option.some.inj this).symm
    rw [← h0, List.take_append_drop]
  unfold jbadI
  conv => lhs; rw [e]
  rw [List.takeWhile_append_of_pos (fun a ha => ?_), List.takeWhile_cons_of_neg (by simp [hn])]
  · simp; omega
  · obtain ⟨j, hj⟩ := List.getElem?_of_mem ha
    obtain ⟨o, ho, _⟩ := jops_get h hj
    simp [ho]
theorem jrd_ok {v : JV} {os : List JOp} (h4 : v.kind = 4) (hl : v.l.length ≤ 100) (h : jops v.l = some os) : jrd v = os ∧ jrdC v = 0 ∧ jrdA v = 0 := by
  unfold jrd jrdC jrdA
  have h1 : ¬ 100 < v.l.length := by omega
  simp [h4, h1, h]
theorem jrd_bad {v : JV} {i : Nat} {x : JV} {os : List JOp} (h4 : v.kind = 4) (hl : v.l.length ≤ 100) (h : jops (v.l.take i) = some os) (hx : v.l[i]? = some x) (hn : jop x = none) : jrd v = [] ∧ jrdC v = 1 ∧ jrdA v = i := by
  have h0 := jops_none hx hn
  unfold jrd jrdC jrdA
  have h1 : ¬ 100 < v.l.length := by omega
  simp [h4, h1, h0, jbad_at h hx hn]
section
variable [GLay]
/-- What reading one operation answers. -/
def OpR (v : JV) (σ : List AO) : Out → List AO → Prop := fun o σ' => σ' = σ ∧ ∃ r x b, o = .ret (.tup [.agg r, .bool b]) ∧ AVleL r (ocells x) ∧ (b = true → jop v = some x) ∧ (b = false → jop v = none)
def OpS (v : JV) (σ : List AO) : Out → List AO → Prop := fun o σ' => σ' = σ ∧ ∃ x b, o = .ret (.tup [.agg (ocells x), .bool b]) ∧ (b = true → jop v = some x) ∧ (b = false → jop v = none)
theorem OpR.strong {P : Program} {f : FuncId} {args : List AV} {v : JV} {σ : List AO} (h : ACalls P f args σ (OpR v σ)) : ACalls P f args σ (OpS v σ) :=
  h.weak (fun w σ' hr => by
    obtain ⟨rfl, r, x, b, h1, h2, h3, h4⟩ := hr
    injection h1 with h1
    subst h1
    exact ⟨_, AVle.tup (r := [.agg (ocells x), .bool b]) ⟨AVle.agg h2, AVle.refl _, trivial⟩, rfl, x, b, rfl, h3, h4⟩) (fun w σ' hr => by obtain ⟨_, r, x, b, h1, _⟩ := hr; cases h1)
theorem oz : AVleL [.int .i64 0, .nils, .nils, .int .i64 0, .bool false, .bool false, .str ⟨#[]⟩, .int .i64 0, .str ⟨#[]⟩, .nils, .nils] (ocells ⟨0, [], [], vz⟩) := by
  rw [ocells_eq]
  exact ⟨AVle.refl _, AVle.nils false 1, AVle.nils false 1, AVle.refl _, AVle.refl _, AVle.refl _, AVle.refl _, AVle.refl _, AVle.refl _, nilL, nilM, trivial⟩
end
end Lg
