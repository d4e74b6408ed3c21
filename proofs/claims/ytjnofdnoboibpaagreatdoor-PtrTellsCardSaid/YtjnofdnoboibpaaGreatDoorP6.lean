/- A part of the proof of For all texts, lists of names and counts the law PtrTells answers true, and they read afterwards as before; the card ties the tables.: Lr3 Lw1 W1 Lr4 Lr5 Lg45 Lg46 Lo1 Lr6 Lk9 Lt1 Lt2 Lt3 Lo2 Lo3 Ln9 Ln10 Ln11 Ln12 Le1. -/
import Derived.Test.YtjnofdnoboibpaaGreatDoorP4
import Derived.Test.YtjnofdnoboibpaaGreatDoorP5
import Derived.Test.YtjnofdnoboibpaaGreatDoorP3
import Derived.SliceStrings
import Derived.HandedShaped
import Derived.Lib.Atoi
set_option linter.unusedVariables false
set_option linter.unusedSimpArgs false
set_option linter.unusedSectionVars false
namespace Lg
open Go Go.RowKit
section
variable [GLay] {P : Program} {N : Nat} {σ l : List AO} {e : Env} {Q : QA} {o : Oper}
/-- A place of an array of the call's own. -/
theorem op_indexAddrA {T E : TypeId} {x y : Operand} {sz p gg len : Nat} {k : IntKind} {n : Int} {cs : List AV} (ho : o.op = .indexAddr T x y) (hu : P.underlying T = some (.slice E))
    (hsz : ∀ w, (Go.sizeOf E).run P w = Result.ok sz w) (hx : opO e x = some (.arr p gg sz 0 len)) (hy : opO e y = some (.int k n)) (h0 : 0 ≤ n) (hlt : n < len) (hσ : σ[p]? = some (.arr sz gg cs)) : AOp P σ e o (.pel p gg (n.toNat * sz)) σ :=
  .of_run fun s a hs g hv => by
    subst hs
    have h1 := opO_eq hx ▸ hv x (by simp [ho, Op.operands])
    have h2 := (opO_eq hy ▸ hv y (by simp [ho, Op.operands])).inv_int
    rcases h1.inv_arr hσ with ⟨_, ⟨ad, h3, h4⟩ | ⟨cap, h3, h4, h5⟩⟩
    · omega
    · refine ⟨_, by simp only [execOp, ho, h3, h2, Sem.run_bind]; rw [run_indexAt_slice (cap := cap) hu hsz h0 hlt]; rfl, ?_⟩
      refine .pel _ _ _ _ rfl ?_
      unfold ArrAt
      rw [hσ]
      exact ⟨Nat.le_refl _, fun _ => by simp⟩
theorem op_indexAddrAO {T E : TypeId} {x y : Operand} {sz j gg len : Nat} {k : IntKind} {n : Int} {cs : List AV} (ho : o.op = .indexAddr T x y) (hu : P.underlying T = some (.slice E))
    (hsz : ∀ w, (Go.sizeOf E).run P w = Result.ok sz w) (hx : opO e x = some (.arr (σ.length + j) gg sz 0 len)) (hy : opO e y = some (.int k n)) (h0 : 0 ≤ n) (hlt : n < len) (hl : l[j]? = some (.arr sz gg cs)) : AOp P (σ ++ l) e o (.pel (σ.length + j) gg (n.toNat * sz)) (σ ++ l) :=
  op_indexAddrA ho hu hsz hx hy h0 hlt (by rw [get_own]; exact hl)
theorem AWp_freezeAO {c : Code} (t k gg sz n : Nat) (es : List (List AV)) (hl : lookO e.l t = some (.arr (σ.length + k) gg sz 0 n)) (hk : l[k]? = some (.arr sz gg es.flatten)) (hel : ∀ r ∈ es, r.length = sz) (hn : es.length = n) (hsz : sz ≠ 0) (h : AWp P N c (e.put (some t) (.sl false sz es)) (σ ++ l.set k .dead) Q) (ht : t < N) : AWp P N c e (σ ++ l) Q := by
  have hf : es.flatten.length = n * sz := by rw [flatten_len hel, hn]
  exact AWp_freezeArr t (σ.length + k) gg sz 0 n hl (by rw [get_own]; exact hk) es (by rw [Nat.zero_mul, List.drop_zero, ← hf, List.take_length]) hel hn hsz (by rw [hf, Nat.zero_add]; exact Nat.le_refl _) (by rw [set_own]; exact h) ht
end
/-! ### Rows of texts -/
def srow (l : List BL) : List (List AV) := l.map fun x => [AV.str (ba x)]
theorem srow_len (l : List BL) : (srow l).length = l.length := by simp [srow]
theorem srow_get {l : List BL} {i : Nat} {x : BL} (h : l[i]? = some x) : (srow l)[i]? = some [AV.str (ba x)] := by simp [srow, h]
theorem srow_el (l : List BL) : ∀ r ∈ srow l, r.length = 1 := by
  intro r hr; simp [srow] at hr; obtain ⟨x, _, rfl⟩ := hr; rfl
theorem srow_flat (l : List BL) : (srow l).flatten = l.map fun x => AV.str (ba x) := by
  induction l with
  | nil => rfl
  | cons a r ih => show [AV.str (ba a)] ++ (srow r).flatten = _; rw [ih]; rfl
@[simp] theorem srow_lt (m : Nat) (l : List BL) : AV.ltLL m (srow l) := by
  induction l with
  | nil => simp [srow, AV.ltLL]
  | cons a r ih => simpa [srow, AV.ltLL, AV.ltL, AV.lt] using ih
@[simp] theorem smap_lt (m : Nat) (l : List BL) : AV.ltL m (l.map fun x => AV.str (ba x)) := by
  induction l with
  | nil => simp [AV.ltL]
  | cons a r ih => simpa [AV.ltL, AV.lt] using ih
theorem ra1_len (c : UInt8) (nw : BL) (h : nw.length ≤ 2) : ∀ s : BL, (ra [c] nw s).length ≤ 2 * s.length := by
  intro s
  rw [ra_one]
  induction s with
  | nil => simp
  | cons b r ih =>
    rw [List.flatMap_cons, List.length_append, List.length_cons]
    have : (if b = c then nw else [b]).length ≤ 2 := by split <;> simp [h]
    omega
theorem shw_snoc (l : List BL) (x : BL) : shw (l ++ [x]) = shw l ++ 47 :: pesc x := by simp [shw]
theorem shw_len (B : Nat) : ∀ l : List BL, (∀ x ∈ l, x.length ≤ B) → (shw l).length ≤ l.length * (2 * B + 1)
  | [], _ => by simp [shw]
  | x :: l, h => by
    have ih := shw_len B l (fun y hy => h y (by simp [hy]))
    have hx := h x (by simp)
    have he := esc_len x
    rw [shw_cons, List.length_cons, List.length_append, List.length_cons, Nat.add_mul]
    omega
/-! ### What a pointer's text says -/
def tbad (s : BL) (i : Nat) : Bool := decide (s[i]? = some 126) && !(decide (s[i + 1]? = some 48) || decide (s[i + 1]? = some 49))
/-- Where something is amiss. -/
def pE (s : BL) : Option Nat := if s = [] then none else if ¬ s[0]? = some 47 then some 0 else (List.range s.length).find? (tbad s)
def pN (s : BL) : List BL := if s = [] then [] else if (pE s).isSome then [] else (pcs 47 (s.drop 1)).map pune
theorem tbad_no {s : BL} (h : ∀ i, i < s.length → tbad s i = false) : okP s := fun i hi => by
  have := h i (List.getElem?_eq_some_iff.1 hi).1
  unfold tbad at this
  rw [decide_eq_true hi, Bool.true_and] at this
  by_cases h2 : s[i + 1]? = some 48
  · exact .inl h2
  · simp [h2] at this; exact .inr this
theorem okP_tbad {s : BL} (h : okP s) (i : Nat) : tbad s i = false := by
  unfold tbad
  by_cases hi : s[i]? = some 126
  · rcases h i hi with h | h <;> simp [hi, h]
  · simp [hi]
theorem pE_none {s : BL} (h0 : ¬ s = []) (h1 : s[0]? = some 47) (h : ∀ i, i < s.length → tbad s i = false) : pE s = none := by
  unfold pE; rw [if_neg h0, if_neg (by simp [h1])]
  exact List.find?_eq_none.2 fun i hi => by simp [h i (List.mem_range.1 hi)]
theorem pE_at {s : BL} (h0 : ¬ s = []) (h1 : s[0]? = some 47) {i : Nat} (hi : i < s.length) (h : tbad s i = true) (hb : ∀ j, j < i → tbad s j = false) : pE s = some i := by
  unfold pE; rw [if_neg h0, if_neg (by simp [h1])]
  exact List.find?_range_eq_some.2 ⟨h, List.mem_range.2 hi, fun j hj => by simp [hb j hj]⟩
theorem pE_ok {s : BL} (h0 : ¬ s = []) (h : pE s = none) : s[0]? = some 47 ∧ okP s := by
  unfold pE at h; rw [if_neg h0] at h
  split at h
  · cases h
  · rename_i h1
    refine ⟨by simpa using h1, tbad_no fun i hi => ?_⟩
    have := List.find?_eq_none.1 h i (List.mem_range.2 hi)
    simpa using this
/-- What is shown is parsed. -/
theorem pN_shw (l : List BL) : pE (shw l) = none ∧ pN (shw l) = l := by
  cases l with
  | nil => exact ⟨rfl, rfl⟩
  | cons x r =>
    have hne : ¬ shw (x :: r) = [] := by rw [shw_cons]; simp
    have hE : pE (shw (x :: r)) = none := pE_none hne (by rw [shw_cons]; rfl) (fun i _ => okP_tbad (okP_shw _) i)
    refine ⟨hE, ?_⟩
    unfold pN; rw [if_neg hne, hE]
    rw [shw_cons]
    exact shw_back x r
/-- What is parsed is shown. -/
theorem shw_pN {s : BL} (h : pE s = none) : shw (pN s) = s := by
  by_cases h0 : s = []
  · subst h0; rfl
  · obtain ⟨h1, h2⟩ := pE_ok h0 h
    unfold pN; rw [if_neg h0, h]
    cases s with
    | nil => exact absurd rfl h0
    | cons b t =>
      simp at h1; subst h1
      exact shw_fwd t (okP_tl h2)
end Lg
namespace Lg
open Go
theorem get_is {s : BL} {i : Nat} {c : UInt8} (hi : i < s.length) : s[i]? = some c ↔ ((bat (ba s) i).toNat : Int) = c.toNat := by
  rw [bat_ba, List.getElem?_eq_getElem hi, List.getD_eq_getElem?_getD, List.getElem?_eq_getElem hi]
  simp only [Option.getD_some, Option.some.injEq]
  constructor
  · intro h; rw [h]
  · intro h; exact UInt8.toNat_inj.1 (by omega)
theorem g126 {s : BL} {i : Nat} (hi : i < s.length) : s[i]? = some 126 ↔ ((bat (ba s) i).toNat : Int) = 126 := get_is (c := 126) hi
theorem g48 {s : BL} {i : Nat} (hi : i < s.length) : s[i]? = some 48 ↔ ((bat (ba s) i).toNat : Int) = 48 := get_is (c := 48) hi
theorem g49 {s : BL} {i : Nat} (hi : i < s.length) : s[i]? = some 49 ↔ ((bat (ba s) i).toNat : Int) = 49 := get_is (c := 49) hi
theorem g47 {s : BL} {i : Nat} (hi : i < s.length) : s[i]? = some 47 ↔ ((bat (ba s) i).toNat : Int) = 47 := get_is (c := 47) hi
theorem tbad_t {s : BL} {i : Nat} (hi : i < s.length) (h : ((bat (ba s) i).toNat : Int) = 126) (h2 : i + 1 = s.length ∨ (¬ ((bat (ba s) (i + 1)).toNat : Int) = 48 ∧ ¬ ((bat (ba s) (i + 1)).toNat : Int) = 49)) : tbad s i = true := by
  unfold tbad
  rw [decide_eq_true ((g126 hi).2 h), Bool.true_and]
  by_cases hl : i + 1 < s.length
  · obtain ⟨h3, h4⟩ := h2.resolve_left (by omega)
    rw [decide_eq_false (fun e => h3 ((g48 hl).1 e)), decide_eq_false (fun e => h4 ((g49 hl).1 e))]; rfl
  · rw [List.getElem?_eq_none (by omega)]; rfl
theorem tbad_f {s : BL} {i : Nat} (hi : i < s.length) (h : ((bat (ba s) i).toNat : Int) = 126 → i + 1 < s.length ∧ (((bat (ba s) (i + 1)).toNat : Int) = 48 ∨ ((bat (ba s) (i + 1)).toNat : Int) = 49)) : tbad s i = false := by
  unfold tbad
  by_cases hc : ((bat (ba s) i).toNat : Int) = 126
  · obtain ⟨h1, h2⟩ := h hc
    rcases h2 with h2 | h2
    · rw [decide_eq_true ((g48 h1).2 h2)]; simp
    · rw [decide_eq_true (p := s[i + 1]? = some 49) ((g49 h1).2 h2)]; simp
  · rw [decide_eq_false (fun e => hc ((g126 hi).1 e))]; rfl
/-- The array's cells, i names turned. -/
def pcell (L : List BL) (i : Nat) : List AV := (((L.take i).map pune) ++ L.drop i).map fun x => AV.str (ba x)
theorem pcell_0 (L : List BL) : pcell L 0 = L.map fun x => AV.str (ba x) := by simp [pcell]
theorem pcell_len (L : List BL) (i : Nat) : (pcell L i).length = L.length := by simp [pcell]; omega
theorem pcell_end (L : List BL) : pcell L L.length = (srow (L.map pune)).flatten := by rw [srow_flat]; simp [pcell]
theorem pcell_get {L : List BL} {i : Nat} {x : BL} (h : L[i]? = some x) : (pcell L i)[i]? = some (.str (ba x)) := by
  have hi := (List.getElem?_eq_some_iff.1 h).1
  unfold pcell
  rw [List.getElem?_map, List.getElem?_append_right (by simp; omega)]
  simp [Nat.min_eq_left (Nat.le_of_lt hi), h]
theorem pcell_step {L : List BL} {i : Nat} {x : BL} (h : L[i]? = some x) : (pcell L i).set i (.str (ba (pune x))) = pcell L (i + 1) := by
  have hi := (List.getElem?_eq_some_iff.1 h).1
  unfold pcell
  rw [List.take_add_one, h]
  have hd : L.drop i = x :: L.drop (i + 1) := by
    rw [List.drop_eq_getElem_cons hi]
    have := (List.getElem?_eq_some_iff.1 h).2
    rw [this]
  rw [hd]
  simp only [Option.toList, List.map_append, List.map_cons, List.map_nil, List.append_assoc, List.cons_append, List.nil_append]
  rw [List.set_append_right _ _ (by simp; omega)]
  simp [Nat.min_eq_left (Nat.le_of_lt hi)]
@[simp] theorem pcell_lt (m : Nat) (L : List BL) (i : Nat) : AV.ltL m (pcell L i) := smap_lt m _
end Lg
namespace Lg
open Go Go.Lib Go.ChangeShapes Go.WideShapes
/-- As calls_of, the arguments' cells in the world W. -/
theorem calls_of2 {P : Program} {f : FuncId} {args : List AV} {cargs : List Value} {W : World} (ha : ∀ [GLay] (s : CS), s.w = W → (∀ b, b < W.heap.size → s.ok b) → PW s args cargs)
    (h : ∀ [g : GLay], (∀ b, g.f b = W.heap[b]?) → ACalls P f args [] (Ret (.bool true) [])) : Calls P f cargs.toArray W fun e W' => e = .returned (.bool true) ∧ Go.RowKit.Below W.heap.size W W' := by
  letI : GLay := ⟨fun b => W.heap[b]?⟩
  let s0 : CS := { σ := [], μ := fun _ => ⟨0, 0, 0⟩, ok := fun b => b < W.heap.size, w := W }
  have g0 : Good s0 := ⟨fun b hb => hb, fun p o ho => by simp [s0] at ho, fun p q _ hp _ => by
      have : p < s0.σ.length := CS.live_lt hp
      simp [s0] at this, fun b o ho => ⟨(Array.getElem?_eq_some_iff.1 ho).1, ho⟩⟩
  refine (h (fun _ => rfl) s0 cargs rfl g0 (ha s0 rfl fun _ hb => hb)).mono fun e W' hc => ?_
  obtain ⟨s', rfl, g', x', hr⟩ := hc
  have hbel : Go.RowKit.Below W.heap.size W s'.w := ⟨x'.os, x'.tape, x'.output, x'.size, fun k hk => x'.frame k hk (fun p hp => by
    have : p < s0.σ.length := CS.live_lt hp
    simp [s0] at this)⟩
  cases e with
  | returned cv =>
    obtain ⟨v, hv, he, _⟩ := hr
    injection he with he
    subst he
    rw [hv.inv_bool]
    exact ⟨rfl, hbel⟩
  | outgrown => exact hr.elim
  | panicked ch =>
    cases ch with
    | nil => exact hr.elim
    | cons en r =>
      cases r with
      | nil => obtain ⟨_, v, _, he, _⟩ := hr; cases he
      | cons => exact hr.elim
/-- A []string that came in: its texts. -/
theorem names_V {H : Type} {enc : TypeId × Value → H} {P : Program} {W : World} {t e : TypeId} {fuel : Nat} {a0 : Option Addr} {len cap : Nat} {x : DataW H × List MemPlace} (ht : P.underlying t = some (.slice e)) (he : P.underlying e = some .string) (hc : P.cellsOf e = 1)
    (h : DataW.trod enc P W 0 (fun _ => true) true fuel t (Value.cells (.slice a0 len cap)).toList = some x) : ∃ l : List BL, ∀ [GLay] (s : CS), s.w = W → (∀ b, b < W.heap.size → s.ok b) → V s (.sl false 1 (srow l)) (.slice a0 len cap) := by
  rcases open_strings ht he hc h with ⟨hcs, _⟩ | ⟨a, len', cap', ss, hcs, _, hl, hm, hz, _, hcell, _⟩
  · simp [Value.cells] at hcs
    obtain ⟨rfl, rfl, rfl⟩ := hcs
    exact ⟨[], fun s _ _ => .sl0 false 1 none⟩
  · simp [Value.cells] at hcs
    obtain ⟨rfl, rfl, rfl⟩ := hcs
    simp only [if_true] at hz
    by_cases hc0 : cap = 0
    · subst hc0
      obtain rfl : len = 0 := by omega
      exact ⟨[], fun s _ _ => .sl0 false 1 (some a)⟩
    · obtain ⟨b, off, spot⟩ := a
      have hspot : spot = none := by simpa [Addr.add] using World.cell?_spot (hcell 0 (by omega))
      subst hspot
      have hbW : b < W.heap.size := World.block_lt_of_cell? _ _ (hcell 0 (by omega))
      refine ⟨(ss.take len).map fun z => z.data.toList, fun s hs hok => ?_⟩
      subst hs
      have hll : (srow ((ss.take len).map fun z => z.data.toList)).length = len := by rw [srow_len, List.length_map, List.length_take]; omega
      have hv := V.sl (s := s) false 1 (srow ((ss.take len).map fun z => z.data.toList)) b off cap ((ss.take len).map Value.string) (.inr (hok b hbW)) (srow_el _) (by rw [srow_flat]; simp) (fun i v hi => by
        rw [List.getElem?_map] at hi
        cases hx : (ss.take len)[i]? with
        | none => rw [hx] at hi; cases hi
        | some z =>
          rw [hx] at hi; cases hi
          rw [List.getElem?_take] at hx
          split at hx
          · have hlt := (List.getElem?_eq_some_iff.1 hx).1
            have := hcell i hlt
            have e2 : ss.getD i ByteArray.empty = z := by rw [List.getD, hx]; rfl
            rw [e2] at this
            rw [add_none] at this; exact this
          · cases hx) (fun i c v h1 h2 => by
        rw [srow_flat, List.map_map, List.getElem?_map] at h1
        rw [List.getElem?_map] at h2
        cases hx : (ss.take len)[i]? with
        | none => rw [hx] at h1; cases h1
        | some z =>
          rw [hx] at h1 h2; cases h1; cases h2
          show V s (.str (ba z.data.toList)) _
          rw [← ba_eta]; exact .str _) (by rw [hll]; exact hl) (fun h => by cases h)
      rw [hll] at hv
      exact hv
end Lg
namespace Go
/-- The wrap with both: what is laid, and the world's shape. -/
theorem Lg.returns_and_shaped {H : Type} {enc : TypeId × Value → H} {a : Assume} {C : Checked} {os : Os} {f : FuncId} {fn : Func} {s : ChangeSpec} {conds : List PathCond} {apart fresh handsOn again : Bool} {X : World → Array Value → Prop}
    (hX : ∀ (w w' : World) (args : Array Value), w.heap = w'.heap → X w args → X w' args)
    (own : ownKnob C.prog.godebug = none) (started : os.Started) (noInit : C.prog.inits.idxOf? f = none) (hfn : C.prog.funcs[f]? = some fn)
    (witness : ∃ (w : World) (tape : Tape) (i : Input), w.os = os ∧ (w.forCall tape i).Shaped C.prog ∧ i.vars = [] ∧ Input.okWide C.prog (w.forCall tape i) .any w.heap.size f i ∧
      ((s.pre enc C.prog fn conds apart (w.forCall tape i).memory i.args ∧ X (w.forCall tape i).memory i.args) ∧ sizedMet enc C.prog fn (OpenSpec.ofChange s) apart (w.forCall tape i).memory i.args) ∧ a.holds C.prog (lone (Frame.enter C.prog f i.args .normal) [] (w.forCall tape i)))
    (contract : ∀ (W : World) (base : Nat) (args : Array Value) (ds gs : List (DataW H)) (before : List MemPlace),
      (∀ (j : Nat) t v, fn.params[j]? = some t → args[j]? = some v → Value.okWide C.prog W .any base t v) →
      DataW.Whole enc C.prog fn.params.toList s.vars apart W args.toList ds gs before →
      X W args → W.ShapedOpen C.prog →
      Calls C.prog f args W fun e W' => ∃ v, e = .returned v ∧ s.post enc C.prog fn apart fresh handsOn again W args v W') :
    ReturnsInHanded a C os f .any (fun w args => (s.pre enc C.prog fn conds apart w args ∧ X w args) ∧ sizedMet enc C.prog fn (OpenSpec.ofChange s) apart w args) (s.post enc C.prog fn apart fresh handsOn again) := by
  refine returnsInHanded_of_calls own started noInit witness ?_
  intro w tape i _ hsh _ hok hpre _
  obtain ⟨_, _, _, fn', hfn', _, _, _, _, hval⟩ := hok
  obtain rfl : fn' = fn := Option.some.inj (hfn'.symm.trans hfn)
  obtain ⟨⟨⟨ds, gs, before, hw, _⟩, hx⟩, _⟩ := hpre
  refine (contract (w.forCall tape i) w.heap.size i.args ds gs before hval (DataW.Whole.of_heap (w' := w.forCall tape i) (by rfl) hw) (hX _ _ _ (by rfl) hx) hsh).mono fun e W' ⟨v, he, hp⟩ => ?_
  subst he
  exact ChangeSpec.post_blind hp
end Go
set_option maxRecDepth 20000
set_option maxHeartbeats 4000000
namespace Lg
open Go Go.Proofs Go.RowKit
variable [GLay] 
theorem run_c (s : ByteArray) (a : Int) (σ : List AO) (hs : s.size ≤ 1000000000) (h0 : 0 ≤ a) (ha : a ≤ 1000000000) : ACalls Tryz.prog 54 [.str s, .int .i64 a] σ (Ret (.int .i64 (runl s a.toNat : Int)) σ) := by
 refine ACalls_body Tryz.func54 rfl Tryz.ntmps54 (res1 Tryz.results54) (Nat.le_of_ble_eq_true rfl) (fun hcl hal => ?_)
 refine zw1 ?_
 refine zw1 ?_
 refine AWp_seq ?_
 refine AWp_block ?_
 -- loop 0 LIVE 0:param 1:param 4:assign 5:assign
 refine AWp_loop (ι := Nat) (fun i => i + runl s (a.toNat + i) = runl s a.toNat) (fun i => ⟨[], [(0, .str s), (1, .int .i64 a), (5, .int .i64 (i : Int))]⟩) (fun i => σ) (fun i => s.size - (a.toNat + i)) (0) (by simp) ?_ rfl (fun i hi => ?_)
 ·refine ⟨rfl, rfl, rfl, rfl, trivial⟩
 have hle := runl_le s (a.toNat + i)
 have hle0 := runl_le s a.toNat
 have hto : (a + (i : Int)).toNat = a.toNat + i := by omega
 refine AWp_seq ?_
 refine zu7 ?_
 refine zsp 12 rfl (fun h1 => ?_) fun h1 => ?_
 ·rw [h1]; replace h1 := zcl h1
  refine zg8 ?_
  refine zsp 20 rfl (fun h2 => ?_) fun h2 => ?_
  ·rw [h2]; replace h2 := zcl h2
   refine zv7 ?_
   refine AWp_cond rfl (fun h3 => ?_) (fun h3 => ?_)
   ·(try rw [h3]); replace h3 := zcl h3
    refine AWp_skip ?_
    refine AWp_block ?_
    refine AWp_regL ?_
    refine zv3 ?_
    (try simp only [hto] at *)
    have hd : dig s (a.toNat + i) := by simp only [dig]; omega
    have hr := runl_yes (by omega) hd
    refine ⟨i + 1, σ.length, by rw [← Nat.add_assoc]; omega, by omega, Nat.le_refl _, ⟨rfl, rfl, rfl, rfl, trivial⟩, hcl, ?_, List.take_length⟩
    simp [ltE, AV.lt]
   ·(try rw [h3]); replace h3 := zcl h3
    refine AWp_exit ?_
    refine zw2 ?_
    refine zrt ?_
    (try simp only [hto] at *)
    have hr := runl_no (b := s) (i := a.toNat + i) (by simp only [dig]; omega)
    refine ResQ_10 rfl hcl trivial (Ret_of ?_)
    congr 1; omega
  ·rw [h2]; replace h2 := zcl h2
   refine zv7 ?_
   refine AWp_condF rfl ?_
   refine AWp_exit ?_
   refine zw2 ?_
   refine zrt ?_
   (try simp only [hto] at *)
   have hr := runl_no (b := s) (i := a.toNat + i) (by simp only [dig]; omega)
   refine ResQ_10 rfl hcl trivial (Ret_of ?_)
   congr 1; omega
 ·rw [h1]; replace h1 := zcl h1
  refine zg10 ?_
  refine zg5 ?_
  refine zon ?_
  refine AWp_condF rfl ?_
  refine AWp_exit ?_
  refine zw2 ?_
  refine zrt ?_
  (try simp only [hto] at *)
  have hr := runl_no (b := s) (i := a.toNat + i) (by simp only [dig]; omega)
  refine ResQ_10 rfl hcl trivial (Ret_of ?_)
  congr 1; omega

theorem mayNum_c (n : JNum) (σ : List AO) (hn : n.digits.size ≤ 1000000000) : ACalls Tryz.prog 116 [.agg (ncells n)] σ (Ret (.bool (pb (NumMay n))) σ) := by
 refine ACalls_body Tryz.func116 rfl Tryz.ntmps116 (res1 Tryz.results116) (Nat.le_of_ble_eq_true rfl) (fun hcl hal => ?_)
 have hr0 := runl0 n.digits
 refine zw2 ?_
 refine AWp_seq ?_
 refine zw3 ?_
 refine AWp_cond rfl (fun h1 => ?_) (fun h1 => ?_)
 ·(try rw [h1]); replace h1 := zcl h1
  refine zu4 ?_
  refine zsp 9 rfl (fun h2 => ?_) fun h2 => ?_
  ·rw [h2]; replace h2 := zcl h2
   refine zv5 ?_
   refine zrt ?_
   refine ResQ_1 rfl hcl trivial (Ret_of ?_)
   refine bool_of ?_
   by_cases hd : digs n.digits n.digits.size
   ·have hd2 := hr0.2 hd; simp_all [NumMay] <;> omega
   ·have hd2 := mt hr0.1 hd; simp_all [NumMay] <;> omega
  ·rw [h2]; replace h2 := zcl h2
   refine zv5 ?_
   refine zrt ?_
   refine ResQ_1 rfl hcl trivial (Ret_of ?_)
   refine bool_of ?_
   by_cases hd : digs n.digits n.digits.size
   ·have hd2 := hr0.2 hd; simp_all [NumMay] <;> omega
   ·have hd2 := mt hr0.1 hd; simp_all [NumMay] <;> omega
 ·(try rw [h1]); replace h1 := zcl h1
  have hpos := ba_pos h1
  refine AWp_skip ?_
  refine AWp_seq ?_
  refine AWp_seq ?_
  refine AWp_drawL #[0, 1, 3, 7, 15, 31, 63, 127, 255, 511, 1023, 2047, 4095, 8191, 16383, 32767, 65535, 131071, 32767, 294911, 819199, 2097151, 4194303] Tryz.mixed (by decide +kernel) (by decide +kernel) ?_
  refine zd1 ?_
  refine zp1 ?_
  refine zd3 ?_
  refine zspr 18 rfl (fun h3 => ?_) fun h3 => ?_
  ·rw [h3]; replace h3 := zcl h3
   refine zd10 ?_
   refine zd8 ?_
   refine RP.nil rfl ?_
   refine AWp_condT rfl ?_
   refine zw1 ?_
   refine zrt ?_
   refine ResQ_1 rfl hcl trivial (Ret_of ?_)
   refine bool_of ?_
   by_cases hd : digs n.digits n.digits.size
   ·have hd2 := hr0.2 hd; simp_all [NumMay] <;> omega
   ·have hd2 := mt hr0.1 hd; simp_all [NumMay] <;> omega
  ·rw [h3]; replace h3 := zcl h3
   refine zd1 ?_
   refine zp1 ?_
   refine zd3 ?_
   refine zspr 23 rfl (fun h4 => ?_) fun h4 => ?_
   ·rw [h4]; replace h4 := zcl h4
    refine zd10 ?_
    refine zd3 ?_
    refine RP.nil rfl ?_
    refine AWp_condT rfl ?_
    refine zw1 ?_
    refine zrt ?_
    refine ResQ_1 rfl hcl trivial (Ret_of ?_)
    refine bool_of ?_
    by_cases hd : digs n.digits n.digits.size
    ·have hd2 := hr0.2 hd; simp_all [NumMay] <;> omega
    ·have hd2 := mt hr0.1 hd; simp_all [NumMay] <;> omega
   ·rw [h4]; replace h4 := zcl h4
    refine zd1 ?_
    refine zp1 ?_
    refine zd3 ?_
    refine zspr 28 rfl (fun h5 => ?_) fun h5 => ?_
    ·rw [h5]; replace h5 := zcl h5
     refine zd8 ?_
     refine RP.nil rfl ?_
     refine AWp_condT rfl ?_
     refine zw1 ?_
     refine zrt ?_
     refine ResQ_1 rfl hcl trivial (Ret_of ?_)
     refine bool_of ?_
     by_cases hd : digs n.digits n.digits.size
     ·have hd2 := hr0.2 hd; simp_all [NumMay] <;> omega
     ·have hd2 := mt hr0.1 hd; simp_all [NumMay] <;> omega
    ·rw [h5]; replace h5 := zcl h5
     refine zd1 ?_
     refine zp1 ?_
     refine yPG rfl rfl rfl (zc rfl (run_c _ _ _ hn (by omega) (by omega))) (trivial) ?_
     refine zd1 ?_
     refine zp1 ?_
     refine zd3 ?_
     refine RP.nil rfl ?_
     refine AWp_cond rfl (fun h6 => ?_) (fun h6 => ?_)
     ·(try rw [h6]); replace h6 := zcl h6
      refine zw1 ?_
      refine zrt ?_
      refine ResQ_1 rfl hcl trivial (Ret_of ?_)
      refine bool_of ?_
      by_cases hd : digs n.digits n.digits.size
      ·have hd2 := hr0.2 hd; simp_all [NumMay] <;> omega
      ·have hd2 := mt hr0.1 hd; simp_all [NumMay] <;> omega
     ·(try rw [h6]); replace h6 := zcl h6
      refine AWp_skip ?_
      refine zu5 ?_
      refine zsp 41 rfl (fun h7 => ?_) fun h7 => ?_
      ·rw [h7]; replace h7 := zcl h7
       refine zg10 ?_
       refine zon ?_
       refine zrt ?_
       refine ResQ_1 rfl hcl trivial (Ret_of ?_)
       refine bool_of ?_
       by_cases hd : digs n.digits n.digits.size
       ·have hd2 := hr0.2 hd; simp_all [NumMay] <;> omega
       ·have hd2 := mt hr0.1 hd; simp_all [NumMay] <;> omega
      ·rw [h7]; replace h7 := zcl h7
       refine zg10 ?_
       refine zon ?_
       refine zrt ?_
       refine ResQ_1 rfl hcl trivial (Ret_of ?_)
       refine bool_of ?_
       by_cases hd : digs n.digits n.digits.size
       ·have hd2 := hr0.2 hd; simp_all [NumMay] <;> omega
       ·have hd2 := mt hr0.1 hd; simp_all [NumMay] <;> omega
end Lg
namespace Lg
open Go Go.RowKit
variable [GLay] {P : Program} {N : Nat} {σ l : List AO} {e : Env} {Q : QA} {o : Oper}
theorem spl_set (v : AV) : ∀ (i : Nat) (cs : List AV), i < cs.length → spl i cs [v] = some (cs.set i v)
  | 0, [], h => by simp at h
  | 0, c :: cs, _ => by simp [spl, putAt]
  | i + 1, [], h => by simp at h
  | i + 1, c :: cs, h => by simp [spl, spl_set v i cs (by simpa using h)]
theorem ldv_el {j g sz off i : Nat} {cs : List AV} {v : AV} (hl : l[j]? = some (.arr sz g cs)) (hv : cs[i]? = some v) (ho : off = i) : ldv (σ ++ l) 1 (.pel (σ.length + j) g off) = some [v] := by
  subst ho
  simp only [ldv, get_own, hl, if_true]
  have hi := (List.getElem?_eq_some_iff.1 hv).1
  rw [List.drop_eq_getElem_cons hi, (List.getElem?_eq_some_iff.1 hv).2]
  rfl
theorem op_storeEl {T : TypeId} {x y : Operand} {j g sz off i : Nat} {cs : List AV} {b : ByteArray} (ho : o.op = .store T x y) (hz : ∀ w, (Go.sizeOf T).run P w = Result.ok 1 w) (hy : opO e y = some (.str b)) (hx : opO e x = some (.pel (σ.length + j) g off)) (hoff : off = i)
    (hl : l[j]? = some (.arr sz g cs)) (hi : i < cs.length) : AOp P (σ ++ l) e o .any (σ ++ l.set j (.arr sz g (cs.set i (.str b)))) := by
  subst hoff
  have e1 := opO_eq hy
  have := op_store (P := P) (σ := σ ++ l) (e := e) (p := σ.length + j) (O := .arr sz g (cs.set off (.str b))) ho hz (by rw [e1]; rfl) (by rw [e1]; rfl) (by
    rw [e1, opO_eq hx]
    show stv (σ ++ l) [.str b] (.pel (σ.length + j) g off) = _
    simp only [stv, get_own, hl, if_true, spl_set _ _ _ hi, Option.map_some]) (by decide)
  rwa [set_own] at this
end Lg
namespace Lg
open Go
theorem ra2_len (l : BL) (h : okP l) : (ra [126, 49] [47] l).length ≤ l.length := by
  refine okP_ind (M := fun l => (ra [126, 49] [47] l).length ≤ l.length) ?_ ?_ ?_ ?_ l.length l (Nat.le_refl _) h
  · rw [ra_nil (by simp)]; simp
  · intro r _ ih
    rw [ra_cons (b := 126) (by simp) (pf_no (d := 0) (by rintro ⟨_, r', e⟩; simp at e)), ra_cons (b := 48) (by simp) (pf_no (d := 0) (by rintro ⟨e, _⟩; simp at e))]
    simp only [List.length_cons]; omega
  · intro r _ ih
    rw [show (126 :: 49 :: r : BL) = [126, 49] ++ r from rfl, ra_pre (by simp)]
    simp only [List.length_append, List.length_cons, List.length_nil]; omega
  · intro b r hb _ ih
    rw [ra_cons (by simp) (pf_no (d := 0) (by rintro ⟨e, _⟩; exact hb e.symm))]
    simp only [List.length_cons]; omega
theorem pcs_len (c : UInt8) : ∀ l : BL, (pcs c l).length ≤ l.length + 1
  | [] => by simp [pcs]
  | b :: l => by
    have ih := pcs_len c l
    unfold pcs
    split
    · simp only [List.length_cons]; omega
    · split
      · simp
      · rename_i p r h; rw [h] at ih; simp only [List.length_cons] at ih ⊢; omega
end Lg
namespace Lg
open Go
theorem ext_tl (s : BL) : (ba s).extract (Int.toNat 1) ((ba s).size : Int).toNat = ba (s.drop 1) := ba_ext (by
  have e : (Int.toNat 1) = 1 := rfl
  rw [Int.toNat_natCast, ba_size, e]
  simp [ba]
  try exact List.take_of_length_le (by simp))
end Lg
namespace Lg
open Go
theorem pune_len (l : BL) (h : okP l) : (pune l).length ≤ l.length := by
  refine okP_ind (M := fun l => (pune l).length ≤ l.length) (Nat.le_refl _) ?_ ?_ ?_ l.length l (Nat.le_refl _) h
  · intro r _ ih; show (126 :: pune r).length ≤ _; simp only [List.length_cons]; omega
  · intro r _ ih; show (47 :: pune r).length ≤ _; simp only [List.length_cons]; omega
  · intro b r hb _ ih; rw [une_c hb]; simp only [List.length_cons]; omega
theorem pN_len {s : BL} (h : pE s = none) : (pN s).length ≤ s.length + 1 ∧ ∀ x ∈ pN s, x.length ≤ s.length := by
  by_cases h0 : s = []
  · subst h0; exact ⟨Nat.zero_le _, fun x hx => by simp [pN] at hx⟩
  · obtain ⟨h1, h2⟩ := pE_ok h0 h
    have ht : okP (s.drop 1) := by cases s with | nil => exact absurd rfl h0 | cons b r => exact okP_tl h2
    have hl := pcs_len 47 (s.drop 1)
    have hd : (s.drop 1).length ≤ s.length := by rw [List.length_drop]; omega
    unfold pN; rw [if_neg h0, h]
    refine ⟨by simp only [Option.isSome_none, Bool.false_eq_true, if_false, List.length_map]; omega, fun x hx => ?_⟩
    simp only [Option.isSome_none, Bool.false_eq_true, if_false, List.mem_map] at hx
    obtain ⟨p, hp, rfl⟩ := hx
    obtain ⟨a, b, c⟩ := pcs_ok _ (s.drop 1) (Nat.le_refl _) ht p hp
    have := pune_len p a
    omega
def ex6 : BL := [47, 97, 126, 49, 98, 47, 48]
def ex6n : List BL := [[97, 47, 98], [48]]
theorem ex6_s : shw ex6n = ex6 := by decide
theorem ex6_ok : pE ex6 = none ∧ pN ex6 = ex6n := by rw [← ex6_s]; exact pN_shw _
theorem exA_ok : pE [97] = some 0 ∧ pN [97] = [] := by decide
variable [GLay] {P : Program} {σ : List AO}
theorem ldv_elP {p g sz off i : Nat} {cs : List AV} {v : AV} (hl : σ[p]? = some (.arr sz g cs)) (hv : cs[i]? = some v) (ho : off = i) : ldv σ 1 (.pel p g off) = some [v] := by
  subst ho
  simp only [ldv, hl, if_true]
  have hi := (List.getElem?_eq_some_iff.1 hv).1
  rw [List.drop_eq_getElem_cons hi, (List.getElem?_eq_some_iff.1 hv).2]
  rfl
end Lg
namespace Lg
open Go
/-! ### A pointer's names, byte by byte (the reference's way) -/
theorem pcs_split (c : UInt8) : ∀ l : BL, ∃ ps p, pcs c l = ps ++ [p]
  | [] => ⟨[], [], rfl⟩
  | b :: l => by
    obtain ⟨ps, p, h⟩ := pcs_split c l
    unfold pcs
    split
    · exact ⟨[] :: ps, p, by rw [h]; rfl⟩
    · rw [h]
      cases ps with
      | nil => exact ⟨[], b :: p, rfl⟩
      | cons q r => exact ⟨(b :: q) :: r, p, rfl⟩
theorem pcs_snoc_c (c : UInt8) : ∀ l : BL, pcs c (l ++ [c]) = pcs c l ++ [[]]
  | [] => by simp [pcs]
  | b :: l => by
    rw [List.cons_append, pcs, pcs, pcs_snoc_c c l]
    split
    · rfl
    · obtain ⟨ps, p, h⟩ := pcs_split c l
      rw [h]
      cases ps with
      | nil => rfl
      | cons q r => rfl
theorem pcs_snoc {b c : UInt8} (hb : ¬ b = c) : ∀ {l : BL} {ps : List BL} {p : BL}, pcs c l = ps ++ [p] → pcs c (l ++ [b]) = ps ++ [p ++ [b]]
  | [], ps, p, h => by
    have : ps = [] ∧ p = [] := by
      rw [pcs] at h
      cases ps with
      | nil => simp at h; exact ⟨rfl, h⟩
      | cons q r => simp at h
    obtain ⟨rfl, rfl⟩ := this
    simp [pcs, hb]
  | a :: l, ps, p, h => by
    obtain ⟨qs, q, hq⟩ := pcs_split c l
    have ih := pcs_snoc hb hq
    rw [List.cons_append, pcs, ih]
    rw [pcs, hq] at h
    split at h
    · rename_i e
      rw [if_pos e]
      have h2 : ([] :: qs) ++ [q] = ps ++ [p] := h
      obtain ⟨h3, h4⟩ := List.append_inj' h2 rfl
      subst h3; simp at h4; subst h4; rfl
    · rename_i e
      rw [if_neg e]
      cases qs with
      | nil =>
        have h2 : [] ++ [a :: q] = ps ++ [p] := h
        obtain ⟨h3, h4⟩ := List.append_inj' h2 rfl
        subst h3; simp at h4; subst h4; rfl
      | cons r rs =>
        have h2 : ((a :: r) :: rs) ++ [q] = ps ++ [p] := h
        obtain ⟨h3, h4⟩ := List.append_inj' h2 rfl
        subst h3; simp at h4; subst h4; rfl
theorem pune_app (m : BL) : ∀ (n : Nat) (l : BL), l.length ≤ n → okP l → pune (l ++ m) = pune l ++ pune m :=
  okP_ind (M := fun l => pune (l ++ m) = pune l ++ pune m) rfl
    (fun r _ ih => by simp only [List.cons_append, pune, ih]) (fun r _ ih => by simp only [List.cons_append, pune, ih])
    (fun b r hb _ ih => by rw [List.cons_append, une_c hb, une_c hb, ih]; rfl)
def nms (u : BL) : List BL := (pcs 47 u).map pune
theorem nms_split (u : BL) : ∃ ps p, nms u = ps ++ [p] := by
  obtain ⟨ps, p, h⟩ := pcs_split 47 u
  exact ⟨ps.map pune, pune p, by simp [nms, h]⟩
theorem nms_c (u : BL) : nms (u ++ [47]) = nms u ++ [[]] := by
  unfold nms; rw [pcs_snoc_c]; simp [pune]
theorem nms_b {u : BL} {ps : List BL} {p : BL} {b : UInt8} (h : nms u = ps ++ [p]) (hu : okP u) (h7 : ¬ b = 47) (h126 : ¬ b = 126) : nms (u ++ [b]) = ps ++ [p ++ [b]] := by
  obtain ⟨qs, q, hq⟩ := pcs_split 47 u
  have hok := pcs_ok u.length u (Nat.le_refl _) hu q (by rw [hq]; simp)
  unfold nms at h ⊢
  rw [pcs_snoc h7 hq]
  rw [hq, List.map_append] at h
  obtain ⟨h1, h2⟩ := List.append_inj' h rfl
  simp at h2; subst h1; subst h2
  rw [List.map_append, List.map_cons, List.map_nil, pune_app [b] _ q (Nat.le_refl _) hok.1]
  rw [une_c h126]; rfl
theorem nms_e {u : BL} {ps : List BL} {p : BL} {b : UInt8} (h : nms u = ps ++ [p]) (hu : okP u) (hb : b = 48 ∨ b = 49) : nms (u ++ [126, b]) = ps ++ [p ++ [if b = 49 then 47 else 126]] := by
  obtain ⟨qs, q, hq⟩ := pcs_split 47 u
  have hok := pcs_ok u.length u (Nat.le_refl _) hu q (by rw [hq]; simp)
  have h1 := pcs_snoc (b := 126) (c := 47) (by decide) hq
  have h2 := pcs_snoc (b := b) (c := 47) (by rcases hb with rfl | rfl <;> decide) h1
  rw [show u ++ [126, b] = u ++ [126] ++ [b] by simp]
  unfold nms at h ⊢
  rw [h2]
  rw [hq, List.map_append] at h
  obtain ⟨h3, h4⟩ := List.append_inj' h rfl
  simp at h4; subst h3; subst h4
  rw [List.map_append, List.map_cons, List.map_nil, show q ++ [126] ++ [b] = q ++ [126, b] by simp, pune_app [126, b] _ q (Nat.le_refl _) hok.1]
  rcases hb with rfl | rfl <;> rfl
theorem okP_snoc {u : BL} {b : UInt8} (h : okP u) (hb : ¬ b = 126) : okP (u ++ [b]) := fun i hi => by
  rcases Nat.lt_trichotomy i u.length with h1 | h1 | h1
  · rw [List.getElem?_append_left h1] at hi
    have := h i hi
    have h2 : i + 1 < u.length := by
      rcases this with h | h <;> exact (List.getElem?_eq_some_iff.1 h).1
    rwa [List.getElem?_append_left h2]
  · subst h1; simp at hi; exact absurd hi hb
  · rw [List.getElem?_append_right (by omega)] at hi
    have : i - u.length = (i - u.length - 1) + 1 := by omega
    rw [this] at hi; simp at hi
theorem okP_snoc2 {u : BL} {b : UInt8} (h : okP u) (hb : b = 48 ∨ b = 49) : okP (u ++ [126, b]) := fun i hi => by
  rcases Nat.lt_trichotomy i u.length with h1 | h1 | h1
  · rw [List.getElem?_append_left h1] at hi
    have := h i hi
    have h2 : i + 1 < u.length := by
      rcases this with h | h <;> exact (List.getElem?_eq_some_iff.1 h).1
    rwa [List.getElem?_append_left h2]
  · subst h1
    rw [List.getElem?_append_right (by omega), Nat.add_sub_cancel_left]
    rcases hb with rfl | rfl <;> simp
  · rw [List.getElem?_append_right (by omega)] at hi
    obtain ⟨k, hk⟩ : ∃ k, i - u.length = k + 1 := ⟨i - u.length - 1, by omega⟩
    rw [hk] at hi
    cases k with
    | zero => simp at hi; rcases hb with rfl | rfl <;> cases hi
    | succ k => simp at hi
theorem take_b {s : BL} {i : Nat} {b : UInt8} (h : s[i]? = some b) (hi : 1 ≤ i) : (s.take (i + 1)).drop 1 = (s.take i).drop 1 ++ [b] := by
  rw [List.take_add_one, h]
  have hl := (List.getElem?_eq_some_iff.1 h).1
  rw [List.drop_append_of_le_length (by rw [List.length_take]; omega)]; rfl
theorem take_2 {s : BL} {i : Nat} {a b : UInt8} (h : s[i]? = some a) (h2 : s[i + 1]? = some b) (hi : 1 ≤ i) : (s.take (i + 1 + 1)).drop 1 = (s.take i).drop 1 ++ [a, b] := by
  rw [take_b h2 (by omega), take_b h hi]; simp
/-- What the reference's Pointer has when it stands at i. -/
structure PAt (s : BL) (i : Nat) (L : List BL) : Prop where
  le : i ≤ s.length
  z : i = 0 → L = []
  ok : okP ((s.take i).drop 1)
  nm : 1 ≤ i → L = nms ((s.take i).drop 1)
  bad : ∀ j, j < i → tbad s j = false
theorem PAt.zero (s : BL) : PAt s 0 [] := ⟨Nat.zero_le _, fun _ => rfl, okP_nil, fun h => absurd h (by omega), fun j h => absurd h (by omega)⟩
theorem tb_no {s : BL} {i : Nat} {b : UInt8} (h : s[i]? = some b) (hb : ¬ b = 126) : tbad s i = false := by
  unfold tbad; rw [decide_eq_false (by rw [h]; simpa using hb)]; rfl
theorem PAt.slash {s : BL} {i : Nat} {L : List BL} (p : PAt s i L) (h : s[i]? = some 47) : PAt s (i + 1) (L ++ [[]]) where
  le := (List.getElem?_eq_some_iff.1 h).1
  z := fun e => absurd e (by omega)
  ok := by
    by_cases h0 : i = 0
    · subst h0; rw [List.drop_eq_nil_of_le (by simp [List.length_take]; omega)]; exact okP_nil
    · rw [take_b h (by omega)]; exact okP_snoc p.ok (by decide)
  nm := fun _ => by
    by_cases h0 : i = 0
    · subst h0; rw [p.z rfl, List.drop_eq_nil_of_le (by simp [List.length_take]; omega)]; rfl
    · rw [take_b h (by omega), nms_c, ← p.nm (by omega)]
  bad := fun j hj => by
    by_cases e : j = i
    · subst e; exact tb_no h (by decide)
    · exact p.bad j (by omega)
theorem PAt.byte {s : BL} {i : Nat} {L ps : List BL} {q : BL} {b : UInt8} (p : PAt s i L) (hi : 1 ≤ i) (hL : L = ps ++ [q]) (h : s[i]? = some b) (h7 : ¬ b = 47) (h126 : ¬ b = 126) : PAt s (i + 1) (ps ++ [q ++ [b]]) where
  le := (List.getElem?_eq_some_iff.1 h).1
  z := fun e => absurd e (by omega)
  ok := by rw [take_b h hi]; exact okP_snoc p.ok h126
  nm := fun _ => by rw [take_b h hi]; exact (nms_b ((p.nm hi).symm.trans hL) p.ok h7 h126).symm
  bad := fun j hj => by
    by_cases e : j = i
    · subst e; exact tb_no h h126
    · exact p.bad j (by omega)
theorem PAt.esc {s : BL} {i : Nat} {L ps : List BL} {q : BL} {b : UInt8} (p : PAt s i L) (hi : 1 ≤ i) (hL : L = ps ++ [q]) (h : s[i]? = some 126) (h2 : s[i + 1]? = some b) (hb : b = 48 ∨ b = 49) : PAt s (i + 1 + 1) (ps ++ [q ++ [if b = 49 then 47 else 126]]) where
  le := (List.getElem?_eq_some_iff.1 h2).1
  z := fun e => absurd e (by omega)
  ok := by rw [take_2 h h2 hi]; exact okP_snoc2 p.ok hb
  nm := fun _ => by rw [take_2 h h2 hi]; exact (nms_e ((p.nm hi).symm.trans hL) p.ok hb).symm
  bad := fun j hj => by
    by_cases e : j = i
    · subst e; unfold tbad; rw [h2]; rcases hb with rfl | rfl <;> simp
    · by_cases e2 : j = i + 1
      · subst e2; exact tb_no h2 (by rcases hb with rfl | rfl <;> decide)
      · exact p.bad j (by omega)
theorem PAt.done {s : BL} {L : List BL} (p : PAt s s.length L) (h0 : ¬ s = []) (h1 : s[0]? = some 47) : pE s = none ∧ pN s = L := by
  have hl : 1 ≤ s.length := List.length_pos_iff.2 h0
  have hE : pE s = none := pE_none h0 h1 p.bad
  refine ⟨hE, ?_⟩
  rw [p.nm hl]
  unfold pN; rw [if_neg h0, hE, List.take_length]; rfl
theorem PAt.last {s : BL} {i : Nat} {L : List BL} (p : PAt s i L) (hi : 1 ≤ i) : ∃ ps q, L = ps ++ [q] := by
  obtain ⟨ps, q, h⟩ := nms_split ((s.take i).drop 1)
  exact ⟨ps, q, (p.nm hi).trans h⟩
theorem PAt.len {s : BL} {i : Nat} {L : List BL} (p : PAt s i L) : L.length ≤ i + 1 := by
  by_cases h0 : i = 0
  · rw [p.z h0]; simp
  · rw [p.nm (by omega)]; unfold nms; rw [List.length_map]
    have := pcs_len 47 ((s.take i).drop 1)
    rw [List.length_drop, List.length_take] at this; omega
theorem PAt.el {s : BL} {i : Nat} {L : List BL} (p : PAt s i L) : ∀ x ∈ L, x.length ≤ i := by
  intro x hx
  by_cases h0 : i = 0
  · rw [p.z h0] at hx; cases hx
  · rw [p.nm (by omega)] at hx
    unfold nms at hx
    obtain ⟨y, hy, rfl⟩ := List.mem_map.1 hx
    have h1 := pcs_ok _ _ (Nat.le_refl _) p.ok y hy
    have := pune_len y h1.1
    have h2 := h1.2.2
    rw [List.length_drop, List.length_take] at h2; omega
end Lg
namespace Lg
open Go Go.RowKit
variable [GLay]
/-! ### Maps of the call's own -/
/-! ### Keys that are ints -/
def imap (m : List (Int × AV)) : List (AV × AV) := m.map fun q => (.int .i64 q.1, q.2)
def iget : List (Int × AV) → Int → Option (Nat × AV)
  | [], _ => none
  | (x, v) :: r, k => if k = x then some (0, v) else (iget r k).map fun z => (z.1 + 1, z.2)
theorem iget_none {m : List (Int × AV)} {k : Int} (h : ∀ q ∈ m, ¬ q.1 = k) : iget m k = none := by
  induction m with
  | nil => rfl
  | cons q r ih => obtain ⟨x, v⟩ := q; rw [iget, if_neg (fun e => h (x, v) (by simp) e.symm), ih (fun q hq => h q (by simp [hq]))]; rfl
theorem findNow_i {s : CS} (k : Int) : ∀ (m : List (Int × AV)) (es : List MapEntry) (i : Nat), PW s (mflat (imap m)) (mflat (es.map fun e => (e.key, e.val))) →
    ∃ r, Instr.findNow (.int .i64) (.int .i64 k) es i = some r ∧ (match iget m k with
      | none => r = none
      | some (j, v) => ∃ c, r = some (i + j, c) ∧ V s v c)
  | [], es, i, h => by
    have := h.inv_nil
    cases es with
    | nil => exact ⟨none, rfl, rfl⟩
    | cons a r => simp [mflat] at this
  | (y, v) :: m, es, i, h => by
    cases es with
    | nil => have := h.1; simp [imap, mflat] at this
    | cons a r =>
      have h' : PW s (.int .i64 y :: v :: mflat (imap m)) (a.key :: a.val :: mflat (r.map fun e => (e.key, e.val))) := h
      have k1 := h'.2 0 _ _ rfl rfl
      have k2 := h'.2 1 _ _ rfl rfl
      have k3 : PW s (mflat (imap m)) (mflat (r.map fun e => (e.key, e.val))) := by
        obtain ⟨q, qs, e1, _, h2⟩ := h'.inv_cons
        obtain ⟨q2, qs2, e2, _, h3⟩ := h2.inv_cons
        cases e1; cases e2; exact h3
      simp only [Instr.findNow, k1.inv_int, Instr.sameNow]
      simp only [iget]
      by_cases hk : k = y
      · subst hk
        rw [if_pos rfl]
        refine ⟨some (i, a.val), ?_, a.val, rfl, k2⟩
        simp
      · rw [if_neg hk]
        obtain ⟨r', h1, h2⟩ := findNow_i k m r (i + 1) k3
        refine ⟨r', ?_, ?_⟩
        · rw [show (k == y) = false by simpa using hk]; exact h1
        · revert h2
          cases iget m k with
          | none => exact id
          | some z => obtain ⟨j, v'⟩ := z; rintro ⟨c, e1, e2⟩; exact ⟨c, by rw [e1]; congr 1; congr 1; omega, e2⟩
variable {P : Program} {N : Nat} {σ : List AO} {e : Env} {o : Oper} {p : Nat}
theorem V.tup2 {s : CS} {a b : AV} {x y : Value} (h : V s a x) (k : V s b y) : V s (.tup [a, b]) (.tuple #[x, y]) :=
  .tup [a, b] [x, y] rfl (fun i c v h1 h2 => by
    match i, h1, h2 with
    | 0, h1, h2 => cases h1; cases h2; exact h
    | 1, h1, h2 => cases h1; cases h2; exact k)
section
variable {T K E : TypeId} {a b c : Operand} {m : List (Int × AV)} {k : Int} {z : Value}
theorem op_lookupI (ho : o.op = .lookup T a b false) (hu : P.underlying T = some (.map K E)) (hK : P.underlying K = some (.int .i64)) (hz : ∀ w, (zeroValue E).run P w = Result.ok z w) (hx : opO e a = some (.mapv p)) (hy : opO e b = some (.int .i64 k))
    (hσ : σ[p]? = some (.map (imap m))) : AOp P σ e o (((iget m k).map (·.2)).getD (ofConst z)) σ :=
  .of_run fun s ac hs g hv => by
    subst hs
    have h1 := opO_eq hx ▸ hv a (by simp [ho, Op.operands])
    have h2 := (opO_eq hy ▸ hv b (by simp [ho, Op.operands])).inv_int
    have h1' := h1.inv_mapv
    obtain ⟨hnok, es, ck, hb, hpw⟩ := g.obj p _ hσ
    obtain ⟨r, hr, hm⟩ := findNow_i k m es 0 hpw
    have hc : ∀ em, (Instr.checkKey em 10000 K (.int .i64 k)).run P s.w = .ok () s.w := fun em => MapKept.run_checkKey (k := .int .i64 k) hK (by simp [MapKept.IsKey]) em 9999
    have hf : (Instr.findKey K (.int .i64 k) es).run P s.w = .ok r s.w := MapKept.run_findKey hK hr
    cases hg : iget m k with
    | none =>
      rw [hg] at hm
      subst hm
      refine ⟨z, ?_, by simpa using V_ofConst s z⟩
      simp [execOp, ho, h1', h2, Instr.lookup, run_underlying hu, MapKept.run_getObj_map hb, hc, hf, hz, Result.andThen]
    | some y =>
      obtain ⟨j, v⟩ := y
      rw [hg] at hm
      obtain ⟨cv, rfl, hcv⟩ := hm
      refine ⟨cv, ?_, by simpa using hcv⟩
      simp [execOp, ho, h1', h2, Instr.lookup, run_underlying hu, MapKept.run_getObj_map hb, hc, hf, Result.andThen]
theorem op_lookupI2 (ho : o.op = .lookup T a b true) (hu : P.underlying T = some (.map K E)) (hK : P.underlying K = some (.int .i64)) (hz : ∀ w, (zeroValue E).run P w = Result.ok z w) (hx : opO e a = some (.mapv p)) (hy : opO e b = some (.int .i64 k))
    (hσ : σ[p]? = some (.map (imap m))) : AOp P σ e o (.tup [((iget m k).map (·.2)).getD (ofConst z), .bool (iget m k).isSome]) σ :=
  .of_run fun s ac hs g hv => by
    subst hs
    have h1 := opO_eq hx ▸ hv a (by simp [ho, Op.operands])
    have h2 := (opO_eq hy ▸ hv b (by simp [ho, Op.operands])).inv_int
    have h1' := h1.inv_mapv
    obtain ⟨hnok, es, ck, hb, hpw⟩ := g.obj p _ hσ
    obtain ⟨r, hr, hm⟩ := findNow_i k m es 0 hpw
    have hc : ∀ em, (Instr.checkKey em 10000 K (.int .i64 k)).run P s.w = .ok () s.w := fun em => MapKept.run_checkKey (k := .int .i64 k) hK (by simp [MapKept.IsKey]) em 9999
    have hf : (Instr.findKey K (.int .i64 k) es).run P s.w = .ok r s.w := MapKept.run_findKey hK hr
    cases hg : iget m k with
    | none =>
      rw [hg] at hm
      subst hm
      refine ⟨.tuple #[z, .bool false], ?_, V.tup2 (V_ofConst s z) (.bool _)⟩
      simp [execOp, ho, h1', h2, Instr.lookup, run_underlying hu, MapKept.run_getObj_map hb, hc, hf, hz, Result.andThen]
    | some y =>
      obtain ⟨j, v⟩ := y
      rw [hg] at hm
      obtain ⟨cv, rfl, hcv⟩ := hm
      refine ⟨.tuple #[cv, .bool true], ?_, V.tup2 hcv (.bool _)⟩
      simp [execOp, ho, h1', h2, Instr.lookup, run_underlying hu, MapKept.run_getObj_map hb, hc, hf, Result.andThen]
/-- A key that isn't there yet. -/
theorem op_mapUpdI {v : AV} (ho : o.op = .mapUpdate T a b c) (hu : P.underlying T = some (.map K E)) (hK : P.underlying K = some (.int .i64)) (hx : opO e a = some (.mapv p)) (hy : opO e b = some (.int .i64 k)) (hc : opO e c = some v)
    (hσ : σ[p]? = some (.map (imap m))) (hn : iget m k = none) : AOp P σ e o .any (σ.set p (.map (imap (m ++ [(k, v)])))) := by
  intro s ac hs g hv Kk Q hk _
  subst hs
  have h1 := opO_eq hx ▸ hv a (by simp [ho, Op.operands])
  have h2 := (opO_eq hy ▸ hv b (by simp [ho, Op.operands])).inv_int
  have h3 := opO_eq hc ▸ hv c (by simp [ho, Op.operands])
  have h1' := h1.inv_mapv
  obtain ⟨hnok, es, ck, hb, hpw⟩ := g.obj p _ hσ
  obtain ⟨r, hr, hm⟩ := findNow_i k m es 0 hpw
  rw [hn] at hm
  subst hm
  have hcc : (Instr.checkKey false 10000 K (.int .i64 k)).run P s.w = .ok () s.w := MapKept.run_checkKey (k := .int .i64 k) hK (by simp [MapKept.IsKey]) false 9999
  have hf : (Instr.findKey K (.int .i64 k) es).run P s.w = .ok none s.w := MapKept.run_findKey hK hr
  have mf : ∀ {α : Type} (x y : List (α × α)), mflat (x ++ y) = mflat x ++ mflat y := fun {α} x y => by
    induction x with
    | nil => rfl
    | cons q r ih => simp [mflat, ih]
  obtain ⟨s', e1, e2, g', x'⟩ := g.setMap hσ (l' := imap (m ++ [(k, v)])) (es := es ++ [{ key := .int .i64 k, val := ac.eval c, born := ck }]) (c := ck + 1) (by
    simp only [imap, List.map_append, mf]
    exact hpw.append (PW.cons (.int .i64 k) (PW.cons h3 PW.nil)))
  refine wp_skipv (w' := s'.w) ?_ (hk .any undef s' ⟨rfl, e1⟩ g' x' (.any _))
  rw [e2]
  simp [execOp, ho, h1', h2, Instr.mapUpdate, run_underlying hu, MapKept.run_getObj_map hb, hcc, hf, MapKept.run_setObj_map _ hb, Result.andThen]
end
theorem mflat_length {α : Type} (l : List (α × α)) : (mflat l).length = 2 * l.length := by
  induction l with
  | nil => rfl
  | cons q r ih => simp [mflat, ih]; omega
/-- How many keys. -/
theorem op_lenMap {T K E : TypeId} {x : Operand} {c : Array TypeId} {l : List (AV × AV)} (ho : o.op = .call { callee := .builtin .len, args := #[x], argTypes := c }) (hc : c[0]? = some T) (hu : P.underlying T = some (.map K E))
    (hx : opO e x = some (.mapv p)) (hσ : σ[p]? = some (.map l)) : AOp P σ e o (.int .i64 (l.length : Int)) σ :=
  .of_run fun s a hs g hv => by
    subst hs
    have h1 := (opO_eq hx ▸ hv x (by simp [ho, Op.operands, Call.operands])).inv_mapv
    obtain ⟨hnok, es, ck, hb, hpw⟩ := g.obj p _ hσ
    have hl : es.length = l.length := by
      have := hpw.1
      rw [mflat_length, mflat_length, List.length_map] at this
      omega
    refine ⟨.int .i64 (es.length : Int), ?_, by rw [hl]; exact .int _ _⟩
    simp [execOp, ho, resolve, invoke, builtin, h1, Builtin.len_, hc, run_underlying hu, goInt, MapKept.run_getObj_map hb, Result.andThen]
end Lg
namespace Lg
open Go Go.RowKit
variable [GLay]
variable {P : Program} {N : Nat} {e : Env} {σ l : List AO} {Q : QA} {ops : Array Oper} {o : Oper}
theorem AWp_ghostInO {c : Code} (k i sz n : Nat) (hn : l.length = n) {bs : List AV} (hq : l[k]? = some (.box bs)) (hi : bs[i]? = some .nils) (h : AWp P N c e (σ ++ (l ++ [AO.arr sz 0 []]).set k (.box (bs.set i (.arr (σ.length + n) 0 sz 0 0)))) Q) : AWp P N c e (σ ++ l) Q :=
  AWp_ghostIn (σ.length + k) i sz (by rw [get_ownT rfl]; exact hq) hi (by
    have e1 : (σ ++ l).length = σ.length + n := by simp [hn]
    rw [e1, List.append_assoc, set_ownT rfl]; exact h)
theorem AWp_freezeInO {c : Code} (kq i kp gg sz len : Nat) {bs cs : List AV} (hq : l[kq]? = some (.box bs)) (hi : bs[i]? = some (.arr (σ.length + kp) gg sz 0 len)) (hσ : l[kp]? = some (.arr sz gg cs)) (es : List (List AV)) (hes : es.flatten = cs)
    (hel : ∀ r ∈ es, r.length = sz) (hlen : es.length = len) (hsz : sz ≠ 0) (k : AWp P N c e (σ ++ (l.set kp .dead).set kq (.box (bs.set i (.sl false sz es)))) Q) : AWp P N c e (σ ++ l) Q := by
  have hcl : cs.length = len * sz := by rw [← hes, flatten_len hel, hlen]
  refine AWp_freezeIn (σ.length + kq) i (σ.length + kp) gg sz 0 len (by rw [get_ownT rfl]; exact hq) hi (by rw [get_ownT rfl]; exact hσ) es ?_ hel hlen hsz ?_ (by rw [set_ownT rfl, set_ownT rfl]; exact k)
  · rw [Nat.zero_mul, List.drop_zero, ← hcl, List.take_length]; exact hes
  · rw [Nat.zero_add, hcl]; exact Nat.le_refl _
theorem AWp_freezeBoxO {c : Code} (t k : Nat) {cs : List AV} (hl : lookO e.l t = some (.ptr (σ.length + k) 0)) (hk : l[k]? = some (.box cs)) (h : AWp P N c (e.put (some t) (.pp cs)) (σ ++ l.set k .gone) Q) (ht : t < N) : AWp P N c e (σ ++ l) Q :=
  AWp_freeze t (σ.length + k) 0 hl (by rw [get_own]; exact hk) (by rw [set_own]; exact h) ht
/-- Within a region: a slice of an array of the call's own becomes one that is never written again. -/
theorem AOps_freezeAO {D : List (FuncId × List AV)} {el : List (Nat × AV)} {rest : List Oper} (t k gg sz n : Nat) (es : List (List AV)) (hl : lookO el t = some (.arr (σ.length + k) gg sz 0 n)) (hk : l[k]? = some (.arr sz gg es.flatten)) (hel : ∀ r ∈ es, r.length = sz) (hn : es.length = n) (hsz : sz ≠ 0)
    (h : AOps P N ops rest ⟨D, (t, .sl false sz es) :: el⟩ (σ ++ l.set k .dead) Q) (ht : Nat.blt t N = true) : AOps P N ops rest ⟨D, el⟩ (σ ++ l) Q := fun s0 s a hs g x he => by
  have hσ : s.σ[σ.length + k]? = some (.arr sz gg es.flatten) := by rw [hs, get_own]; exact hk
  have hv := he.tmps t
  rw [show (Env.mk D el).look t = .arr (σ.length + k) gg sz 0 n from lookO_eq hl] at hv
  have hfl : es.flatten.length = n * sz := by rw [flatten_len hel, hn]
  obtain ⟨s', e1, e2, g', x', hv'⟩ := freezeArr_V g hσ hv es (by rw [Nat.zero_mul, List.drop_zero, ← hfl, List.take_length]) hel hn hsz (by rw [Nat.zero_add, hfl]; exact Nat.le_refl _)
  have htN : t < N := by simpa using ht
  have := h s0 s' a (by rw [e1, hs, set_own]) g' (x.trans x') (by
    have h1 := (he.mono g x').put (some t) hv' (fun d hd => by cases hd; exact htN)
    rwa [put_self (by rw [he.size]; exact htN)] at h1)
  rwa [e2] at this
/-- A call's end: what it leaves up to m is the caller's. -/
theorem ResQ_K {n0 : Nat} {ts : List Nat} {el : List (Nat × AV)} {v : AV} {R : Out → List AO → Prop} (m : Nat) (hm : n0 ≤ m) (h : resA ts ⟨[], el⟩ = v) (hc : closed m σ) (hv : v.lt m) (hR : R (.ret v) (σ.take m)) : ResQ n0 ts R .ret ⟨[], el⟩ σ :=
  ⟨rfl, m, hm, hc, by rw [h]; exact hv, by rw [h]; exact hR⟩
theorem set1_app {τ : List AO} {p : Nat} (hp : p < τ.length) (x : AO) : (τ ++ l).set p x = τ.set p x ++ l := List.set_append_left _ _ hp
theorem get_app {τ : List AO} {p : Nat} {x : AO} (h : τ[p]? = some x) : (τ ++ l)[p]? = some x := get_old h
theorem iget_app {m : List (Int × AV)} {k : Int} (h : ∀ q ∈ m, ¬ q.1 = k) (r : List (Int × AV)) : (iget (m ++ r) k).map (·.2) = (iget r k).map (·.2) := by
  induction m with
  | nil => rfl
  | cons a m ih =>
    obtain ⟨x, v⟩ := a
    have h1 : ¬ k = x := fun e => h (x, v) (by simp) e.symm
    rw [List.cons_append, iget, if_neg h1]
    have := ih (fun q hq => h q (by simp [hq]))
    rw [← this]
    cases iget (m ++ r) k <;> rfl
theorem iget_last {m : List (Int × AV)} {k : Int} (h : ∀ q ∈ m, ¬ q.1 = k) (v : AV) : (iget (m ++ [(k, v)]) k).map (·.2) = some v := by
  rw [iget_app h]; simp [iget]
theorem imap_lt (n : Nat) (m : List (Int × AV)) (h : ∀ q ∈ m, q.2.lt n) : AV.ltL n (mflat (imap m)) := by
  induction m with
  | nil => trivial
  | cons a r ih =>
    obtain ⟨k, v⟩ := a
    exact ⟨trivial, h (k, v) (by simp), ih (fun q hq => h q (by simp [hq]))⟩
end Lg
namespace Lg
open Go
/-! ### Operations of a patch, as data -/
structure JOp where
  op : Int
  pa : List BL
  fr : List BL
  v : JV
def ocells (o : JOp) : List AV := .int .i64 o.op :: .sl false 1 (srow o.pa) :: .sl false 1 (srow o.fr) :: vcells o.v
def orows (l : List JOp) : List (List AV) := l.map ocells
theorem ocells_eq (o : JOp) : ocells o = [.int .i64 o.op, .sl false 1 (srow o.pa), .sl false 1 (srow o.fr), .int .i64 o.v.kind, .bool o.v.b, .bool o.v.n.neg, .str o.v.n.digits, .int .i64 o.v.n.exp, .str o.v.s, .sl false 8 (lcells o.v.l), .sl false 9 (mcells o.v.m)] := by
  rw [ocells, vcells_eq]
theorem ocells_len (o : JOp) : (ocells o).length = 11 := by rw [ocells_eq]; rfl
theorem orows_len (l : List JOp) : (orows l).length = l.length := by simp [orows]
theorem orows_get {l : List JOp} {i : Nat} {x : JOp} (h : l[i]? = some x) : (orows l)[i]? = some (ocells x) := by simp [orows, h]
theorem orows_el (l : List JOp) : ∀ r ∈ orows l, r.length = 11 := by
  intro r hr; simp [orows] at hr; obtain ⟨x, _, rfl⟩ := hr; exact ocells_len x
theorem oflat_len [GLay] (l : List JOp) : (orows l).flatten.length = l.length * 11 := by rw [flatten_len (orows_el l), orows_len]
theorem orows_snoc (l : List JOp) (x : JOp) : (orows (l ++ [x])).flatten = (orows l).flatten ++ ocells x := by simp [orows]
theorem orows_app (l m : List JOp) : (orows (l ++ m)).flatten = (orows l).flatten ++ (orows m).flatten := by simp [orows]
section
variable [GLay]
@[simp] theorem ocells_lt (n : Nat) (o : JOp) : AV.ltL n (ocells o) := by
  rw [ocells]; exact ⟨trivial, srow_lt n _, srow_lt n _, vcells_lt n _⟩
@[simp] theorem orows_lt (n : Nat) (l : List JOp) : AV.ltLL n (orows l) := by
  rw [AV.ltLL_iff]; intro e he; simp [orows] at he; obtain ⟨x, _, rfl⟩ := he; exact ocells_lt n x
@[simp] theorem oflat_lt (n : Nat) (l : List JOp) : AV.ltL n (orows l).flatten := by
  rw [AV.ltL_iff]; intro a ha
  obtain ⟨e, he, h⟩ := List.mem_flatten.1 ha
  exact (AV.ltL_iff _ _).1 ((AV.ltLL_iff _ _).1 (orows_lt n l) e he) a h
theorem ocells_ones (o : JOp) : ones (ocells o) = true := by rw [ocells_eq]; rfl
theorem oflat_ones (l : List JOp) : ones (orows l).flatten = true := by
  rw [ones_iff]; intro a ha
  obtain ⟨e, he, h⟩ := List.mem_flatten.1 ha
  simp [orows] at he; obtain ⟨x, _, rfl⟩ := he
  exact (ones_iff _).1 (ocells_ones x) a h
end
/-! ### What a value says as an operation -/
def bOp : ByteArray := ⟨#[111, 112]⟩
def bPath : ByteArray := ⟨#[112, 97, 116, 104]⟩
def bFrom : ByteArray := ⟨#[102, 114, 111, 109]⟩
def bValue : ByteArray := ⟨#[118, 97, 108, 117, 101]⟩
def opL : List (ByteArray × Int) := [(⟨#[97, 100, 100]⟩, 1), (⟨#[114, 101, 109, 111, 118, 101]⟩, 2), (⟨#[114, 101, 112, 108, 97, 99, 101]⟩, 3), (⟨#[109, 111, 118, 101]⟩, 4), (⟨#[99, 111, 112, 121]⟩, 5), (⟨#[116, 101, 115, 116]⟩, 6)]
def opn (s : ByteArray) : Int := ((opL.find? fun q => decide (s = q.1)).map (·.2)).getD 0
def jfD (v : JV) (key : ByteArray) : JV := (jfind v key).getD vz
def jfB (v : JV) (key : ByteArray) : Bool := (jfind v key).isSome
/-- The pointer that a member has; may it be one? -/
def jptN (v : JV) (key : ByteArray) : List BL := if jfB v key = true ∧ (jfD v key).kind = 3 then pN (jfD v key).s.data.toList else []
def jptB (v : JV) (key : ByteArray) : Bool := jfB v key && decide ((jfD v key).kind = 3) && (pE (jfD v key).s.data.toList).isNone
def jopn (v : JV) : Int := if jfB v bOp = true ∧ (jfD v bOp).kind = 3 then opn (jfD v bOp).s else 0
def jop (v : JV) : Option JOp :=
  if jopn v = 0 then none else
  if jptB v bPath = false then none else
  if jopn v = 4 ∨ jopn v = 5 then (if jptB v bFrom = true then some ⟨jopn v, jptN v bPath, jptN v bFrom, vz⟩ else none) else
  if jopn v = 2 then some ⟨2, jptN v bPath, [], vz⟩ else
  if jfB v bValue = true then some ⟨jopn v, jptN v bPath, [], jfD v bValue⟩ else none
/-- The operations ahead of i, if each is one. -/
def jops : List JV → Option (List JOp)
  | [] => some []
  | x :: r => match jop x with
    | none => none
    | some o => (jops r).map (o :: ·)
theorem jops_snoc {l : List JV} {os : List JOp} {x : JV} (h : jops l = some os) : jops (l ++ [x]) = (jop x).map fun o => os ++ [o] := by
  induction l generalizing os with
  | nil => simp [jops] at h; subst h; simp only [List.nil_append, jops]; cases jop x <;> simp
  | cons a r ih =>
    rw [List.cons_append, jops]
    rw [jops] at h
    cases ha : jop a with
    | none => rw [ha] at h; cases h
    | some o =>
      rw [ha] at h
      simp only [Option.map_eq_some_iff] at h
      obtain ⟨os', h1, rfl⟩ := h
      rw [ih h1]
      cases jop x <;> simp
theorem jops_app {l m : List JV} {os ps : List JOp} (h : jops l = some os) (k : jops m = some ps) : jops (l ++ m) = some (os ++ ps) := by
  induction l generalizing os with
  | nil => simp [jops] at h; subst h; simpa using k
  | cons a r ih =>
    rw [List.cons_append, jops]
    rw [jops] at h
    cases ha : jop a with
    | none => rw [ha] at h; cases h
    | some o =>
      rw [ha] at h
      simp only [Option.map_eq_some_iff] at h
      obtain ⟨os', h1, rfl⟩ := h
      rw [ih h1]; rfl
theorem jops_len {l : List JV} {os : List JOp} (h : jops l = some os) : os.length = l.length := by
  induction l generalizing os with
  | nil => simp [jops] at h; subst h; rfl
  | cons a r ih =>
    rw [jops] at h
    cases ha : jop a with
    | none => rw [ha] at h; cases h
    | some o =>
      rw [ha] at h
      simp only [Option.map_eq_some_iff] at h
      obtain ⟨os', h1, rfl⟩ := h
      simp [ih h1]
theorem jops_get {l : List JV} {os : List JOp} (h : jops l = some os) {i : Nat} {x : JV} (hx : l[i]? = some x) : ∃ o, jop x = some o ∧ os[i]? = some o := by
  induction l generalizing os i with
  | nil => simp at hx
  | cons a r ih =>
    rw [jops] at h
    cases ha : jop a with
    | none => rw [ha] at h; cases h
    | some o =>
      rw [ha] at h
      simp only [Option.map_eq_some_iff] at h
      obtain ⟨os', h1, rfl⟩ := h
      cases i with
      | zero => simp at hx; subst hx; exact ⟨o, ha, rfl⟩
      | succ i => simpa using ih h1 (by simpa using hx)
theorem jops_none {l : List JV} {i : Nat} {x : JV} (hx : l[i]? = some x) (h : jop x = none) : jops l = none := by
  induction l generalizing i with
  | nil => simp at hx
  | cons a r ih =>
    rw [jops]
    cases i with
    | zero => simp at hx; subst hx; rw [h]
    | succ i =>
      rw [ih (by simpa using hx)]
      cases jop a <;> rfl
/-- Where the first that is none stands. -/
def jbadI (l : List JV) : Nat := (l.takeWhile fun x => (jop x).isSome).length
/-- What Read tells: the operations; an error's number, and its place. -/
def jrdC (v : JV) : Int := if ¬ v.kind = 4 then 1 else if 100 < v.l.length then 5 else if (jops v.l).isNone then 1 else 0
def jrdA (v : JV) : Int := if ¬ v.kind = 4 then 0 else if 100 < v.l.length then 100 else if (jops v.l).isNone then (jbadI v.l : Int) else 0
def jrd (v : JV) : List JOp := if ¬ v.kind = 4 then [] else if 100 < v.l.length then [] else (jops v.l).getD []
def jrdE (v : JV) : Option (Int × Int) := if jrdC v = 0 then none else some (jrdA v, jrdC v)
theorem jbad_at {l : List JV} {i : Nat} {x : JV} {os : List JOp} (h : jops (l.take i) = some os) (hx : l[i]? = some x) (hn : jop x = none) : jbadI l = i := by
  have hi := (List.getElem?_eq_some_iff.1 hx).1
  have e : l = l.take i ++ (x :: l.drop (i + 1)) := by
    have h0 : l.drop i = x :: l.drop (i + 1) := by
      rw [List.drop_eq_getElem_cons hi]; congr 1
      have := List.getElem?_eq_getElem hi
      rw [hx] at this; exact (Option.some.inj this).symm
    rw [← h0, List.take_append_drop]
  unfold jbadI
  conv => lhs; rw [e]
  rw [List.takeWhile_append_of_pos (fun a ha => ?_), List.takeWhile_cons_of_neg (by simp [hn])]
  · simp; omega
  · obtain ⟨j, hj⟩ := List.getElem?_of_mem ha
    obtain ⟨o, ho, _⟩ := jops_get h hj
    simp [ho]
theorem jrd_ok {v : JV} {os : List JOp} (h4 : v.kind = 4) (hl : v.l.length ≤ 100) (h : jops v.l = some os) : jrd v = os ∧ jrdC v = 0 ∧ jrdA v = 0 := by
  unfold jrd jrdC jrdA
  have h1 : ¬ 100 < v.l.length := by omega
  simp [h4, h1, h]
theorem jrd_bad {v : JV} {i : Nat} {x : JV} {os : List JOp} (h4 : v.kind = 4) (hl : v.l.length ≤ 100) (h : jops (v.l.take i) = some os) (hx : v.l[i]? = some x) (hn : jop x = none) : jrd v = [] ∧ jrdC v = 1 ∧ jrdA v = i := by
  have h0 := jops_none hx hn
  unfold jrd jrdC jrdA
  have h1 : ¬ 100 < v.l.length := by omega
  simp [h4, h1, h0, jbad_at h hx hn]
section
variable [GLay]
/-- What reading one operation answers. -/
def OpR (v : JV) (σ : List AO) : Out → List AO → Prop := fun o σ' => σ' = σ ∧ ∃ r x b, o = .ret (.tup [.agg r, .bool b]) ∧ AVleL r (ocells x) ∧ (b = true → jop v = some x) ∧ (b = false → jop v = none)
def OpS (v : JV) (σ : List AO) : Out → List AO → Prop := fun o σ' => σ' = σ ∧ ∃ x b, o = .ret (.tup [.agg (ocells x), .bool b]) ∧ (b = true → jop v = some x) ∧ (b = false → jop v = none)
theorem OpR.strong {P : Program} {f : FuncId} {args : List AV} {v : JV} {σ : List AO} (h : ACalls P f args σ (OpR v σ)) : ACalls P f args σ (OpS v σ) :=
  h.weak (fun w σ' hr => by
    obtain ⟨rfl, r, x, b, h1, h2, h3, h4⟩ := hr
    injection h1 with h1
    subst h1
    exact ⟨_, AVle.tup (r := [.agg (ocells x), .bool b]) ⟨AVle.agg h2, AVle.refl _, trivial⟩, rfl, x, b, rfl, h3, h4⟩) (fun w σ' hr => by obtain ⟨_, r, x, b, h1, _⟩ := hr; cases h1)
theorem oz : AVleL [.int .i64 0, .nils, .nils, .int .i64 0, .bool false, .bool false, .str ⟨#[]⟩, .int .i64 0, .str ⟨#[]⟩, .nils, .nils] (ocells ⟨0, [], [], vz⟩) := by
  rw [ocells_eq]
  exact ⟨AVle.refl _, AVle.nils false 1, AVle.nils false 1, AVle.refl _, AVle.refl _, AVle.refl _, AVle.refl _, AVle.refl _, AVle.refl _, nilL, nilM, trivial⟩
end
end Lg
namespace Lg
open Go
def pEi (s : BL) : Int := match pE s with
  | none => -1
  | some i => (i : Int)
theorem pEi_n {s : BL} (h : pE s = none) : pEi s = -1 := by unfold pEi; rw [h]
theorem pEi_s {s : BL} {i : Nat} (h : pE s = some i) : pEi s = i := by unfold pEi; rw [h]
theorem pN_bad {s : BL} {i : Nat} (h0 : ¬ s = []) (h : pE s = some i) : pN s = [] := by unfold pN; rw [if_neg h0, h]; rfl
theorem sflat_len (L : List BL) : (srow L).flatten.length = L.length := by rw [srow_flat, List.length_map]
theorem srow_snoc (L : List BL) (x : BL) : (srow (L ++ [x])).flatten = (srow L).flatten ++ [.str (ba x)] := by rw [srow_flat, srow_flat, List.map_append]; rfl
theorem srow_last (ps : List BL) (q : BL) : (srow (ps ++ [q])).flatten[(ps ++ [q]).length - 1]? = some (.str (ba q)) := by
  rw [srow_snoc, List.length_append]
  rw [List.getElem?_append_right (by rw [sflat_len]; simp), sflat_len]
  simp
theorem srow_setl (ps : List BL) (q r : BL) : (srow (ps ++ [q])).flatten.set ((ps ++ [q]).length - 1) (.str (ba r)) = (srow (ps ++ [r])).flatten := by
  rw [srow_snoc, srow_snoc, List.length_append]
  rw [List.set_append_right _ _ (by rw [sflat_len]; simp), sflat_len]
  simp
end Lg
namespace Lg
open Go Go.RowKit
variable [GLay] {P : Program} {N : Nat} {σ l : List AO} {e : Env} {Q : QA} {o : Oper}
/-- A nil slice, asked whether it is nil. -/
theorem op_eqNils {T T' E : TypeId} {x : Operand} (ho : o.op = .binOp .eql T x (.const (.slice none 0 0)) T') (hu : P.underlying T = some (.slice E)) (hx : opO e x = some .nils) : AOp P σ e o (.bool true) σ :=
  op_bin ho (opO_eq hx) rfl fun s cx cy _ _ h1 h2 => by
    have e1 := h1.inv_nils
    have e2 : cy = .slice none 0 0 := h2.inv_nils
    subst e1; subst e2
    have he : ∀ d, (Go.Op.equalIn (d + 1) T (.slice none 0 0) (.slice none 0 0)).run P s.w = .ok true s.w := fun d => by simp [Go.Op.equalIn, run_underlying hu]
    have he' : (Go.Op.equal T (.slice none 0 0) (.slice none 0 0)).run P s.w = .ok true s.w := he 9999
    exact ⟨.bool true, by simp only [binOp]; simp [he'], .bool _, by simp [eqGuard]⟩
/-- Two objects of the caller's are written; what is the call's own stays behind. -/
theorem set2_app {τ l : List AO} {p q : Nat} (hp : p < τ.length) (hq : q < τ.length) (x y : AO) : ((τ ++ l).set p x).set q y = (τ.set p x).set q y ++ l := by
  rw [List.set_append_left _ _ hp, List.set_append_left _ _ (by simpa using hq)]
theorem set2_len {τ : List AO} {p q n : Nat} {x y : AO} (h : τ.length = n) : ((τ.set p x).set q y).length = n := by simpa using h
theorem set2_set {τ : List AO} {p q : Nat} (h : p ≠ q) (x y x' y' : AO) : (((τ.set p x).set q y).set p x').set q y' = (τ.set p x').set q y' := by
  rw [List.set_comm _ _ (Ne.symm h), List.set_set, List.set_set]
end Lg
namespace Lg
open Go
/-! ### Trees (layer 16): the cells of a node that is done, its Ids one behind the other -/
def krow (m : List (ByteArray × JV)) : List (List AV) := m.map fun q => [AV.str q.1]
def bare8 (k : Int) (b : Bool) (n : JNum) (s : ByteArray) : List AV := [.int .i64 k, .bool b, .bool n.neg, .str n.digits, .int .i64 n.exp, .str s, .nils, .nils]
mutual
def tcells : JV → Int → List AV
  | .mk k b n s l m, id => .int .i64 id :: (bare8 k b n s ++ [.sl false 1 (krow m), .sl false 1 (tL l (id + 1) ++ tM m (id + 1 + lsize l))])
def tL : List JV → Int → List (List AV)
  | [], _ => []
  | x :: r, id => [.pp (tcells x id)] :: tL r (id + jsize x)
def tM : List (ByteArray × JV) → Int → List (List AV)
  | [], _ => []
  | (_, x) :: r, id => [.pp (tcells x id)] :: tM r (id + jsize x)
end
theorem tcells_eq (v : JV) (id : Int) : tcells v id = .int .i64 id :: (bare8 v.kind v.b v.n v.s ++ [.sl false 1 (krow v.m), .sl false 1 (tL v.l (id + 1) ++ tM v.m (id + 1 + lsize v.l))]) := by
  cases v; simp [tcells, JV.kind, JV.b, JV.n, JV.s, JV.l, JV.m]
theorem tL_snoc (x : JV) : ∀ (l : List JV) (id : Int), tL (l ++ [x]) id = tL l id ++ [[.pp (tcells x (id + lsize l))]]
  | [], id => by simp [tL, lsize]
  | y :: r, id => by
    rw [List.cons_append, tL, tL_snoc x r, tL, lsize, List.cons_append]
    rw [show id + jsize y + lsize r = id + (jsize y + lsize r) by omega]
theorem tM_snoc (q : ByteArray × JV) : ∀ (m : List (ByteArray × JV)) (id : Int), tM (m ++ [q]) id = tM m id ++ [[.pp (tcells q.2 (id + msize m))]]
  | [], id => by obtain ⟨k, x⟩ := q; simp [tM, msize]
  | (a, y) :: r, id => by
    rw [List.cons_append, tM, tM_snoc q r, tM, msize, List.cons_append]
    rw [show id + jsize y + msize r = id + (jsize y + msize r) by omega]
theorem tL_len : ∀ (l : List JV) (id : Int), (tL l id).length = l.length
  | [], _ => rfl
  | x :: r, id => by rw [tL, List.length_cons, tL_len r, List.length_cons]
theorem tM_len : ∀ (m : List (ByteArray × JV)) (id : Int), (tM m id).length = m.length
  | [], _ => rfl
  | (a, x) :: r, id => by rw [tM, List.length_cons, tM_len r, List.length_cons]
theorem tL_get {x : JV} : ∀ {l : List JV} {i : Nat} (id : Int), l[i]? = some x → (tL l id)[i]? = some [.pp (tcells x (id + lsize (l.take i)))]
  | [], i, id, h => by simp at h
  | y :: r, 0, id, h => by simp at h; subst h; simp [tL, lsize]
  | y :: r, i + 1, id, h => by
    rw [tL, List.getElem?_cons_succ, tL_get (id + jsize y) (by simpa using h), List.take_succ_cons, lsize]
    rw [show id + jsize y + lsize (r.take i) = id + (jsize y + lsize (r.take i)) by omega]
theorem tM_get {q : ByteArray × JV} : ∀ {m : List (ByteArray × JV)} {i : Nat} (id : Int), m[i]? = some q → (tM m id)[i]? = some [.pp (tcells q.2 (id + msize (m.take i)))]
  | [], i, id, h => by simp at h
  | (a, y) :: r, 0, id, h => by simp at h; subst h; simp [tM, msize]
  | (a, y) :: r, i + 1, id, h => by
    rw [tM, List.getElem?_cons_succ, tM_get (id + jsize y) (by simpa using h), List.take_succ_cons, msize]
    rw [show id + jsize y + msize (r.take i) = id + (jsize y + msize (r.take i)) by omega]
end Lg
namespace Lg
open Go
/-! ### What the law's Seen has seen of a tree -/
mutual
def seenV : JV → Int → List (Int × AV)
  | .mk k b n s l m, id => seenL l (id + 1) ++ seenM m (id + 1 + lsize l) ++ [(id, .agg (vcells (.mk k b n s l m)))]
def seenL : List JV → Int → List (Int × AV)
  | [], _ => []
  | x :: r, id => seenV x id ++ seenL r (id + jsize x)
def seenM : List (ByteArray × JV) → Int → List (Int × AV)
  | [], _ => []
  | (_, x) :: r, id => seenV x id ++ seenM r (id + jsize x)
end
theorem seenV_eq (v : JV) (id : Int) : seenV v id = seenL v.l (id + 1) ++ seenM v.m (id + 1 + lsize v.l) ++ [(id, .agg (vcells v))] := by
  cases v; simp [seenV, JV.l, JV.m]
theorem seenL_snoc (x : JV) : ∀ (l : List JV) (id : Int), seenL (l ++ [x]) id = seenL l id ++ seenV x (id + lsize l)
  | [], id => by simp [seenL, lsize]
  | y :: r, id => by
    rw [List.cons_append, seenL, seenL_snoc x r, seenL, lsize, List.append_assoc]
    rw [show id + jsize y + lsize r = id + (jsize y + lsize r) by omega]
theorem seenM_snoc (q : ByteArray × JV) : ∀ (m : List (ByteArray × JV)) (id : Int), seenM (m ++ [q]) id = seenM m id ++ seenV q.2 (id + msize m)
  | [], id => by obtain ⟨k, x⟩ := q; simp [seenM, msize]
  | (a, y) :: r, id => by
    rw [List.cons_append, seenM, seenM_snoc q r, seenM, msize, List.append_assoc]
    rw [show id + jsize y + msize r = id + (jsize y + msize r) by omega]
mutual
theorem seenV_key : ∀ (v : JV) (id : Int), ∀ q ∈ seenV v id, id ≤ q.1 ∧ q.1 < id + jsize v
  | .mk k b n s l m, id => fun q hq => by
    have hl := lsize_nn l
    have hm := msize_nn m
    rw [seenV] at hq
    rw [jsize]
    rcases List.mem_append.1 hq with hq | hq
    · rcases List.mem_append.1 hq with hq | hq
      · have := seenL_key l _ q hq; omega
      · have := seenM_key m _ q hq; omega
    · rw [List.mem_singleton] at hq; subst hq; simp only; omega
theorem seenL_key : ∀ (l : List JV) (id : Int), ∀ q ∈ seenL l id, id ≤ q.1 ∧ q.1 < id + lsize l
  | [], id => fun q hq => by simp [seenL] at hq
  | x :: r, id => fun q hq => by
    have hr := lsize_nn r
    have hx := jsize_pos x
    rw [seenL] at hq
    rw [lsize]
    rcases List.mem_append.1 hq with hq | hq
    · have := seenV_key x _ q hq; omega
    · have := seenL_key r _ q hq; omega
theorem seenM_key : ∀ (m : List (ByteArray × JV)) (id : Int), ∀ q ∈ seenM m id, id ≤ q.1 ∧ q.1 < id + msize m
  | [], id => fun q hq => by simp [seenM] at hq
  | (a, x) :: r, id => fun q hq => by
    have hr := msize_nn r
    have hx := jsize_pos x
    rw [seenM] at hq
    rw [msize]
    rcases List.mem_append.1 hq with hq | hq
    · have := seenV_key x _ q hq; omega
    · have := seenM_key r _ q hq; omega
end
mutual
theorem seenV_len : ∀ (v : JV) (id : Int), ((seenV v id).length : Int) = jsize v
  | .mk k b n s l m, id => by rw [seenV, jsize, List.length_append, List.length_append]; have := seenL_len l (id + 1); have := seenM_len m (id + 1 + lsize l); simp only [List.length_cons, List.length_nil]; omega
theorem seenL_len : ∀ (l : List JV) (id : Int), ((seenL l id).length : Int) = lsize l
  | [], id => rfl
  | x :: r, id => by rw [seenL, lsize, List.length_append]; have := seenV_len x id; have := seenL_len r (id + jsize x); omega
theorem seenM_len : ∀ (m : List (ByteArray × JV)) (id : Int), ((seenM m id).length : Int) = msize m
  | [], id => rfl
  | (a, x) :: r, id => by rw [seenM, msize, List.length_append]; have := seenV_len x id; have := seenM_len r (id + jsize x); omega
end
section
variable [GLay]
mutual
theorem seenV_lt (n : Nat) : ∀ (v : JV) (id : Int), ∀ q ∈ seenV v id, q.2.lt n
  | .mk k b nn s l m, id => fun q hq => by
    rw [seenV] at hq
    rcases List.mem_append.1 hq with hq | hq
    · rcases List.mem_append.1 hq with hq | hq
      · exact seenL_lt n l _ q hq
      · exact seenM_lt n m _ q hq
    · rw [List.mem_singleton] at hq; subst hq; simp [AV.lt]
theorem seenL_lt (n : Nat) : ∀ (l : List JV) (id : Int), ∀ q ∈ seenL l id, q.2.lt n
  | [], id => fun q hq => by simp [seenL] at hq
  | x :: r, id => fun q hq => by
    rw [seenL] at hq
    rcases List.mem_append.1 hq with hq | hq
    · exact seenV_lt n x _ q hq
    · exact seenL_lt n r _ q hq
theorem seenM_lt (n : Nat) : ∀ (m : List (ByteArray × JV)) (id : Int), ∀ q ∈ seenM m id, q.2.lt n
  | [], id => fun q hq => by simp [seenM] at hq
  | (a, x) :: r, id => fun q hq => by
    rw [seenM] at hq
    rcases List.mem_append.1 hq with hq | hq
    · exact seenV_lt n x _ q hq
    · exact seenM_lt n r _ q hq
end
/-- A tree's value, once it was seen. -/
theorem seen_get {M : List (Int × AV)} {v : JV} {id : Int} (h : ∀ q ∈ M, q.1 < id) : (iget (M ++ seenV v id) id).map (·.2) = some (.agg (vcells v)) := by
  rw [seenV_eq, ← List.append_assoc]
  refine iget_last (fun q hq => ?_) _
  rcases List.mem_append.1 hq with hq | hq
  · have := h q hq; omega
  · rcases List.mem_append.1 hq with hq | hq
    · have := seenL_key v.l _ q hq; omega
    · have := seenM_key v.m _ q hq; have := lsize_nn v.l; omega
theorem seen_below {M : List (Int × AV)} {v : JV} {id : Int} (h : ∀ q ∈ M, q.1 < id) : ∀ q ∈ M ++ seenV v id, q.1 < id + jsize v := fun q hq => by
  have := jsize_pos v
  rcases List.mem_append.1 hq with hq | hq
  · have := h q hq; omega
  · exact (seenV_key v id q hq).2
end
/-- The Ids of a tree. -/
def idrow (id : Int) (n : Nat) : List (List AV) := (List.range n).map fun i => [AV.int .i64 (id + (i : Nat))]
theorem idrow_len (id : Int) (n : Nat) : (idrow id n).length = n := by simp [idrow]
theorem idrow_app (id : Int) (a b : Nat) : idrow id a ++ idrow (id + a) b = idrow id (a + b) := by
  unfold idrow
  rw [List.range_add, List.map_append, List.map_map]
  congr 1
  refine List.map_congr_left fun i _ => ?_
  simp only [Function.comp_apply]
  rw [show id + (a : Int) + (i : Int) = id + ((a + i : Nat) : Int) by omega]
theorem idrow_get {id : Int} {n i : Nat} (h : i < n) : (idrow id n)[i]? = some [.int .i64 (id + (i : Nat))] := by
  simp [idrow, h]
theorem idrow_el (id : Int) (n : Nat) : ∀ r ∈ idrow id n, r.length = 1 := by
  intro r hr; simp [idrow] at hr; obtain ⟨i, _, rfl⟩ := hr; rfl
theorem idrow_flat (id : Int) (n : Nat) : (idrow id n).flatten = (List.range n).map fun i => AV.int .i64 (id + (i : Nat)) := by
  unfold idrow
  induction (List.range n) with
  | nil => rfl
  | cons a r ih => simp [ih]
@[simp] theorem idrow_lt (m : Nat) (id : Int) (n : Nat) : AV.ltLL m (idrow id n) := by
  rw [AV.ltLL_iff]; intro e he; simp [idrow] at he; obtain ⟨i, _, rfl⟩ := he; exact ⟨trivial, trivial⟩
@[simp] theorem idflat_lt (m : Nat) (id : Int) (n : Nat) : AV.ltL m (idrow id n).flatten := by
  rw [idrow_flat, AV.ltL_iff]; intro a ha; simp at ha; obtain ⟨i, _, rfl⟩ := ha; trivial
theorem idones [GLay] (id : Int) (n : Nat) : ones (idrow id n).flatten = true := by
  rw [idrow_flat, ones_iff]; intro a ha; simp at ha; obtain ⟨i, _, rfl⟩ := ha; rfl
mutual
theorem tcells_lt (m : Nat) : ∀ (v : JV) (id : Int), AV.ltL m (tcells v id)
  | .mk k b n s l q, id => by
    rw [tcells, bare8]
    refine ⟨trivial, trivial, trivial, trivial, trivial, trivial, trivial, trivial, trivial, ?_, ?_, trivial⟩
    · show AV.ltLL m (krow q)
      rw [AV.ltLL_iff]; intro e he; simp [krow] at he; obtain ⟨a, b, _, rfl⟩ := he; exact ⟨trivial, trivial⟩
    · show AV.ltLL m (tL l (id + 1) ++ tM q (id + 1 + lsize l))
      rw [AV.ltLL_iff]; intro e he
      rcases List.mem_append.1 he with he | he
      · exact (AV.ltLL_iff _ _).1 (tL_lt m l _) e he
      · exact (AV.ltLL_iff _ _).1 (tM_lt m q _) e he
theorem tL_lt (m : Nat) : ∀ (l : List JV) (id : Int), AV.ltLL m (tL l id)
  | [], id => trivial
  | x :: r, id => by rw [tL]; exact ⟨⟨tcells_lt m x id, trivial⟩, tL_lt m r _⟩
theorem tM_lt (m : Nat) : ∀ (l : List (ByteArray × JV)) (id : Int), AV.ltLL m (tM l id)
  | [], id => trivial
  | (a, x) :: r, id => by rw [tM]; exact ⟨⟨tcells_lt m x id, trivial⟩, tM_lt m r _⟩
end
end Lg
namespace Lg
open Go
/-! ### How deep what is read may be -/
theorem ldep_snoc (l : List JV) (x : JV) : ldep (l ++ [x]) = max (ldep l) (jdepth x) := by
  induction l with
  | nil => simp only [List.nil_append, ldep]
  | cons a r ih => simp only [List.cons_append, ldep, ih]; omega
theorem mdep_ins [GLay] (m : List (ByteArray × JV)) (key : ByteArray) (x : JV) : mdep (rins m key x) = max (mdep m) (jdepth x) := by
  induction m with
  | nil => rw [rins_nil]; simp only [mdep]
  | cons p m ih =>
    obtain ⟨k, v⟩ := p
    rw [rins_cons]
    split
    · simp only [mdep, ih]; omega
    · simp only [mdep]
theorem ldep_mem {l : List JV} {i : Nat} {x : JV} (h : l[i]? = some x) : jdepth x ≤ ldep l := by
  induction l generalizing i with
  | nil => simp at h
  | cons a r ih =>
    cases i with
    | zero => simp at h; subst h; simp only [ldep]; omega
    | succ i => have := ih (i := i) (by simpa using h); simp only [ldep]; omega
theorem mdep_mem {m : List (ByteArray × JV)} {i : Nat} {q : ByteArray × JV} (h : m[i]? = some q) : jdepth q.2 ≤ mdep m := by
  induction m generalizing i with
  | nil => simp at h
  | cons a r ih =>
    obtain ⟨k, y⟩ := a
    cases i with
    | zero => simp at h; subst h; simp only [mdep]; omega
    | succ i => have := ih (i := i) (by simpa using h); simp only [mdep]; omega
/-- The depth of what was read without an error. -/
def DD (r : RS) (x : JV × RS) : Prop := r.deep ≤ 32 → x.2.bad = 0 → jdepth x.1 + r.deep ≤ 32
section
variable [GLay]
variable {rv : RS → JV × RS} {s : ByteArray} (hs : s.size ≤ 100000) (hrv : ∀ r, ROK s r → VR s r (rv r)) (hd : ∀ r, ROK s r → DD r (rv r))
include hrv hd
theorem rarrF_dep : ∀ (k : Nat) (l : List JV) (r : RS), ROK s r → r.deep ≤ 32 → (r.bad = 0 → ldep l + r.deep ≤ 32) → (rarrF rv s k l r).2.bad = 0 → ldep (rarrF rv s k l r).1 + r.deep ≤ 32 := by
  intro k
  induction k with
  | zero => intro l r h h1 h2 h3; exact h2 h3
  | succ k ih =>
    intro l r h h1 h2 h3
    rw [rarrF] at h3 ⊢
    have hv := hrv r h
    split at h3
    · rename_i hc
      rw [if_pos hc]
      split at h3
      · rename_i hp
        rw [if_pos hp]
        have hi := rinc_to hv.fwd.ok (by omega)
        have e : (rinc (rv r).2).deep = r.deep := hv.deep
        have := ih (l ++ [(rv r).1]) (rinc (rv r).2) hi.ok (by omega) (fun e2 => by
          rw [ldep_snoc]
          have := hd r h h1 e2
          have := h2 (hv.fwd.b e2)
          omega) h3
        omega
      · rename_i hp
        rw [if_neg hp, ldep_snoc]
        have := hd r h h1 h3
        have := h2 (hv.fwd.b h3)
        omega
    · rename_i hc
      rw [if_neg hc]; exact h2 h3
omit hd in
theorem ropen_dep {r : RS} (hb : r.bad = 0) (h : (ropen s r).bad = 0) (h1 : r.deep ≤ 32) : r.deep + 1 ≤ 32 := by
  by_cases e : r.deep = 32
  · simp [ropen, e, hb] at h
  · omega
include hs
theorem rarr_dep {r : RS} (h : ROK s r) (hb : r.bad = 0) (ha : r.a < s.size) : DD r (rarr rv s r) := fun h1 h2 => by
  obtain ⟨o1, o2, o3⟩ := ropen_to h hb ha
  obtain ⟨q1, q2, q3, q4, q5⟩ := rarrF_ok hrv (s.size + 2) [] (ropen s r) o1.ok trivial (fun _ => trivial)
  obtain ⟨w1, w2⟩ := rwant_to (lit := rb1) q1.ok
  have h3 : (rarrF rv s (s.size + 2) [] (ropen s r)).2.bad = 0 := w1.b h2
  have h4 := ropen_dep hrv hb (q1.b h3) h1
  have h5 := rarrF_dep hrv hd (s.size + 2) [] (ropen s r) o1.ok (by omega) (fun _ => by simp only [ldep]; omega) h3
  unfold rarr
  show jdepth (.mk 4 false {} e0 _ []) + _ ≤ _
  rw [jdepth, if_pos (.inl rfl), mdep]
  have := ldep_nn (rarrF rv s (s.size + 2) [] (ropen s r)).1
  omega
theorem robjF_dep : ∀ (k : Nat) (m : List (ByteArray × JV)) (r : RS), ROK s r → r.deep ≤ 32 → (r.bad = 0 → mdep m + r.deep ≤ 32) → (robjF rv s k m r).2.bad = 0 → mdep (robjF rv s k m r).1 + r.deep ≤ 32 := by
  intro k
  induction k with
  | zero => intro m r h h1 h2 h3; exact h2 h3
  | succ k ih =>
    intro m r h h1 h2 h3
    rw [robjF] at h3 ⊢
    obtain ⟨k1, k2, k3, k4, k5⟩ := rkey_ok hrv (m := m) h
    have hv := hrv _ k1.ok
    split at h3
    · rename_i hc
      rw [if_pos hc]
      split at h3
      · rename_i hp
        rw [if_pos hp]
        have hi := rinc_to hv.fwd.ok (by omega)
        have e : (rinc (rv (rkey s m r).2).2).deep = r.deep := hv.deep.trans k2
        have := ih (rins m (rkey s m r).1 (rv (rkey s m r).2).1) (rinc (rv (rkey s m r).2).2) hi.ok (by omega) (fun e2 => by
          rw [mdep_ins]
          have := hd _ k1.ok (by omega) e2
          have := h2 (k1.b (hv.fwd.b e2))
          omega) h3
        omega
      · rename_i hp
        rw [if_neg hp, mdep_ins]
        have := hd _ k1.ok (by omega) h3
        have := h2 (k1.b (hv.fwd.b h3))
        omega
    · rename_i hc
      rw [if_neg hc]; exact h2 h3
theorem robj_dep {r : RS} (h : ROK s r) (hb : r.bad = 0) (ha : r.a < s.size) : DD r (robj rv s r) := fun h1 h2 => by
  obtain ⟨o1, o2, o3⟩ := ropen_to h hb ha
  obtain ⟨q1, q2, q3, q4, q5⟩ := robjF_ok hs hrv (s.size + 2) [] (ropen s r) o1.ok trivial (fun _ => ⟨fun q hq => by simp at hq, List.Pairwise.nil⟩)
  obtain ⟨w1, w2⟩ := rwant_to (lit := rb2) q1.ok
  have h3 : (robjF rv s (s.size + 2) [] (ropen s r)).2.bad = 0 := w1.b h2
  have h4 := ropen_dep hrv hb (q1.b h3) h1
  have h5 := robjF_dep hs hrv hd (s.size + 2) [] (ropen s r) o1.ok (by omega) (fun _ => by simp only [mdep]; omega) h3
  unfold robj
  show jdepth (.mk 5 false {} e0 [] _) + _ ≤ _
  rw [jdepth, if_pos (.inr rfl), ldep]
  have := mdep_nn (robjF rv s (s.size + 2) [] (ropen s r)).1
  omega
theorem rone_dep {r : RS} (h : ROK s r) : DD r (rone rv s r) := by
  have hz : ∀ {k : Int} {b : Bool} {n : JNum} {t : ByteArray} {r' : RS}, ¬ (k = 4 ∨ k = 5) → DD r (.mk k b n t [] [], r') := fun {k b n t r'} hk h1 _ => by
    show jdepth (.mk k b n t [] []) + _ ≤ _
    rw [jdepth, if_neg hk]; omega
  unfold rone
  split
  · rename_i hp; have := pk_yes (s := s) (a := r.a) (bad := r.bad) (by omega); exact robj_dep hs hrv hd h this.1 this.2.1
  split
  · rename_i hp; have := pk_yes (s := s) (a := r.a) (bad := r.bad) (by omega); exact rarr_dep hs hrv hd h this.1 this.2.1
  split
  · exact hz (by decide)
  split
  · exact hz (by decide)
  split
  · exact hz (by decide)
  split
  · exact hz (by decide)
  split
  · exact hz (by decide)
  · exact hz (by decide)
end
section
variable [GLay]
theorem rval_dep {s : ByteArray} (hs : s.size ≤ 100000) : ∀ (n : Nat) (r : RS), ROK s r → DD r (rval n s r) := by
  intro n
  induction n with
  | zero => intro r h h1 h2; show jdepth (.mk 0 false {} ⟨#[]⟩ [] []) + _ ≤ _; rw [jdepth, if_neg (by decide)]; omega
  | succ n ih =>
    intro r h h1 h2
    have b1 := rblank_to h
    have hv := rone_ok hs (rval_ok hs n) b1.ok
    have b2 := rblank_to hv.fwd.ok
    rw [rval] at h2 ⊢
    exact rone_dep hs (rval_ok hs n) ih b1.ok h1 (b2.b h2)
theorem rParse_dep (s : ByteArray) (h : (rParse s).2.1 = 0) : jdepth (rParse s).1 ≤ 32 := by
  unfold rParse at h ⊢
  split at h
  · cases h
  · rename_i hs
    split at h
    · rename_i hb
      rw [if_neg hs, if_pos hb]
      have h0 : ROK s ⟨0, 0, 0, 0⟩ := ⟨Nat.zero_le _, fun _ => Nat.zero_le _, Int.le_refl _, Int.le_refl _⟩
      have hb2 : (rpar s).2.bad = 0 := by
        unfold rparE at hb
        split at hb
        · exact absurd hb (rfail_bad (by decide))
        · exact hb
      have := rval_dep (by omega) (s.size + 2) ⟨0, 0, 0, 0⟩ h0 (by decide) hb2
      have e : (rval (s.size + 2) s ⟨0, 0, 0, 0⟩) = rpar s := rfl
      rw [e] at this; dsimp only at this ⊢; omega
    · rename_i hb; exact absurd h hb
theorem rValue_dep (s : ByteArray) (h : (rValue s).2 ≠ 0) : jdepth (rValue s).1 ≤ 32 := by
  unfold rValue at h ⊢
  split
  · rename_i h1; rw [if_pos h1] at h; exact absurd rfl h
  rename_i h1
  rw [if_neg h1] at h
  split
  · rename_i h2; exact rParse_dep s h2
  · rename_i h2; rw [if_neg h2] at h; exact absurd rfl h
end
/-! ### A node's kids -/
def jkids (v : JV) : List JV := v.l ++ v.m.map (·.2)
theorem tLM (m : List (ByteArray × JV)) : ∀ (l : List JV) (id : Int), tL l id ++ tM m (id + lsize l) = tL (l ++ m.map (·.2)) id
  | [], id => by
    simp only [tL, lsize, List.nil_append, Int.add_zero]
    induction m generalizing id with
    | nil => rfl
    | cons q r ih => obtain ⟨k, x⟩ := q; simp only [tM, List.map_cons, tL, ih]
  | y :: r, id => by
    simp only [List.cons_append, tL]
    rw [← tLM m r (id + jsize y), lsize, show id + (jsize y + lsize r) = id + jsize y + lsize r by omega]
theorem tcells_k (v : JV) (id : Int) : tcells v id = .int .i64 id :: (bare8 v.kind v.b v.n v.s ++ [.sl false 1 (krow v.m), .sl false 1 (tL (jkids v) (id + 1))]) := by
  rw [tcells_eq, tLM]; rfl
theorem tcells_x (v : JV) (id : Int) : tcells v id = [.int .i64 id, .int .i64 v.kind, .bool v.b, .bool v.n.neg, .str v.n.digits, .int .i64 v.n.exp, .str v.s, .nils, .nils, .sl false 1 (krow v.m), .sl false 1 (tL (jkids v) (id + 1))] := tcells_k v id
theorem lsize_kids (m : List (ByteArray × JV)) : ∀ l : List JV, lsize (l ++ m.map (·.2)) = lsize l + msize m
  | [] => by
    simp only [List.nil_append, lsize, Int.zero_add]
    induction m with
    | nil => rfl
    | cons q r ih => obtain ⟨k, x⟩ := q; simp only [List.map_cons, lsize, msize, ih]
  | y :: r => by simp only [List.cons_append, lsize, lsize_kids m r]; omega
theorem jsize_kids (v : JV) : jsize v = 1 + lsize (jkids v) := by rw [jsize_eq, jkids, lsize_kids]; omega
theorem tLf_len (l : List JV) (id : Int) : (tL l id).flatten.length = l.length := by
  induction l generalizing id with
  | nil => rfl
  | cons a r ih => simp only [tL, List.flatten_cons, List.length_append, ih, List.length_cons, List.length_nil]; omega
theorem tMf_len (m : List (ByteArray × JV)) (id : Int) : (tM m id).flatten.length = m.length := by
  induction m generalizing id with
  | nil => rfl
  | cons a r ih => obtain ⟨k, x⟩ := a; simp only [tM, List.flatten_cons, List.length_append, ih, List.length_cons, List.length_nil]; omega
theorem tL_el (l : List JV) (id : Int) : ∀ r ∈ tL l id, r.length = 1 := by
  induction l generalizing id with
  | nil => intro r hr; simp [tL] at hr
  | cons a r ih =>
    intro x hx
    rw [tL] at hx
    rcases List.mem_cons.1 hx with rfl | h
    · rfl
    · exact ih _ x h
theorem tM_el (m : List (ByteArray × JV)) (id : Int) : ∀ r ∈ tM m id, r.length = 1 := by
  induction m generalizing id with
  | nil => intro r hr; simp [tM] at hr
  | cons a r ih =>
    obtain ⟨k, y⟩ := a
    intro x hx
    rw [tM] at hx
    rcases List.mem_cons.1 hx with rfl | h
    · rfl
    · exact ih _ x h
theorem krow_len (m : List (ByteArray × JV)) : (krow m).length = m.length := by simp [krow]
theorem krow_get {m : List (ByteArray × JV)} {i : Nat} {q : ByteArray × JV} (h : m[i]? = some q) : (krow m)[i]? = some [.str q.1] := by simp [krow, h]
theorem krow_el (m : List (ByteArray × JV)) : ∀ r ∈ krow m, r.length = 1 := by intro r hr; simp [krow] at hr; obtain ⟨_, _, _, rfl⟩ := hr; rfl
theorem krow_snoc (m : List (ByteArray × JV)) (q : ByteArray × JV) : (krow (m ++ [q])).flatten = (krow m).flatten ++ [.str q.1] := by simp [krow]
theorem kflat_len (m : List (ByteArray × JV)) : (krow m).flatten.length = m.length := by
  induction m with
  | nil => rfl
  | cons a r ih =>
    have : krow (a :: r) = [.str a.1] :: krow r := rfl
    rw [this]; simp only [List.flatten_cons, List.length_append, ih, List.length_cons, List.length_nil]; omega
@[simp] theorem krow_lt (n : Nat) (m : List (ByteArray × JV)) : AV.ltLL n (krow m) := by
  rw [AV.ltLL_iff]; intro e he; simp [krow] at he; obtain ⟨a, b, _, rfl⟩ := he; exact ⟨trivial, trivial⟩
theorem flat_lt {n : Nat} {es : List (List AV)} (h : AV.ltLL n es) : AV.ltL n es.flatten := by
  rw [AV.ltL_iff]; intro a ha
  obtain ⟨e, he, h2⟩ := List.mem_flatten.1 ha
  exact (AV.ltL_iff _ _).1 ((AV.ltLL_iff _ _).1 h e he) a h2
theorem flat_snoc {α : Type} (a b : List (List α)) (c : List α) : (a ++ (b ++ [c])).flatten = (a ++ b).flatten ++ c := by simp
theorem ltLL_app (n : Nat) (a b : List (List AV)) : AV.ltLL n (a ++ b) ↔ AV.ltLL n a ∧ AV.ltLL n b := by
  induction a with
  | nil => simp [AV.ltLL]
  | cons x a ih => simp only [List.cons_append, AV.ltLL, ih, and_assoc]
attribute [simp] tcells_lt tL_lt tM_lt
section
variable [GLay]
theorem may_nol {v : JV} (h : jmay v) (hk : ¬ v.kind = 4) : v.l = [] := by
  have hb := ((jmay_eq v).1 h).1.2.2.1
  unfold jbare at hb
  simp only [hk, Bool.and_eq_true, Bool.or_eq_true, decide_eq_true_eq, or_false] at hb
  exact List.length_eq_zero_iff.1 hb.2.1
theorem may_nom {v : JV} (h : jmay v) (hk : ¬ v.kind = 5) : v.m = [] := by
  have hb := ((jmay_eq v).1 h).1.2.2.1
  unfold jbare at hb
  simp only [hk, Bool.and_eq_true, Bool.or_eq_true, decide_eq_true_eq, or_false] at hb
  exact List.length_eq_zero_iff.1 hb.2.2
theorem may_get {v : JV} (h : jmay v) {i : Nat} {x : JV} (hx : v.l[i]? = some x) : jmay x := ((jmay_eq v).1 h).2.2 i x hx
theorem may_mget {v : JV} (h : jmay v) {i : Nat} {q : ByteArray × JV} (hq : v.m[i]? = some q) : jmay q.2 :=
  (((jmay_eq v).1 h).2.1 i q (List.getElem?_eq_some_iff.1 hq).1 hq).2
end
end Lg
namespace Lg
open Go
theorem opn_mem {s : ByteArray} {c : Int} (h : opn s = c) (hc : c ≠ 0) : (s, c) ∈ opL := by
  unfold opn at h
  cases hf : opL.find? fun q => decide (s = q.1) with
  | none => rw [hf] at h; exact absurd h.symm hc
  | some q =>
    rw [hf] at h
    have hm := List.mem_of_find?_eq_some hf
    have hq := List.find?_some hf
    simp only [decide_eq_true_eq] at hq
    simp only [Option.map_some, Option.getD_some] at h
    obtain ⟨a, b⟩ := q
    simp only at hq h
    subst hq; subst h
    exact hm
theorem opn_range (s : ByteArray) : 0 ≤ opn s ∧ opn s ≤ 6 := by
  by_cases h : opn s = 0
  · omega
  · have hm := opn_mem rfl h
    have : ∀ q ∈ opL, 0 ≤ q.2 ∧ q.2 ≤ 6 := by decide +kernel
    exact this _ hm
def opNm : List ByteArray := [⟨#[]⟩, ⟨#[97, 100, 100]⟩, ⟨#[114, 101, 109, 111, 118, 101]⟩, ⟨#[114, 101, 112, 108, 97, 99, 101]⟩, ⟨#[109, 111, 118, 101]⟩, ⟨#[99, 111, 112, 121]⟩, ⟨#[116, 101, 115, 116]⟩]
theorem opn_nm : ∀ i : Fin 6, opn (opNm[i.val + 1]'(by have := i.isLt; show _ < 7; omega)) = (i.val + 1 : Nat) := by decide +kernel
theorem opn_at {i : Nat} {t : ByteArray} (h : opNm[i]? = some t) (h1 : 1 ≤ i) (s : ByteArray) : s = t ↔ opn s = (i : Int) := by
  have h7 := (List.getElem?_eq_some_iff.1 h)
  obtain ⟨hi, ht⟩ := h7
  have hi7 : i < 7 := hi
  have e := opn_nm ⟨i - 1, by omega⟩
  have hio : i - 1 + 1 = i := by omega
  simp only [hio] at e
  rw [ht] at e
  constructor
  · rintro rfl; exact e
  · intro hs
    have m1 := opn_mem hs (by omega)
    have m2 := opn_mem e (by omega)
    have inj : ∀ a ∈ opL, ∀ b ∈ opL, a.2 = b.2 → a.1 = b.1 := by decide +kernel
    exact inj _ m1 _ m2 rfl
/-- The reference's loop over the operations' names: what was found ahead of i. -/
def opc (v : JV) (i : Nat) : Int := if jfB v bOp = true ∧ (jfD v bOp).kind = 3 ∧ opn (jfD v bOp).s < i then opn (jfD v bOp).s else 0
theorem opc_1 (v : JV) : opc v 1 = 0 := by
  have := opn_range (jfD v bOp).s
  unfold opc
  by_cases h : jfB v bOp = true ∧ (jfD v bOp).kind = 3 ∧ opn (jfD v bOp).s < ((1 : Nat) : Int)
  · rw [if_pos h]
    have h1 : opn (jfD v bOp).s < 1 := h.2.2
    have h2 := this.1
    omega
  · rw [if_neg h]
theorem opc_7 (v : JV) : opc v 7 = jopn v := by
  have := opn_range (jfD v bOp).s
  unfold opc jopn
  by_cases h : jfB v bOp = true ∧ (jfD v bOp).kind = 3
  · have h7 : opn (jfD v bOp).s < ((7 : Nat) : Int) := Int.lt_of_le_of_lt this.2 (by decide)
    rw [if_pos h, if_pos ⟨h.1, h.2, h7⟩]
  · rw [if_neg h, if_neg (fun x => h ⟨x.1, x.2.1⟩)]
theorem opc_no {v : JV} (h : jfB v bOp = false) (i : Nat) : opc v i = jopn v := by
  unfold opc jopn; rw [if_neg (by simp [h]), if_neg (by simp [h])]
theorem opc_hit {v : JV} {i : Nat} {t : ByteArray} (hb : jfB v bOp = true) (hk : (jfD v bOp).kind = 3) (ht : opNm[i]? = some t) (h1 : 1 ≤ i) (h : (jfD v bOp).s = t) : opc v (i + 1) = (i : Int) := by
  have := (opn_at ht h1 _).1 h
  have h7 : opn (jfD v bOp).s < ((i + 1 : Nat) : Int) := by omega
  unfold opc; rw [if_pos ⟨hb, hk, h7⟩, this]
theorem opc_miss {v : JV} {i : Nat} {t : ByteArray} (ht : opNm[i]? = some t) (h1 : 1 ≤ i) (h : ¬ (jfD v bOp).s = t) : opc v (i + 1) = opc v i := by
  have hne : ¬ opn (jfD v bOp).s = (i : Int) := fun e => h ((opn_at ht h1 _).2 e)
  unfold opc
  by_cases hc : jfB v bOp = true ∧ (jfD v bOp).kind = 3 ∧ opn (jfD v bOp).s < i
  · have h9 := hc.2.2
    have h7 : opn (jfD v bOp).s < ((i + 1 : Nat) : Int) := by omega
    rw [if_pos hc, if_pos ⟨hc.1, hc.2.1, h7⟩]
  · have h7 : ¬ (jfB v bOp = true ∧ (jfD v bOp).kind = 3 ∧ opn (jfD v bOp).s < ((i + 1 : Nat) : Int)) := fun x => hc ⟨x.1, x.2.1, by have h8 := x.2.2; omega⟩
    rw [if_neg hc, if_neg h7]
theorem opc_k {v : JV} {i : Nat} (hk : ¬ (jfD v bOp).kind = 3) : opc v (i + 1) = opc v i := by
  unfold opc; rw [if_neg (fun x => hk x.2.1), if_neg (fun x => hk x.2.1)]
theorem jopn_range (v : JV) : 0 ≤ jopn v ∧ jopn v ≤ 6 := by
  unfold jopn; split
  · exact opn_range _
  · omega
theorem jopn_eq {v : JV} (h1 : jfB v bOp = true) (h2 : (jfD v bOp).kind = 3) : jopn v = opn (jfD v bOp).s := by unfold jopn; rw [if_pos ⟨h1, h2⟩]
theorem jopn_no {v : JV} (h : jfB v bOp = false ∨ ¬ (jfD v bOp).kind = 3) : jopn v = 0 := by
  unfold jopn; rw [if_neg]; rintro ⟨a, b⟩; rcases h with h | h
  · rw [a] at h; cases h
  · exact h b
theorem jop_n1 {v : JV} (h : jopn v = 0) : jop v = none := by unfold jop; rw [if_pos h]
theorem jop_n2 {v : JV} (h : jptB v bPath = false) : jop v = none := by unfold jop; rw [h]; simp
theorem jop_fr {v : JV} (hp : jptB v bPath = true) (h : jopn v = 4 ∨ jopn v = 5) : jop v = if jptB v bFrom = true then some ⟨jopn v, jptN v bPath, jptN v bFrom, vz⟩ else none := by
  unfold jop; rw [if_neg (by omega), if_neg (by simp [hp]), if_pos h]
theorem jop_rm {v : JV} (hp : jptB v bPath = true) (h : jopn v = 2) : jop v = some ⟨2, jptN v bPath, [], vz⟩ := by
  unfold jop; rw [if_neg (by omega), if_neg (by simp [hp]), if_neg (by omega), if_pos h]
theorem jop_vl {v : JV} (hp : jptB v bPath = true) (h0 : ¬ jopn v = 0) (h4 : ¬ (jopn v = 4 ∨ jopn v = 5)) (h2 : ¬ jopn v = 2) : jop v = if jfB v bValue = true then some ⟨jopn v, jptN v bPath, [], jfD v bValue⟩ else none := by
  unfold jop; rw [if_neg h0, if_neg (by simp [hp]), if_neg h4, if_neg h2]
theorem pEi_lt (s : BL) : decide (pEi s < 0) = (pE s).isNone := by
  unfold pEi
  cases pE s with
  | none => rfl
  | some i => simp
theorem jpt_yes {v : JV} {key : ByteArray} (h1 : jfB v key = true) (h2 : (jfD v key).kind = 3) : jptN v key = pN (jfD v key).s.data.toList ∧ jptB v key = (pE (jfD v key).s.data.toList).isNone := by
  unfold jptN jptB; rw [if_pos ⟨h1, h2⟩, h1, h2]; simp
theorem jpt_no {v : JV} {key : ByteArray} (h : jfB v key = false ∨ ¬ (jfD v key).kind = 3) : jptN v key = [] ∧ jptB v key = false := by
  unfold jptN jptB
  rcases h with h | h
  · rw [if_neg (by simp [h]), h]; simp
  · rw [if_neg (by simp [h]), decide_eq_false h]; simp
section
variable [GLay]
theorem jfD_jb {v : JV} {key : ByteArray} (h : jb v) : jb (jfD v key) := by
  unfold jfD
  cases hf : jfind v key with
  | none => exact jb_nil _ _ _ _ (Nat.zero_le _) (Nat.zero_le _)
  | some x =>
    unfold jfind at hf
    split at hf
    · rw [Option.map_eq_some_iff] at hf
      obtain ⟨q, hq, rfl⟩ := hf
      obtain ⟨j, hj⟩ := List.getElem?_of_mem (List.mem_of_find?_eq_some hq)
      exact (mb_get ((jb_eq v).1 h).2.2.2.2.2 hj).2
    · cases hf
theorem jfD_size {v : JV} {key : ByteArray} {n : Int} (hs : jsize v ≤ n) (hn : 1 ≤ n) : jsize (jfD v key) ≤ n := by
  unfold jfD
  cases hf : jfind v key with
  | none => simp only [Option.getD_none, vz, jsize_nil]; omega
  | some x =>
    unfold jfind at hf
    split at hf
    · rw [Option.map_eq_some_iff] at hf
      obtain ⟨q, hq, rfl⟩ := hf
      obtain ⟨j, hj⟩ := List.getElem?_of_mem (List.mem_of_find?_eq_some hq)
      have h1 := msize_mem hj
      have h2 := jsize_eq v
      have h3 := lsize_nn v.l
      simp only [Option.getD_some]; omega
    · cases hf
/-- Operations whose parts are not too large. -/
structure OB (o : JOp) : Prop where
  jb : jb o.v
  pa : o.pa.length ≤ 2000000
  fr : o.fr.length ≤ 2000000
theorem jptN_len {v : JV} {key : ByteArray} (h : jb v) (hb : jptB v key = true) : (jptN v key).length ≤ 2000000 := by
  by_cases h1 : jfB v key = true
  · by_cases h2 : (jfD v key).kind = 3
    · obtain ⟨e1, e2⟩ := jpt_yes h1 h2
      rw [e1]
      rw [e2] at hb
      have h3 : pE (jfD v key).s.data.toList = none := by
        cases hp : pE (jfD v key).s.data.toList with
        | none => rfl
        | some i => rw [hp] at hb; cases hb
      have h4 := (pN_len h3).1
      have h5 := ((jb_eq _).1 (jfD_jb (key := key) h)).2.1
      have h6 : (jfD v key).s.data.toList.length = (jfD v key).s.size := Array.length_toList ..
      omega
    · rw [(jpt_no (.inr h2)).1]; exact Nat.zero_le _
  · rw [(jpt_no (.inl (by simpa using h1))).1]; exact Nat.zero_le _
theorem jop_ok {v : JV} {o : JOp} (h : jb v) (ho : jop v = some o) : OB o := by
  have hz : jb vz := jb_nil _ _ _ _ (Nat.zero_le _) (Nat.zero_le _)
  by_cases h0 : jopn v = 0
  · rw [jop_n1 h0] at ho; cases ho
  · by_cases hp : jptB v bPath = true
    · have hpl := jptN_len h hp
      by_cases h4 : jopn v = 4 ∨ jopn v = 5
      · rw [jop_fr hp h4] at ho
        split at ho
        · rename_i hf; cases ho; exact ⟨hz, hpl, jptN_len h hf⟩
        · cases ho
      · by_cases h2 : jopn v = 2
        · rw [jop_rm hp h2] at ho; cases ho; exact ⟨hz, hpl, Nat.zero_le _⟩
        · rw [jop_vl hp h0 h4 h2] at ho
          split at ho
          · cases ho; exact ⟨jfD_jb h, hpl, Nat.zero_le _⟩
          · cases ho
    · rw [jop_n2 (by simpa using hp)] at ho; cases ho
theorem jops_ok {l : List JV} {os : List JOp} (hl : lb l) (h : jops l = some os) : ∀ o ∈ os, OB o := by
  induction l generalizing os with
  | nil => simp [jops] at h; subst h; intro o ho; cases ho
  | cons a r ih =>
    rw [jops] at h
    cases ha : jop a with
    | none => rw [ha] at h; cases h
    | some o =>
      rw [ha] at h
      simp only [Option.map_eq_some_iff] at h
      obtain ⟨os', h1, rfl⟩ := h
      intro p hp
      rcases List.mem_cons.1 hp with rfl | hp
      · exact jop_ok hl.1 ha
      · exact ih hl.2 h1 p hp
theorem jrd_ok2 {v : JV} (h : jb v) : (jrd v).length ≤ 1000000 ∧ ∀ o ∈ jrd v, OB o := by
  have hl := (jb_eq v).1 h
  unfold jrd
  split
  · exact ⟨Nat.zero_le _, fun o ho => by cases ho⟩
  · split
    · exact ⟨Nat.zero_le _, fun o ho => by cases ho⟩
    · cases hj : jops v.l with
      | none => exact ⟨Nat.zero_le _, fun o ho => by cases ho⟩
      | some os => exact ⟨by rw [Option.getD_some, jops_len hj]; omega, jops_ok hl.2.2.2.2.1 hj⟩
end
theorem jrdA_0 {v : JV} (h : jrdC v = 0) : jrdA v = 0 := by
  unfold jrdC at h; unfold jrdA
  split at h
  · omega
  · split at h
    · omega
    · split at h
      · omega
      · rename_i h1 h2 h3; rw [if_neg h1, if_neg h2, if_neg h3]
end Lg
namespace Lg
open Go
def ex8 : ByteArray := ⟨#[91, 123, 34, 111, 112, 34, 58, 34, 114, 101, 109, 111, 118, 101, 34, 44, 34, 112, 97, 116, 104, 34, 58, 34, 47, 97, 34, 125, 93]⟩
theorem ex8_0 : (rParse ex8).2.1 = 0 := by rw [rParse_C (by decide)]; decide +kernel
theorem ex8_a : jrdC (rParse ex8).1 = 0 ∧ (jrd (rParse ex8).1).length = 1 ∧ ((jrd (rParse ex8).1).head?.map fun o => (o.op, o.pa)) = some (2, [[97]]) := by rw [rParse_C (by decide)]; decide +kernel
theorem ex8_ok [GLay] : jb (rParse ex8).1 ∧ jrdE (rParse ex8).1 = none ∧ ∃ o, jrd (rParse ex8).1 = [o] ∧ o.op = 2 ∧ o.pa = [[97]] := by
  obtain ⟨h1, h2, h3⟩ := ex8_a
  refine ⟨(rParse_ok ex8 ex8_0).2.1, by unfold jrdE; rw [if_pos h1], ?_⟩
  obtain ⟨o, ho⟩ := List.length_eq_one_iff.1 h2
  rw [ho] at h3
  simp at h3
  exact ⟨o, ho, h3.1, h3.2⟩
theorem jrd_vz : jrd vz = [] ∧ jrdE vz = some (0, 1) ∧ jrdC vz = 1 ∧ jrdA vz = 0 := by decide
theorem jrdE_c {v : JV} : (jrdE v).elim 0 (·.2) = jrdC v ∧ (jrdE v).elim 0 (·.1) = jrdA v := by
  unfold jrdE
  split
  · rename_i h; exact ⟨h.symm, (jrdA_0 h).symm⟩
  · exact ⟨rfl, rfl⟩
theorem jrdE_s {v : JV} (h : ¬ jrdC v = 0) : jrdE v = some (jrdA v, jrdC v) := by unfold jrdE; rw [if_neg h]
theorem jrdE_n {v : JV} (h : jrdC v = 0) : jrdE v = none := by unfold jrdE; rw [if_pos h]
theorem jrd_k4 {v : JV} (h : ¬ v.kind = 4) : jrd v = [] ∧ jrdC v = 1 ∧ jrdA v = 0 := by unfold jrd jrdC jrdA; rw [if_pos h, if_pos h, if_pos h]; exact ⟨rfl, rfl, rfl⟩
theorem jrd_many {v : JV} (h : v.kind = 4) (hl : 100 < v.l.length) : jrd v = [] ∧ jrdC v = 5 ∧ jrdA v = 100 := by unfold jrd jrdC jrdA; simp [h, hl]
end Lg
namespace Lg
open Go
theorem valL_nat : ∀ (l : BL) (v : Nat), aD l → Lib.decFrom v l = some (valL v l).toNat ∧ 0 ≤ valL v l ∧ valL v l < ((v : Int) + 1) * 10 ^ l.length
  | [], v, _ => ⟨by simp [Lib.decFrom, valL], by simp [valL], by simp [valL]; omega⟩
  | b :: l, v, h => by
    obtain ⟨hb, hl⟩ := aD_cons h
    have hd : Lib.digitVal b = some (b.toNat - 48) := by unfold Lib.digitVal; rw [if_pos hb]
    have hv : valL v (b :: l) = valL ((v * 10 + (b.toNat - 48) : Nat) : Int) l := by
      show valL (10 * (v : Int) + (b.toNat : Int) - 48) l = _
      congr 1; omega
    obtain ⟨h1, h2, h3⟩ := valL_nat l (v * 10 + (b.toNat - 48)) hl
    rw [hv]
    refine ⟨?_, h2, ?_⟩
    · simp only [Lib.decFrom, hd]; exact h1
    · refine Int.lt_of_lt_of_le h3 ?_
      rw [List.length_cons, Int.pow_succ, Int.mul_comm (10 ^ l.length) 10, ← Int.mul_assoc]
      exact Int.mul_le_mul_of_nonneg_right (by omega) (Int.pow_nonneg (by omega))
theorem atoi_val {l : BL} (h : aD l) : Lib.atoi (48 :: l) = some (valL 0 l) := by
  have hd : aD (48 :: l) := fun b hb => by
    rcases List.mem_cons.1 hb with rfl | hb
    · rfl
    · exact h b hb
  obtain ⟨h1, h2, _⟩ := valL_nat (48 :: l) 0 hd
  have e : valL ((0 : Nat) : Int) (48 :: l) = valL 0 l := rfl
  rw [e] at h1 h2
  have e2 : Lib.atoi (48 :: l) = (Lib.decFrom 0 (48 :: l)).map fun (m : Nat) => (m : Int) := rfl
  rw [e2, h1]
  simp only [Option.map_some, Option.some.injEq]
  omega
def smallI (e : BL) : Int := if hd45 e = true then -smallN (strip 45 e) else smallN (strip 45 e)
theorem smallN_bnd {x : BL} (h : aD x) : 0 ≤ smallN x ∧ smallN x ≤ 1000000000000000 := by
  unfold smallN
  split
  · rename_i hl
    obtain ⟨_, h2, h3⟩ := valL_nat (x.dropWhile (· == 48)) 0 (aD_dw h)
    refine ⟨h2, ?_⟩
    have hp : (10 : Int) ^ (x.dropWhile (· == 48)).length ≤ 10 ^ 15 := by
      have := Nat.pow_le_pow_right (n := 10) (by omega) (show (x.dropWhile (· == 48)).length ≤ 15 by omega)
      exact_mod_cast this
    have : (((0 : Nat) : Int) + 1) * 10 ^ (x.dropWhile (· == 48)).length ≤ 1000000000000000 := by
      rw [show (((0 : Nat) : Int) + 1) = 1 from rfl, Int.one_mul]; exact hp
    have h4 : valL 0 (x.dropWhile (· == 48)) = valL ((0 : Nat) : Int) (x.dropWhile (· == 48)) := rfl
    omega
  · omega
theorem smallI_bnd {e : BL} (h : aD (strip 45 e)) : -1000000000000000 ≤ smallI e ∧ smallI e ≤ 1000000000000000 := by
  have := smallN_bnd h
  unfold smallI; split <;> omega
def pAll (l : BL) : BL := cutL ((pParts (strip 45 l)).1 ++ (pParts (strip 45 l)).2.1)
def pX (l : BL) : Int := smallI (pParts (strip 45 l)).2.2.1 - (pParts (strip 45 l)).2.1.length + (pAll l).length - (cutR (pAll l)).length
theorem pNum_bad {l : BL} (h : (pParts (strip 45 l)).2.2.2 = false) : pNum l = ({}, 1) := by unfold pNum; rw [if_pos h]
theorem pNum_zero {l : BL} (h : (pParts (strip 45 l)).2.2.2 = true) (h2 : pAll l = []) : pNum l = ({}, 0) := by unfold pNum; rw [if_neg (by simp [h])]; exact if_pos h2
theorem pNum_large {l : BL} (h : (pParts (strip 45 l)).2.2.2 = true) (h2 : ¬ pAll l = []) (h3 : 60 < (cutR (pAll l)).length ∨ 1000 < pX l ∨ pX l < -1000) : pNum l = ({}, 5) := by unfold pNum; rw [if_neg (by simp [h])]; exact (if_neg h2).trans (if_pos h3)
theorem pNum_some {l : BL} (h : (pParts (strip 45 l)).2.2.2 = true) (h2 : ¬ pAll l = []) (h3 : ¬ (60 < (cutR (pAll l)).length ∨ 1000 < pX l ∨ pX l < -1000)) : pNum l = (⟨hd45 l, ba (cutR (pAll l)), pX l⟩, 0) := by unfold pNum; rw [if_neg (by simp [h])]; exact (if_neg h2).trans (if_neg h3)
theorem pExp_len (r : BL) : (pExp r).1.length ≤ r.length + 1 := by
  cases r with
  | nil => simp [pExp]
  | cons b q => have := strip_len 43 q; simp only [pExp, List.length_cons]; omega
theorem pParts_len (m : BL) : (pParts m).1.length + (pParts m).2.1.length ≤ m.length ∧ (pParts m).2.2.1.length ≤ m.length + 1 := by
  unfold pParts
  split
  · simp
  · cases hf : pFrac (m.dropWhile isD) with
    | none => simp
    | some z =>
      obtain ⟨f, r⟩ := z
      have h1 := pFrac_len hf
      have h2 := congrArg List.length (List.takeWhile_append_dropWhile (p := isD) (l := m))
      have h3 := pExp_len r
      simp only [List.length_append] at h2 ⊢
      omega
theorem cutL_len (l : BL) : (cutL l).length ≤ l.length := (List.dropWhile_sublist _).length_le
theorem hd45_bat {e : BL} (h : e ≠ []) : hd45 e = true ↔ ((bat (ba e) 0).toNat : Int) = 45 := by
  cases e with
  | nil => exact absurd rfl h
  | cons b q =>
    rw [bat0]
    simp only [hd45, beq_iff_eq]
    constructor
    · rintro rfl; rfl
    · intro h; exact UInt8.toNat_inj.1 (by have : (45 : UInt8).toNat = 45 := rfl; omega)
theorem hng (l : BL) : (!decide (ba (strip 45 l) = ba l)) = hd45 l := by
  have := hd45_strip l
  cases h : hd45 l with
  | true => simpa [ba_inj] using this.2 h
  | false =>
    simp only [Bool.not_eq_false', decide_eq_true_eq, ba_inj]
    exact Decidable.not_not.1 (fun k => by rw [this.1 k] at h; cases h)
theorem pX_eq (l : BL) : pX l = smallI (pParts (strip 45 l)).2.2.1 - ((ba (pParts (strip 45 l)).2.1).size : Int) + ((ba (pAll l)).size : Int) - ((ba (cutR (pAll l))).size : Int) := by
  simp only [ba_size]; rfl
end Lg
namespace Lg
open Go
/-! ### Digits side by side -/
def cmpL : BL → BL → Int
  | [], [] => 0
  | [], _ :: _ => -1
  | _ :: _, [] => 1
  | a :: x, b :: y => if a.toNat < b.toNat then -1 else if b.toNat < a.toNat then 1 else cmpL x y
theorem cmpL_cases : ∀ (x y : BL), cmpL x y = 0 ∨ cmpL x y = -1 ∨ cmpL x y = 1
  | [], [] => .inl rfl
  | [], _ :: _ => .inr (.inl rfl)
  | _ :: _, [] => .inr (.inr rfl)
  | a :: x, b :: y => by
    simp only [cmpL]; split
    · exact .inr (.inl rfl)
    · split
      · exact .inr (.inr rfl)
      · exact cmpL_cases x y
theorem cmpL_less : ∀ (x y : BL), Op.bytesLess x y = decide (cmpL x y = -1)
  | [], [] => rfl
  | [], _ :: _ => rfl
  | _ :: _, [] => rfl
  | a :: x, b :: y => by
    simp only [Op.bytesLess, cmpL, cmpL_less x y]
    by_cases h : a.toNat < b.toNat
    · have h' : a < b := h
      simp [h, h']
    · have h' : ¬ a < b := h
      by_cases h2 : b.toNat < a.toNat
      · have h3 : ¬ a = b := fun e => by rw [e] at h2; omega
        simp [h, h', h2, h3]
      · have h3 : a = b := UInt8.toNat_inj.1 (by omega)
        subst h3; simp [h']
theorem blt_cmp (x y : BL) : blt (ba x) (ba y) = decide (cmpL x y = -1) := by
  unfold blt
  rw [ByteArray.toList_eq, ByteArray.toList_eq, ba_toList, ba_toList, cmpL_less]
theorem cmpL_eq : ∀ (x y : BL), cmpL x y = 0 ↔ x = y
  | [], [] => by simp [cmpL]
  | [], _ :: _ => by simp [cmpL]
  | _ :: _, [] => by simp [cmpL]
  | a :: x, b :: y => by
    simp only [cmpL]
    by_cases h : a.toNat < b.toNat
    · simp only [if_pos h]
      constructor
      · intro e; omega
      · intro e; rw [(List.cons.inj e).1] at h; omega
    · by_cases h2 : b.toNat < a.toNat
      · simp only [if_neg h, if_pos h2]
        constructor
        · intro e; omega
        · intro e; rw [(List.cons.inj e).1] at h2; omega
      · have h3 : a = b := UInt8.toNat_inj.1 (by omega)
        subst h3
        simp [cmpL_eq x y]
theorem cmpL_anti : ∀ (x y : BL), cmpL y x = - cmpL x y
  | [], [] => rfl
  | [], _ :: _ => rfl
  | _ :: _, [] => rfl
  | a :: x, b :: y => by
    simp only [cmpL]
    by_cases h : a.toNat < b.toNat
    · rw [if_pos h, if_neg (by omega), if_pos h]; rfl
    · by_cases h2 : b.toNat < a.toNat
      · simp [h, h2]
      · rw [if_neg h, if_neg h2, if_neg h2, if_neg h]; exact cmpL_anti x y
theorem cmpL_trans : ∀ (x y z : BL), cmpL x y ≤ 0 → cmpL y z ≤ 0 → cmpL x z ≤ 0
  | [], _, [], _, _ => by simp [cmpL]
  | [], _, _ :: _, _, _ => by simp [cmpL]
  | _ :: _, [], _, h, _ => by simp [cmpL] at h
  | _ :: _, _ :: _, [], _, k => by simp [cmpL] at k
  | a :: x, b :: y, c :: z, h, k => by
    simp only [cmpL] at h k ⊢
    by_cases h1 : a.toNat < b.toNat
    · by_cases h2 : c.toNat < b.toNat
      · rw [if_neg (by omega), if_pos h2] at k; omega
      · rw [if_pos (by omega)]; omega
    · by_cases h3 : b.toNat < a.toNat
      · rw [if_neg h1, if_pos h3] at h; omega
      · rw [if_neg h1, if_neg h3] at h
        by_cases h4 : b.toNat < c.toNat
        · rw [if_pos (by omega)]; omega
        · by_cases h5 : c.toNat < b.toNat
          · rw [if_neg h4, if_pos h5] at k; omega
          · rw [if_neg h4, if_neg h5] at k
            rw [if_neg (by omega), if_neg (by omega)]
            exact cmpL_trans x y z h k
theorem cmpS_cmpL (x y : BL) : cmpS (ba x) (ba y) = cmpL x y := by
  unfold cmpS
  rw [blt_cmp]
  rcases cmpL_cases x y with h | h | h
  · have e := (cmpL_eq x y).1 h
    subst e
    simp [h]
  · simp [h]
  · have e : ¬ ba x = ba y := fun e => by
      have := (cmpL_eq x y).2 (ba_inj.1 e); omega
    simp [h, e]
theorem cmpL_app : ∀ (x y z : BL), x.length = y.length → cmpL (x ++ z) (y ++ z) = cmpL x y
  | [], [], z, _ => (cmpL_eq z z).2 rfl
  | [], _ :: _, z, h => by simp at h
  | _ :: _, [], z, h => by simp at h
  | a :: x, b :: y, z, h => by
    simp only [List.cons_append, cmpL]
    rw [cmpL_app x y z (by simpa using h)]
theorem zero_less : ∀ (b : BL), aD b → b ≠ [] → b.getLast? ≠ some 48 → cmpL (List.replicate b.length 48) b = -1
  | [], _, h, _ => absurd rfl h
  | c :: r, hd, _, hl => by
    obtain ⟨hc, hr⟩ := aD_cons hd
    simp only [List.length_cons, List.replicate_succ, cmpL]
    have e48 : (48 : UInt8).toNat = 48 := rfl
    by_cases h : (48 : UInt8).toNat < c.toNat
    · rw [if_pos h]
    · rw [if_neg h, if_neg (by omega)]
      have hc48 : c = 48 := UInt8.toNat_inj.1 (by omega)
      subst hc48
      have hne : r ≠ [] := by rintro rfl; exact hl rfl
      exact zero_less r hr hne (fun e => hl (by rw [List.getLast?_cons, e]; rfl))
theorem pad : ∀ (a b : BL) (k : Nat), aD b → b.getLast? ≠ some 48 → a.length + k = b.length → cmpL (a ++ List.replicate k 48) b = cmpL a b
  | [], b, k, hd, hl, he => by
    cases k with
    | zero =>
      have : b = [] := List.eq_nil_of_length_eq_zero (by simpa using he.symm)
      subst this; rfl
    | succ k =>
      have hk : b.length = k + 1 := by simpa using he.symm
      have hne : b ≠ [] := by rintro rfl; simp at hk
      rw [List.nil_append, ← hk, zero_less b hd hne hl]
      cases b with
      | nil => exact absurd rfl hne
      | cons => rfl
  | x :: xs, [], k, hd, hl, he => by simp at he
  | x :: xs, y :: ys, k, hd, hl, he => by
    simp only [List.cons_append, cmpL]
    rw [pad xs ys k (aD_cons hd).2 (fun e => hl (by rw [List.getLast?_cons, e]; rfl)) (by simp only [List.length_cons] at he; omega)]
/-- Filled up to one length they stand as before. -/
theorem pad2 {a b : BL} {i j : Nat} (ha : aD a) (hb : aD b) (la : a.getLast? ≠ some 48) (lb : b.getLast? ≠ some 48) (he : a.length + i = b.length + j) :
    cmpL (a ++ List.replicate i 48) (b ++ List.replicate j 48) = cmpL a b := by
  rcases Nat.le_total j i with h | h
  · have e : List.replicate i (48 : UInt8) = List.replicate (i - j) 48 ++ List.replicate j 48 := by rw [List.replicate_append_replicate]; congr 1; omega
    rw [e, ← List.append_assoc, cmpL_app _ _ _ (by rw [List.length_append, List.length_replicate]; omega)]
    exact pad a b (i - j) hb lb (by omega)
  · have e : List.replicate j (48 : UInt8) = List.replicate (j - i) 48 ++ List.replicate i 48 := by rw [List.replicate_append_replicate]; congr 1; omega
    rw [e, ← List.append_assoc, cmpL_app _ _ _ (by rw [List.length_append, List.length_replicate]; omega), cmpL_anti _ a]
    have := pad b a (j - i) ha la (by omega)
    rw [cmpL_anti a] 
    have h2 := cmpL_anti (b ++ List.replicate (j - i) 48) a
    have h3 := cmpL_anti b a
    omega
end Lg
namespace Lg
open Go
/-! ### Numbers that may be -/
structure JOk (n : JNum) (d : BL) : Prop where
  dig : n.digits = ba d
  ne : d ≠ []
  ad : aD d
  hd : d.head? ≠ some 48
  lst : d.getLast? ≠ some 48
  len : d.length ≤ 60
  lo : -1000 ≤ n.exp
  hi : n.exp ≤ 1000
def JMay (n : JNum) : Prop := n = {} ∨ ∃ d, JOk n d
theorem JOk.nil {n : JNum} {d : BL} (h : JOk n d) : ¬ n.digits = ⟨#[]⟩ := fun e => h.ne (ba_nil.1 (h.dig ▸ e))
theorem JOk.size {n : JNum} {d : BL} (h : JOk n d) : n.digits.size = d.length := by rw [h.dig, ba_size]
theorem JMay.bnd {n : JNum} (h : JMay n) : n.digits.size ≤ 1000000 ∧ -1000000 ≤ n.exp ∧ n.exp ≤ 1000000 := by
  rcases h with rfl | ⟨d, h⟩
  · exact ⟨by decide, by decide, by decide⟩
  · have := h.size; have := h.len; have := h.lo; have := h.hi
    omega
theorem aD_cutR {l : BL} (h : aD l) : aD (cutR l) := fun b hb => by
  rw [cutR_pre] at hb
  exact h b (List.mem_of_mem_take hb)
theorem aD_cutL {l : BL} (h : aD l) : aD (cutL l) := fun b hb => h b ((List.dropWhile_sublist _).mem hb)
/-- What is read may be. -/
theorem pNum_may (l : BL) : JMay (pNum l).1 ∧ ((pNum l).2 = 0 ∨ (pNum l).2 = 1 ∨ (pNum l).2 = 5) ∧ ((pNum l).2 ≠ 0 → (pNum l).1 = {}) := by
  by_cases h : (pParts (strip 45 l)).2.2.2 = true
  · obtain ⟨_, _, _, _, _, had, _⟩ := gathered h false
    by_cases h2 : pAll l = []
    · rw [pNum_zero h h2]; exact ⟨.inl rfl, .inl rfl, fun _ => rfl⟩
    · by_cases h3 : 60 < (cutR (pAll l)).length ∨ 1000 < pX l ∨ pX l < -1000
      · rw [pNum_large h h2 h3]; exact ⟨.inl rfl, .inr (.inr rfl), fun _ => rfl⟩
      · rw [pNum_some h h2 h3]
        have hh := cutL_head ((pParts (strip 45 l)).1 ++ (pParts (strip 45 l)).2.1)
        have hc : cutR (pAll l) ≠ [] := fun e => h2 ((cutR_nil hh).1 e)
        refine ⟨.inr ⟨cutR (pAll l), rfl, hc, aD_cutR (aD_cutL had), ?_, ?_, by omega, by show -1000 ≤ pX l; omega, by show pX l ≤ 1000; omega⟩, .inl rfl, fun k => absurd rfl k⟩
        · rw [cutR_head hc]; exact fun e => hh 48 e rfl
        · rw [List.getLast?_eq_some_getLast hc]; exact fun e => cutR_last hc (Option.some.inj e)
  · rw [pNum_bad (by simpa using h)]; exact ⟨.inl rfl, .inr (.inl rfl), fun _ => rfl⟩
theorem whole_ok {n : JNum} (h : JMay n) : decide (0 ≤ n.exp) = rWhole n := by
  rcases h with rfl | ⟨d, h⟩
  · rfl
  · unfold rWhole; rw [decide_eq_false h.nil]; rfl
theorem jsign_zero {n : JNum} (h : n.digits = ⟨#[]⟩) : jsign n = 0 := by unfold jsign; rw [if_pos h]
theorem JOk.sign {n : JNum} {d : BL} (h : JOk n d) : jsign n = if n.neg = true then -1 else 1 := by unfold jsign; rw [if_neg h.nil]
theorem cmpI_anti (x y : Int) : cmpI y x = - cmpI x y := by unfold cmpI; split <;> split <;> (try split) <;> omega
theorem cmpI_zero (x y : Int) : cmpI x y = 0 ↔ x = y := by unfold cmpI; split <;> (try split) <;> omega
/-- Both sides' order of two numbers of digits of the same sign. -/
def kcmp (a b : JNum) (d e : BL) : Int := if cmpI (d.length + a.exp) (e.length + b.exp) = 0 then cmpL d e else cmpI (d.length + a.exp) (e.length + b.exp)
theorem kcmp_cases (a b : JNum) (d e : BL) : kcmp a b d e = 0 ∨ kcmp a b d e = -1 ∨ kcmp a b d e = 1 := by
  unfold kcmp; split
  · exact cmpL_cases d e
  · unfold cmpI; split <;> (try split) <;> simp
theorem kcmp_anti (a b : JNum) (d e : BL) : kcmp b a e d = - kcmp a b d e := by
  unfold kcmp
  rw [cmpI_anti (d.length + a.exp) (e.length + b.exp), cmpL_anti d e]
  by_cases h : cmpI (d.length + a.exp) (e.length + b.exp) = 0
  · rw [if_pos (by omega), if_pos h]
  · rw [if_neg (by omega), if_neg h]
theorem pCmp_ok {a b : JNum} {d e : BL} (ha : JOk a d) (hb : JOk b e) : pCmp a b = if a.neg = b.neg then (if a.neg = true then - kcmp a b d e else kcmp a b d e) else (if a.neg = true then -1 else 1) := by
  unfold pCmp
  rw [ha.sign, hb.sign, ha.size, hb.size, ha.dig, hb.dig, cmpS_cmpL]
  show _ = if a.neg = b.neg then (if a.neg = true then - kcmp a b d e else kcmp a b d e) else _
  unfold kcmp
  cases a.neg <;> cases b.neg <;> simp [cmpI]
theorem pCmp_zl {a b : JNum} {e : BL} (ha : a = {}) (hb : JOk b e) : pCmp a b = if b.neg = true then 1 else -1 := by
  unfold pCmp; rw [hb.sign, ha, show jsign ({} : JNum) = 0 from rfl]
  cases b.neg <;> simp [cmpI]
theorem pCmp_zr {a b : JNum} {d : BL} (ha : JOk a d) (hb : b = {}) : pCmp a b = if a.neg = true then -1 else 1 := by
  unfold pCmp; rw [ha.sign, hb, show jsign ({} : JNum) = 0 from rfl]
  cases a.neg <;> simp [cmpI]
theorem pCmp_zz : pCmp {} {} = 0 := by unfold pCmp; rw [if_pos rfl, show jsign ({} : JNum) = 0 from rfl, Int.zero_mul]
/-- a's digits with noughts. -/
theorem jexp_ok {a : JNum} {d : BL} (ha : JOk a d) (low : Int) : jexp a low = ba (d ++ List.replicate (a.exp - low).toNat 48) := by
  unfold jexp zer; rw [if_neg ha.nil, ha.dig, ba_app]
theorem lessS_ok {a b : JNum} {d e : BL} (ha : JOk a d) (hb : JOk b e) : lessS (jexp a (min a.exp b.exp)) (jexp b (min a.exp b.exp)) = decide (kcmp a b d e = -1) := by
  rw [jexp_ok ha, jexp_ok hb]
  unfold lessS kcmp
  rw [ba_size, ba_size, List.length_append, List.length_append, List.length_replicate, List.length_replicate]
  by_cases h : d.length + (a.exp - min a.exp b.exp).toNat = e.length + (b.exp - min a.exp b.exp).toNat
  · rw [if_pos h, if_pos (by rw [cmpI_zero]; omega), blt_cmp, pad2 ha.ad hb.ad ha.lst hb.lst h]
  · rw [if_neg h, if_neg (by rw [cmpI_zero]; omega)]
    refine decide_eq_decide.2 ?_
    unfold cmpI
    split
    · simp; omega
    · split <;> (constructor <;> intro hh <;> omega)
theorem rLess_ok {a b : JNum} {d e : BL} (ha : JOk a d) (hb : JOk b e) : rLess a b = if a.neg = b.neg then (if a.neg = true then decide (kcmp a b d e = 1) else decide (kcmp a b d e = -1)) else a.neg := by
  unfold rLess
  rw [lessS_ok ha hb]
  have := lessS_ok hb ha
  rw [Int.min_comm] at this
  rw [this, kcmp_anti a b]
  have : decide (- kcmp a b d e = -1) = decide (kcmp a b d e = 1) := decide_eq_decide.2 (by omega)
  rw [this]
theorem jexp_nil (low : Int) : jexp {} low = ⟨#[]⟩ := by unfold jexp; rw [if_pos rfl]
theorem jexp_pos {b : JNum} {e : BL} (hb : JOk b e) (low : Int) : 0 < (jexp b low).size := by
  rw [jexp_ok hb, ba_size, List.length_append]
  have := List.length_pos_iff.2 hb.ne
  omega
theorem lessS_l {b : JNum} {e : BL} (hb : JOk b e) (low : Int) : lessS ⟨#[]⟩ (jexp b low) = true := by
  have h := jexp_pos hb low
  have h0 : (⟨#[]⟩ : ByteArray).size = 0 := rfl
  unfold lessS; rw [if_neg (by omega)]; exact decide_eq_true (by omega)
theorem lessS_r {b : JNum} {e : BL} (hb : JOk b e) (low : Int) : lessS (jexp b low) ⟨#[]⟩ = false := by
  have h := jexp_pos hb low
  have h0 : (⟨#[]⟩ : ByteArray).size = 0 := rfl
  unfold lessS; rw [if_neg (by omega)]; exact decide_eq_false (by omega)
theorem rLess_l {b : JNum} {e : BL} (hb : JOk b e) : rLess {} b = !b.neg := by
  unfold rLess
  rw [jexp_nil, lessS_l hb, lessS_r hb]
  cases b.neg <;> rfl
theorem rLess_r {b : JNum} {e : BL} (hb : JOk b e) : rLess b {} = b.neg := by
  unfold rLess
  rw [jexp_nil, lessS_l hb, lessS_r hb]
  cases b.neg <;> rfl
theorem rLess_z : rLess {} {} = false := by
  unfold rLess
  rw [jexp_nil]
  show lessS ⟨#[]⟩ ⟨#[]⟩ = false
  unfold lessS; rw [if_pos rfl]
  exact (blt_cmp [] []).trans rfl
theorem cmp_same {a b : JNum} (ha : JMay a) (hb : JMay b) : pCmp a b = rCmp a b := by
  unfold rCmp
  rcases ha with rfl | ⟨d, ha⟩
  · rcases hb with rfl | ⟨e, hb⟩
    · rw [rLess_z, pCmp_zz]; rfl
    · rw [pCmp_zl rfl hb, rLess_l hb, rLess_r hb]; cases b.neg <;> rfl
  · rcases hb with rfl | ⟨e, hb⟩
    · rw [pCmp_zr ha rfl, rLess_l ha, rLess_r ha]; cases a.neg <;> rfl
    · rw [pCmp_ok ha hb, rLess_ok ha hb, rLess_ok hb ha, kcmp_anti a b]
      rcases kcmp_cases a b d e with h | h | h <;> rw [h] <;> cases a.neg <;> cases b.neg <;> rfl
/-! ### The order -/
theorem pCmp_anti {a b : JNum} (ha : JMay a) (hb : JMay b) : pCmp b a = - pCmp a b := by
  rcases ha with rfl | ⟨d, ha⟩
  · rcases hb with rfl | ⟨e, hb⟩
    · rw [pCmp_zz]; rfl
    · rw [pCmp_zl rfl hb, pCmp_zr hb rfl]; cases b.neg <;> rfl
  · rcases hb with rfl | ⟨e, hb⟩
    · rw [pCmp_zl rfl ha, pCmp_zr ha rfl]; cases a.neg <;> rfl
    · rw [pCmp_ok ha hb, pCmp_ok hb ha, kcmp_anti a b]
      cases a.neg <;> cases b.neg <;> simp
theorem kcmp_zero {a b : JNum} {d e : BL} : kcmp a b d e = 0 ↔ d = e ∧ a.exp = b.exp := by
  unfold kcmp
  by_cases h : cmpI (d.length + a.exp) (e.length + b.exp) = 0
  · rw [if_pos h, cmpL_eq]
    rw [cmpI_zero] at h
    constructor
    · rintro rfl; exact ⟨rfl, by omega⟩
    · exact fun h => h.1
  · rw [if_neg h]
    constructor
    · exact fun k => absurd k h
    · rintro ⟨rfl, h2⟩; rw [cmpI_zero] at h; exact absurd (by rw [h2]) h
theorem pCmp_zero {a b : JNum} (ha : JMay a) (hb : JMay b) : pCmp a b = 0 ↔ a = b := by
  rcases ha with rfl | ⟨d, ha⟩
  · rcases hb with rfl | ⟨e, hb⟩
    · simp [pCmp_zz]
    · rw [pCmp_zl rfl hb]
      constructor
      · intro h; cases hh : b.neg <;> rw [hh] at h <;> simp at h
      · intro h; exact absurd (by rw [← h]) hb.nil
  · rcases hb with rfl | ⟨e, hb⟩
    · rw [pCmp_zr ha rfl]
      constructor
      · intro h; cases hh : a.neg <;> rw [hh] at h <;> simp at h
      · intro h; exact absurd (by rw [h]) ha.nil
    · rw [pCmp_ok ha hb]
      constructor
      · intro h
        have hn : a.neg = b.neg := by
          cases h1 : a.neg <;> cases h2 : b.neg <;> rw [h1, h2] at h <;> simp at h ⊢
        rw [if_pos hn] at h
        have hk : kcmp a b d e = 0 := by split at h <;> omega
        obtain ⟨h1, h2⟩ := kcmp_zero.1 hk
        have h3 := ha.dig; have h4 := hb.dig
        cases a; cases b; simp only at *; subst h1; subst h2; subst hn; rw [h3, h4]
      · rintro rfl
        have hde : d = e := ba_inj.1 (ha.dig.symm.trans hb.dig)
        rw [if_pos rfl, kcmp_zero.2 ⟨hde, rfl⟩]; simp
theorem kcmp_trans {a b c : JNum} {d e f : BL} (h : kcmp a b d e ≤ 0) (k : kcmp b c e f ≤ 0) : kcmp a c d f ≤ 0 := by
  unfold kcmp at *
  have hI : ∀ x y, cmpI x y = if x < y then -1 else if y < x then 1 else 0 := fun x y => rfl
  by_cases h1 : cmpI (d.length + a.exp) (e.length + b.exp) = 0
  · rw [if_pos h1] at h
    by_cases h2 : cmpI (e.length + b.exp) (f.length + c.exp) = 0
    · rw [if_pos h2] at k
      rw [cmpI_zero] at h1 h2
      rw [if_pos (by rw [cmpI_zero]; omega)]
      exact cmpL_trans d e f h k
    · rw [if_neg h2] at k
      rw [cmpI_zero] at h1
      rw [h1, if_neg h2]; exact k
  · rw [if_neg h1] at h
    rw [hI] at h
    have hlt : (d.length : Int) + a.exp < e.length + b.exp := by
      rcases Int.lt_trichotomy ((d.length : Int) + a.exp) (e.length + b.exp) with x | x | x
      · exact x
      · exact absurd ((cmpI_zero _ _).2 x) h1
      · rw [if_neg (by omega), if_pos x] at h; omega
    have hle : (e.length : Int) + b.exp ≤ f.length + c.exp := by
      by_cases h2 : cmpI (e.length + b.exp) (f.length + c.exp) = 0
      · rw [cmpI_zero] at h2; omega
      · rw [if_neg h2, hI] at k
        rcases Int.lt_trichotomy ((e.length : Int) + b.exp) (f.length + c.exp) with x | x | x
        · omega
        · omega
        · rw [if_neg (by omega), if_pos x] at k; omega
    rw [if_neg (by rw [cmpI_zero]; omega), hI, if_pos (by omega)]; omega
theorem pCmp_trans {a b c : JNum} (ha : JMay a) (hb : JMay b) (hc : JMay c) (h : pCmp a b ≤ 0) (k : pCmp b c ≤ 0) : pCmp a c ≤ 0 := by
  rcases ha with rfl | ⟨d, ha⟩
  · rcases hc with rfl | ⟨f, hc⟩
    · rw [pCmp_zz]; omega
    · rw [pCmp_zl rfl hc]
      cases hcn : c.neg
      · simp
      · exfalso
        rcases hb with rfl | ⟨e, hb⟩
        · rw [pCmp_zl rfl hc, hcn] at k; simp at k
        · rw [pCmp_zl rfl hb] at h
          rw [pCmp_ok hb hc, hcn] at k
          cases hbn : b.neg <;> rw [hbn] at h k <;> simp at h k
  · rcases hc with rfl | ⟨f, hc⟩
    · rw [pCmp_zr ha rfl]
      cases han : a.neg
      · exfalso
        rcases hb with rfl | ⟨e, hb⟩
        · rw [pCmp_zr ha rfl, han] at h; simp at h
        · rw [pCmp_zr hb rfl] at k
          rw [pCmp_ok ha hb, han] at h
          cases hbn : b.neg <;> rw [hbn] at h k <;> simp at h k
      · simp
    · rw [pCmp_ok ha hc]
      rcases hb with rfl | ⟨e, hb⟩
      · rw [pCmp_zr ha rfl] at h
        rw [pCmp_zl rfl hc] at k
        cases han : a.neg <;> cases hcn : c.neg <;> rw [han] at h <;> rw [hcn] at k <;> simp at h k ⊢
      · rw [pCmp_ok ha hb] at h
        rw [pCmp_ok hb hc] at k
        have hk1 := @kcmp_trans a b c d e f
        have hk2 := @kcmp_trans c b a f e d
        rw [kcmp_anti b c, kcmp_anti a b, kcmp_anti a c] at hk2
        cases han : a.neg <;> cases hbn : b.neg <;> cases hcn : c.neg <;> rw [han, hbn] at h <;> rw [hbn, hcn] at k <;> simp at h k ⊢
        · exact hk1 h k
        · have := hk2 (by omega) (by omega); omega
end Lg
namespace Lg
open Go
/-! ### Decimal digits -/
theorem valL_snoc (l : BL) (c : UInt8) (v : Int) : valL v (l ++ [c]) = 10 * valL v l + (c.toNat : Int) - 48 := by
  unfold valL; rw [List.foldl_append]; rfl
theorem dd_facts (u : Nat) : aD (Lib.decDigits u) ∧ valL 0 (Lib.decDigits u) = u ∧ Lib.decDigits u ≠ [] ∧ (0 < u → (Lib.decDigits u).head? ≠ some 48) := by
  induction u using Nat.strongRecOn with
  | ind u ih =>
    by_cases h : u < 10
    · rw [dd_small h]
      have e : (UInt8.ofNat (48 + u)).toNat = 48 + u := by rw [UInt8.toNat_ofNat']; omega
      refine ⟨fun b hb => ?_, ?_, by simp, ?_⟩
      · have : b = UInt8.ofNat (48 + u) := by simpa using hb
        subst this; rw [isD_iff, e]; omega
      · show 10 * (0 : Int) + ((UInt8.ofNat (48 + u)).toNat : Int) - 48 = u
        rw [e]; omega
      · intro hu hh
        have : UInt8.ofNat (48 + u) = 48 := by simpa using hh
        have := congrArg UInt8.toNat this
        rw [e] at this
        have e48 : (48 : UInt8).toNat = 48 := rfl
        omega
    · rw [dd_big h]
      obtain ⟨h1, h2, h3, h4⟩ := ih (u / 10) (by omega)
      have e : (UInt8.ofNat (48 + u % 10)).toNat = 48 + u % 10 := by rw [UInt8.toNat_ofNat']; omega
      refine ⟨fun b hb => ?_, ?_, by simp, ?_⟩
      · rcases List.mem_append.1 hb with hb | hb
        · exact h1 b hb
        · have : b = UInt8.ofNat (48 + u % 10) := by simpa using hb
          subst this; rw [isD_iff, e]; omega
      · rw [valL_snoc, h2, e]; omega
      · intro hu
        have hd0 : (Lib.decDigits (u / 10) ++ [UInt8.ofNat (48 + u % 10)]).head? = (Lib.decDigits (u / 10)).head? := by
          cases hq : Lib.decDigits (u / 10) with
          | nil => exact absurd hq h3
          | cons => rfl
        rw [hd0]
        exact h4 (by omega)
theorem dd_len10 (k : Nat) : ∀ (u : Nat), 1 ≤ k → u < 10 ^ k → (Lib.decDigits u).length ≤ k := by
  induction k with
  | zero => intro u h; omega
  | succ k ih =>
    intro u _ hu
    by_cases h : u < 10
    · rw [dd_small h]; simp
    · rw [dd_big h, List.length_append]
      have hk : 1 ≤ k := by
        rcases Nat.eq_zero_or_pos k with rfl | h0
        · simp at hu; omega
        · exact h0
      have := ih (u / 10) hk (by rw [Nat.pow_succ] at hu; omega)
      simp only [List.length_cons, List.length_nil]; omega
theorem tw_all {d : BL} (h : aD d) (r : BL) (hr : r.head?.all (fun b => !isD b) = true) : (d ++ r).takeWhile isD = d ∧ (d ++ r).dropWhile isD = r := by
  induction d with
  | nil =>
    cases r with
    | nil => exact ⟨rfl, rfl⟩
    | cons b q =>
      have hb : isD b = false := by simpa using hr
      simp [List.takeWhile_cons, List.dropWhile_cons, hb]
  | cons b d ih =>
    have hb : isD b = true := h b (List.mem_cons_self ..)
    obtain ⟨h1, h2⟩ := ih (fun c hc => h c (List.mem_cons_of_mem _ hc))
    simp only [List.cons_append, List.takeWhile_cons, List.dropWhile_cons, hb, if_true]
    exact ⟨by rw [h1], h2⟩
theorem hd_ne45 {d : BL} (h : aD d) (hne : d ≠ []) (r : BL) : strip 45 (d ++ r) = d ++ r ∧ strip 43 (d ++ r) = d ++ r ∧ hd45 (d ++ r) = false ∧ hdC 43 (d ++ r) = false := by
  cases d with
  | nil => exact absurd rfl hne
  | cons b q =>
    have hb := (aD_cons h).1
    have h45 : ¬ b = 45 := by rintro rfl; exact absurd hb.1 (by decide)
    refine ⟨strip_ne (by omega), strip_ne (by omega), by simp [hd45, h45], ?_⟩
    rw [List.cons_append, hdC_cons]
    exact decide_eq_false (by have : (43 : UInt8).toNat = 43 := rfl; omega)
theorem itoa_pos {n : Int} (h : 0 ≤ n) : Lib.itoa n = Lib.decDigits n.toNat := by unfold Lib.itoa; rw [if_neg (by omega)]
theorem itoa_neg' {n : Int} (h : n < 0) : Lib.itoa n = 45 :: Lib.decDigits (-n).toNat := by unfold Lib.itoa; rw [if_pos h]; congr 2; omega
theorem smallN_dd {u : Nat} (h : u < 100000) : smallN (Lib.decDigits u) = u := by
  obtain ⟨h1, h2, h3, h4⟩ := dd_facts u
  unfold smallN
  rw [if_pos, valL_zeros, h2]
  have := (List.dropWhile_sublist (l := Lib.decDigits u) (· == (48 : UInt8))).length_le
  have := dd_len10 5 u (by omega) (by simpa using h)
  omega
/-- An exponent's text. -/
theorem smallI_itoa {n : Int} (h : -1000 ≤ n ∧ n ≤ 1000) : smallI (Lib.itoa n) = n := by
  by_cases hn : n < 0
  · rw [itoa_neg' hn]
    unfold smallI
    rw [if_pos (by rfl), strip_eq (by rfl), smallN_dd (by omega)]; omega
  · rw [itoa_pos (by omega)]
    obtain ⟨h1, h2, h3, h4⟩ := dd_facts n.toNat
    have hh := hd_ne45 h1 h3 []
    rw [List.append_nil] at hh
    unfold smallI
    rw [hh.2.2.1, if_neg (by simp), hh.1, smallN_dd (by omega)]; omega
theorem pExp_itoa {n : Int} (h : -1000 ≤ n ∧ n ≤ 1000) : pExp (101 :: Lib.itoa n) = (Lib.itoa n, true) := by
  have hx : ∀ d : BL, aD d → d ≠ [] → strip 43 (Lib.itoa n) = Lib.itoa n → hdC 43 (Lib.itoa n) = false → strip 45 (Lib.itoa n) = d → pExp (101 :: Lib.itoa n) = (Lib.itoa n, true) := by
    intro d hd hne h43 hc h45
    have h1 : (pExp (101 :: Lib.itoa n)).1 = Lib.itoa n := h43
    have h2 : (pExp (101 :: Lib.itoa n)).2 = true := by
      rw [pExp2, h43, h45, hc]
      have := (tw_all hd [] rfl).1
      rw [List.append_nil] at this
      rw [this]
      simp [hne]
    rw [← h1, ← h2, h1, h2]
    exact Prod.ext h1 h2
  by_cases hn : n < 0
  · obtain ⟨h1, h2, h3, h4⟩ := dd_facts (-n).toNat
    refine hx (Lib.decDigits (-n).toNat) h1 h3 ?_ ?_ ?_ <;> rw [itoa_neg' hn] <;> rfl
  · obtain ⟨h1, h2, h3, h4⟩ := dd_facts n.toNat
    have hh := hd_ne45 h1 h3 []
    rw [List.append_nil, ← itoa_pos (by omega)] at hh
    exact hx _ (by rw [itoa_pos (by omega)]; exact h1) (by rw [itoa_pos (by omega)]; exact h3) hh.2.1 hh.2.2.2 hh.1
theorem cutL_id {d : BL} (h : d.head? ≠ some 48) : cutL d = d := by
  cases d with
  | nil => rfl
  | cons b q => rw [cutL_cons, if_neg (fun e => h (by rw [e]; rfl))]
theorem cutR_id {d : BL} (h : d.getLast? ≠ some 48) : cutR d = d := by
  unfold cutR
  have : d.reverse.head? ≠ some 48 := by rwa [List.head?_reverse]
  have h2 := cutL_id this
  unfold cutL at h2
  rw [h2, List.reverse_reverse]
/-- The parts of a number's canonical text. -/
theorem pParts_show {d r : BL} {x : BL} (hd : aD d) (hne : d ≠ []) (hh : 1 < d.length → d.head? ≠ some 48) (hr : r.head?.all (fun b => !isD b) = true) (hf : pFrac r = some ([], r)) (hx : pExp r = (x, true)) :
    pParts (d ++ r) = (d, [], x, true) := by
  obtain ⟨h1, h2⟩ := tw_all hd r hr
  have hl := List.length_pos_iff.2 hne
  rw [pParts_some (f := []) (r := r) ?_ (by rw [h2]; exact hf), h1, hx]
  rw [h1]
  rintro (h | ⟨h, hz⟩)
  · omega
  · refine hh h ?_
    cases d with
    | nil => exact absurd rfl hne
    | cons b q => simpa using hz
/-- A text of a sign, digits, and an exponent is read. -/
theorem pNum_text {d r x : BL} {ng : Bool} {n : Int} (hd : aD d) (hne : d ≠ []) (hh : d.head? ≠ some 48) (hl : d.getLast? ≠ some 48) (hlen : d.length ≤ 60) (hr : r.head?.all (fun b => !isD b) = true) (hf : pFrac r = some ([], r)) (hx : pExp r = (x, true)) (hs : smallI x = n) (hn : -1000 ≤ n ∧ n ≤ 1000) :
    pNum ((if ng = true then [45] else []) ++ (d ++ r)) = (⟨ng, ba d, n⟩, 0) := by
  have hst : strip 45 ((if ng = true then [45] else []) ++ (d ++ r)) = d ++ r := by
    cases ng
    · exact (hd_ne45 hd hne r).1
    · exact strip_eq rfl
  have h45 : hd45 ((if ng = true then [45] else []) ++ (d ++ r)) = ng := by
    cases ng
    · exact (hd_ne45 hd hne r).2.2.1
    · rfl
  have hp := pParts_show hd hne (fun _ => hh) hr hf hx
  have hA : pAll ((if ng = true then [45] else []) ++ (d ++ r)) = d := by
    unfold pAll; rw [hst, hp]; simp only [List.append_nil]; exact cutL_id hh
  have hX : pX ((if ng = true then [45] else []) ++ (d ++ r)) = n := by
    unfold pX; rw [hst, hp, hA, cutR_id hl]; simp only [List.length_nil]; rw [hs]; omega
  rw [pNum_some (by rw [hst, hp]) (by rw [hA]; exact hne) (by rw [hA, hX, cutR_id hl]; omega), hA, hX, h45, cutR_id hl]
theorem back {n : JNum} (h : JMay n) : ∃ l, jshow n = ba l ∧ pNum l = (n, 0) ∧ l.length ≤ 1000 := by
  rcases h with rfl | ⟨d, h⟩
  · refine ⟨[48], ?_, ?_, by simp⟩
    · unfold jshow; rw [if_pos rfl]; rfl
    · have hp : pParts (strip 45 [48]) = ([48], [], [48], true) := pParts_show (d := [48]) (r := []) (fun b hb => by simp at hb; subst hb; rfl) (by simp) (fun h => by simp at h) rfl rfl rfl
      exact pNum_zero (by rw [hp]) (by unfold pAll; rw [hp]; rfl)
  · have hsg : ∀ m : ByteArray, (if n.neg = true then (⟨#[45]⟩ : ByteArray) ++ n.digits else n.digits) = ba ((if n.neg = true then [45] else []) ++ d) := by
      intro m
      rw [h.dig]
      cases n.neg
      · rfl
      · exact ba_app [45] d
    have hlen := h.len; have hlo := h.lo; have hhi := h.hi
    have hsl : (if n.neg = true then [(45 : UInt8)] else []).length ≤ 1 := by split <;> simp
    unfold jshow
    rw [if_neg h.nil, hsg ⟨#[]⟩]
    by_cases he : n.exp = 0
    · rw [if_pos he]
      refine ⟨_, rfl, ?_, by rw [List.length_append]; omega⟩
      have := pNum_text (d := d) (r := []) (x := [48]) (ng := n.neg) (n := 0) h.ad h.ne h.hd h.lst h.len rfl rfl rfl rfl (by omega)
      rw [List.append_nil] at this
      rw [this, ← h.dig, ← he]
    · rw [if_neg he]
      refine ⟨(if n.neg = true then [45] else []) ++ (d ++ (101 :: Lib.itoa n.exp)), ?_, ?_, ?_⟩
      · rw [show (⟨#[101]⟩ : ByteArray) = ba [101] from rfl, ba_app]
        unfold itoaB
        rw [ba_app]; simp
      · rw [pNum_text (d := d) (r := 101 :: Lib.itoa n.exp) (x := Lib.itoa n.exp) (ng := n.neg) (n := n.exp) h.ad h.ne h.hd h.lst h.len rfl rfl (pExp_itoa ⟨hlo, hhi⟩) (smallI_itoa ⟨hlo, hhi⟩) ⟨hlo, hhi⟩, ← h.dig]
      · have := itoa_size (n := n.exp) (by omega) (by omega)
        unfold itoaB at this; rw [ba_size] at this
        simp only [List.length_append, List.length_cons]; omega
end Lg
namespace Lg
open Go
/-! ### Which element a name means -/
def jixB (nm : BL) : Prop := nm = [] ∨ ¬ runl (ba nm) 0 = nm.length ∨ (1 < nm.length ∧ (bat (ba nm) 0).toNat = 48) ∨ 18 < nm.length
instance (nm : BL) : Decidable (jixB nm) := by unfold jixB; infer_instance
def jidx (nm : BL) (n : Nat) (e : Bool) : Option Nat :=
  if e = true ∧ nm = [45] then some n else
  if jixB nm then none else
  if valL 0 nm < n ∨ (valL 0 nm = n ∧ e = true) then some (valL 0 nm).toNat else none
def jixN (nm : BL) (n : Nat) (e : Bool) : Int := (jidx nm n e).elim 0 (fun k => (k : Int))
def jixO (nm : BL) (n : Nat) (e : Bool) : Bool := (jidx nm n e).isSome
theorem jix_minus {nm : BL} {n : Nat} {e : Bool} (h1 : e = true) (h2 : nm = [45]) : jixN nm n e = n ∧ jixO nm n e = true := by
  unfold jixN jixO jidx; rw [if_pos ⟨h1, h2⟩]; exact ⟨rfl, rfl⟩
theorem jix_bad {nm : BL} {n : Nat} {e : Bool} (h : ¬ (e = true ∧ nm = [45])) (hb : jixB nm) : jixN nm n e = 0 ∧ jixO nm n e = false := by
  unfold jixN jixO jidx; rw [if_neg h, if_pos hb]; exact ⟨rfl, rfl⟩
theorem jix_val {nm : BL} {n : Nat} {e : Bool} (h : ¬ (e = true ∧ nm = [45])) (hb : ¬ jixB nm) (h0 : 0 ≤ valL 0 nm) (hv : valL 0 nm < n ∨ (valL 0 nm = n ∧ e = true)) : jixN nm n e = valL 0 nm ∧ jixO nm n e = true := by
  unfold jixN jixO jidx; rw [if_neg h, if_neg hb, if_pos hv]; exact ⟨Int.toNat_of_nonneg h0, rfl⟩
theorem jix_big {nm : BL} {n : Nat} {e : Bool} (h : ¬ (e = true ∧ nm = [45])) (hb : ¬ jixB nm) (hv : ¬ (valL 0 nm < n ∨ (valL 0 nm = n ∧ e = true))) : jixN nm n e = 0 ∧ jixO nm n e = false := by
  unfold jixN jixO jidx; rw [if_neg h, if_neg hb, if_neg hv]; exact ⟨rfl, rfl⟩
theorem jixB_aD {nm : BL} (h : ¬ jixB nm) : aD nm ∧ 0 < nm.length ∧ nm.length ≤ 18 := by
  unfold jixB at h
  have h1 : runl (ba nm) 0 = nm.length := Classical.byContradiction fun x => h (.inr (.inl x))
  rw [runl_ba] at h1
  refine ⟨aD_of_len h1, ?_, Nat.le_of_not_lt fun x => h (.inr (.inr (.inr x)))⟩
  have h2 : nm ≠ [] := fun x => h (.inl x)
  exact List.length_pos_iff.2 h2
theorem valL_bd {l : BL} (h : aD l) : 0 ≤ valL 0 l ∧ valL 0 l < 10 ^ l.length := by
  have := valL_nat l 0 h
  exact ⟨this.2.1, by have h2 := this.2.2; simpa using h2⟩
theorem jidx_le {nm : BL} {n k : Nat} {e : Bool} (h : jidx nm n e = some k) : k ≤ n ∧ (e = false → k < n) := by
  unfold jidx at h
  split at h
  · rename_i h1; cases h; exact ⟨Nat.le_refl _, fun h => by rw [h1.1] at h; cases h⟩
  · split at h
    · cases h
    · rename_i hb0
      have h0 := (valL_bd (jixB_aD hb0).1).1
      split at h
      · rename_i h1
        cases h
        rcases h1 with h1 | ⟨h1, h2⟩
        · exact ⟨by omega, fun _ => by omega⟩
        · exact ⟨by omega, fun h => by rw [h2] at h; cases h⟩
      · cases h
theorem valL_take {l : BL} (h : aD l) (h18 : l.length ≤ 18) {i : Nat} (hi : i < l.length) : 0 ≤ valL 0 (l.take i) ∧ valL 0 (l.take i) < 100000000000000000 := by
  have ha : aD (l.take i) := fun b hb => h b (List.mem_of_mem_take hb)
  have h1 := valL_bd ha
  refine ⟨h1.1, Int.lt_of_lt_of_le h1.2 ?_⟩
  have h2 : (l.take i).length ≤ 17 := by rw [List.length_take]; omega
  have h3 : (10 : Nat) ^ (l.take i).length ≤ 10 ^ 17 := Nat.pow_le_pow_right (by decide) h2
  have h4 : ((10 : Nat) ^ (l.take i).length : Int) ≤ ((10 ^ 17 : Nat) : Int) := by exact_mod_cast h3
  exact h4
theorem valL_step {l : BL} {i : Nat} {c : UInt8} (h : l[i]? = some c) : valL 0 (l.take (i + 1)) = 10 * valL 0 (l.take i) + (c.toNat : Int) - 48 := by
  rw [ltake_succ h, valL_snoc]
/-! ### A value with one change, as the reference makes it -/
def eIns (last : Bool) (op : Int) (k : Nat) (x : JV) (i : Nat) : List JV := if i = k ∧ last = true ∧ op ≠ 2 then [x] else []
def eOld (last : Bool) (op : Int) (k : Nat) (y : JV) (l : List JV) (i : Nat) : List JV := match l[i]? with
  | none => []
  | some a => if i = k then (if last = true then (if op = 1 then [a] else []) else [y]) else [a]
def eA (last : Bool) (op : Int) (k : Nat) (x y : JV) (l : List JV) : Nat → List JV
  | 0 => []
  | i + 1 => eA last op k x y l i ++ eIns last op k x i ++ eOld last op k y l i
def eMi (last : Bool) (op : Int) (key k : ByteArray) (put : Bool) : Bool := last && decide (op ≠ 2) && !put && !blt k key
def eM (last : Bool) (op : Int) (key : ByteArray) (x : JV) (f : JV → JV) : List (ByteArray × JV) → Bool → List (ByteArray × JV)
  | [], put => if (last && decide (op ≠ 2) && !put) = true then [(key, x)] else []
  | q :: r, put => (if eMi last op key q.1 put = true then [(key, x)] else []) ++ ((if q.1 = key then (if last = true then [] else [(q.1, f q.2)]) else [q]) ++ eM last op key x f r (put || eMi last op key q.1 put))
def eBad (last : Bool) (key : ByteArray) (g : JV → Int) (m : List (ByteArray × JV)) : Int := if last = true then 0 else ((m.find? fun q => decide (q.1 = key) && decide (g q.2 ≠ 0)).map fun q => g q.2).getD 0
def jed (op : Int) (x : JV) : List BL → JV → JV × Int
  | [], v => if op = 2 then (vz, 7) else (x, 0)
  | nm :: r, v =>
    if v.kind = 4 then
      if jixO nm v.l.length (decide (op = 1) && r.isEmpty) = true then
        if r.isEmpty = false ∧ (jed op x r (v.l.getD (jixN nm v.l.length (decide (op = 1) && r.isEmpty)).toNat vz)).2 ≠ 0 then (vz, (jed op x r (v.l.getD (jixN nm v.l.length (decide (op = 1) && r.isEmpty)).toNat vz)).2)
        else (.mk v.kind v.b v.n v.s (eA r.isEmpty op (jixN nm v.l.length (decide (op = 1) && r.isEmpty)).toNat x (jed op x r (v.l.getD (jixN nm v.l.length (decide (op = 1) && r.isEmpty)).toNat vz)).1 v.l (v.l.length + 1)) [], 0)
      else (vz, 6)
    else if v.kind ≠ 5 ∨ (jfB v (ba nm) = false ∧ (op ≠ 1 ∨ r.isEmpty = false)) then (vz, 6)
    else if eBad r.isEmpty (ba nm) (fun y => (jed op x r y).2) v.m ≠ 0 then (vz, eBad r.isEmpty (ba nm) (fun y => (jed op x r y).2) v.m)
    else (.mk v.kind v.b v.n v.s [] (eM r.isEmpty op (ba nm) x (fun y => (jed op x r y).1) v.m false), 0)
theorem eA_len (last : Bool) (op : Int) (k : Nat) (x y : JV) (l : List JV) (i : Nat) : (eA last op k x y l i).length ≤ i + (if k < i then 1 else 0) := by
  induction i with
  | zero => simp [eA]
  | succ i ih =>
    have h1 : (eOld last op k y l i).length ≤ 1 := by unfold eOld; (repeat' split) <;> simp
    have h2 : (eIns last op k x i).length ≤ (if i = k then 1 else 0) := by
      unfold eIns; split
      · rename_i h; rw [if_pos h.1]; exact Nat.le_refl _
      · exact Nat.zero_le _
    rw [eA, List.length_append, List.length_append]
    (repeat' split at ih) <;> (repeat' split at h2) <;> (repeat' split) <;> omega
theorem eIns_y {last : Bool} {op : Int} {k : Nat} {x : JV} {i : Nat} (h : i = k ∧ last = true ∧ op ≠ 2) : eIns last op k x i = [x] := if_pos h
theorem eIns_n {last : Bool} {op : Int} {k : Nat} {x : JV} {i : Nat} (h : ¬ (i = k ∧ last = true ∧ op ≠ 2)) : eIns last op k x i = [] := if_neg h
end Lg
