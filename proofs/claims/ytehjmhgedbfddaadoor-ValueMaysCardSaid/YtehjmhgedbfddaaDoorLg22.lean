import Derived.Test.YtehjmhgedbfddaaDoorLg21
import Derived.Laws.Pointers
set_option linter.unusedVariables false
set_option linter.unusedSimpArgs false
set_option linter.unusedSectionVars false
namespace Lg
open Go Go.RowKit
variable [GLay]
variable {P : Program} {N : Nat} {σ : List AO} {e : Env} {Q : QA} {ops : Array Oper} {o : Oper}

/-- A new object that is never written again. -/
theorem Good.rowO {s : CS} (g : Good s) (ob : Obj) {w : World} (hw : Below s.w.heap.size s.w w) (hws : w.heap.size = s.w.heap.size) :
    ∃ s', s'.σ = s.σ ∧ s'.w = w.alloc ob ∧ Good s' ∧ Ext s s' ∧ s'.ok s.w.heap.size := by
  let s' : CS := { s with ok := fun b => s.ok b ∨ b = s.w.heap.size, w := w.alloc ob }
  have hheap : ∀ {b : Nat}, b < s.w.heap.size → s'.w.heap[b]? = s.w.heap[b]? := fun {b} hb => by
    show (w.alloc _).heap[b]? = _; rw [alloc_heap, if_neg (by omega)]; exact hw.block b hb
  have hsz : s'.w.heap.size = s.w.heap.size + 1 := by show (w.alloc _).heap.size = _; rw [alloc_size, hws]
  have x : Ext s s' := {
    objs := fun _ o h => ⟨o, h, OLe.refl o, fun _ => rfl⟩
    ok := fun _ h => .inl h
    mun := fun _ h => .inl ⟨CS.live_lt (s := s) h, h, rfl⟩
    frame := fun b hb _ => hheap hb
    size := by omega
    tape := hw.tape
    os := hw.os
    output := hw.output }
  refine ⟨s', rfl, rfl, ⟨fun b hb => ?_, fun p o ho => ?_, fun p q hpq hp hq => g.inj p q hpq hp hq, fun b o ho => ?_⟩, x, .inr rfl⟩
  · rcases hb with hb | rfl
    · exact Nat.lt_of_lt_of_le (g.okb b hb) x.size
    · omega
  · have hb : ∀ (vs : Array Value) (T : TypeId), s.w.heap[(s.μ p).b]? = some (.cells vs T (0, 0)) → (s.μ p).b < s.w.heap.size := fun _ _ h => (Array.getElem?_eq_some_iff.1 h).1
    by_cases hlt : (s.μ p).b < s.w.heap.size
    · refine (g.obj p o ho).mono g x rfl (fun h1 h2 => ?_) fun vs T hb _ => (hheap (Array.getElem?_eq_some_iff.1 hb).1).trans hb
      rcases h2 with h2 | h2
      · exact h1 h2
      · omega
    · have h := g.obj p o ho
      cases o with
      | box cs => obtain ⟨_, vs, T, h2, _⟩ := h; exact absurd (hb _ _ h2) hlt
      | arr sz gg cs =>
        rcases h with h | ⟨_, _, vs, T, h2, _⟩
        · exact .inl h
        · exact absurd (hb _ _ h2) hlt
      | gone => trivial
      | dead => trivial
  · obtain ⟨h1, h2⟩ := g.glob b o ho
    exact ⟨.inl h1, (hheap (g.okb b h1)).trans h2⟩

/-- The bytes, row by row. -/
def brows (b : ByteArray) : List (List AV) := b.data.toList.map fun u => [.int .u8 u.toNat]
theorem brows_flatten (b : ByteArray) : (brows b).flatten = bcells b := by
  unfold brows bcells
  induction b.data.toList with
  | nil => rfl
  | cons x l ih => simp [ih]
theorem brows_length (b : ByteArray) : (brows b).length = b.size := by
  unfold brows; rw [List.length_map]; rfl
theorem brows_get {b : ByteArray} {i : Nat} (h : i < b.size) : (brows b)[i]? = some [.int .u8 (b.get! i).toNat] := by
  have h' : i < b.data.size := h
  simp only [brows, List.getElem?_map, Array.getElem?_toList]
  rw [Array.getElem?_eq_getElem h']
  have : b.get! i = b.data[i] := by
    show b.data[i]! = _
    exact getElem!_pos b.data i h'
  rw [this]; rfl
theorem op_strBytes {S T E : TypeId} {x : Operand} {b : ByteArray} (ho : o.op = .convert S T x) (hs : P.underlying S = some .string) (hd : P.underlying T = some (.slice E)) (he : P.underlying E = some (.int .u8))
    (hx : opv e x = .str b) : AOp P σ e o (.sl false 1 (brows b)) σ := by
  intro s a hσ g hv K Q hk _
  subst hσ
  have h1 := (hx ▸ hv x (by simp [ho, Op.operands])).inv_str
  obtain ⟨s', e1, e2, g', x', hok⟩ := g.rowO (.cells (bytesRow b (grownCap s.w b.size 0 E)) E ((bytesRow b (grownCap s.w b.size 0 E)).size, (bytesRow b (grownCap s.w b.size 0 E)).size + 1)) (w := s.w.drew) (Below.refl _ _).drew rfl
  refine wp_value (w' := s'.w) ?_ (hk _ (.slice (some ⟨s.w.heap.size, 0, none⟩) b.size (grownCap s.w b.size 0 E)) s' ⟨rfl, e1⟩ g' x' ?_)
  · rw [e2]
    simp [execOp, ho, h1, run_bytes_of_string s.w S T E b hs hd he]
  · rw [← brows_length b]
    refine .sl false 1 (brows b) s.w.heap.size 0 _ (b.data.toList.map fun u => .int .u8 u.toNat) (.inr hok) (fun r hr => ?_) ?_ (fun i v hi => ?_) (fun i c v hc hv' => ?_) ?_ (by simp)
    · simp [brows] at hr; obtain ⟨u, _, rfl⟩ := hr; rfl
    · rw [brows_flatten]; simp [bcells]
    · rw [e2, Nat.zero_add]
      simp only [World.cell?, alloc_heap]
      rw [if_pos (show s.w.heap.size = s.w.drew.heap.size from rfl)]
      have hi' : i < b.data.size := by have := (List.getElem?_eq_some_iff.1 hi).1; simpa using this
      simp only [List.getElem?_map, Array.getElem?_toList] at hi
      simp only [bytesRow]
      rw [Array.getElem?_append_left (by simpa using hi'), Array.getElem?_map]
      exact hi
    · rw [brows_flatten] at hc
      simp only [bcells, List.getElem?_map] at hc hv'
      cases hu : b.data.toList[i]? with
      | none => rw [hu] at hc; cases hc
      | some u => rw [hu] at hc hv'; cases hc; cases hv'; exact .int _ _
    · rw [brows_length]; exact grownCap_ge _ _ _ _

/-! ### Nil or not -/
theorem op_eqPN {T E T' : TypeId} {x y : Operand} {v : AV} (ho : o.op = .binOp .eql T x y T') (hu : P.underlying T = some (.pointer E)) (hx : opO e x = some v) (hn : notNil v = true) (hy : opO e y = some .nilp) : AOp P σ e o (.bool false) σ :=
  op_bin ho (opO_eq hx) (opO_eq hy) fun s cx cy _ _ h1 h2 => by
    have hp : P.pointee T = E := by simp [Program.pointee, hu]
    have hc : ∃ ad, cx = .pointer (some ad) := by
      cases v with
      | ptr p off => exact ⟨_, h1.inv_ptr⟩
      | pp cs => obtain ⟨b, off, vs, h, _⟩ := h1.inv_pp; exact ⟨_, h⟩
      | _ => cases hn
    obtain ⟨ad, rfl⟩ := hc
    rw [h2.inv_nilp]
    exact ⟨_, run_eql_pointer_nil s.w T _ (by rw [hp]; exact hu), .bool _, eqGuard_ptr ..⟩
theorem op_nePN {T E T' : TypeId} {x y : Operand} {v : AV} (ho : o.op = .binOp .neq T x y T') (hu : P.underlying T = some (.pointer E)) (hx : opO e x = some v) (hn : notNil v = true) (hy : opO e y = some .nilp) : AOp P σ e o (.bool true) σ :=
  op_bin ho (opO_eq hx) (opO_eq hy) fun s cx cy _ _ h1 h2 => by
    have hp : P.pointee T = E := by simp [Program.pointee, hu]
    have hc : ∃ ad, cx = .pointer (some ad) := by
      cases v with
      | ptr p off => exact ⟨_, h1.inv_ptr⟩
      | pp cs => obtain ⟨b, off, vs, h, _⟩ := h1.inv_pp; exact ⟨_, h⟩
      | _ => cases hn
    obtain ⟨ad, rfl⟩ := hc
    rw [h2.inv_nilp]
    exact ⟨_, run_neq_pointer_nil s.w T _ (by rw [hp]; exact hu), .bool _, eqGuard_ptr ..⟩
theorem op_eqNN {T E T' : TypeId} {x y : Operand} (ho : o.op = .binOp .eql T x y T') (hu : P.underlying T = some (.pointer E)) (hx : opO e x = some .nilp) (hy : opO e y = some .nilp) : AOp P σ e o (.bool true) σ :=
  op_bin ho (opO_eq hx) (opO_eq hy) fun s cx cy _ _ h1 h2 => by
    have hp : P.pointee T = E := by simp [Program.pointee, hu]
    rw [h1.inv_nilp, h2.inv_nilp]
    exact ⟨_, run_eql_pointer_nil s.w T _ (by rw [hp]; exact hu), .bool _, eqGuard_ptr ..⟩
theorem op_neNN {T E T' : TypeId} {x y : Operand} (ho : o.op = .binOp .neq T x y T') (hu : P.underlying T = some (.pointer E)) (hx : opO e x = some .nilp) (hy : opO e y = some .nilp) : AOp P σ e o (.bool false) σ :=
  op_bin ho (opO_eq hx) (opO_eq hy) fun s cx cy _ _ h1 h2 => by
    have hp : P.pointee T = E := by simp [Program.pointee, hu]
    rw [h1.inv_nilp, h2.inv_nilp]
    exact ⟨_, run_neq_pointer_nil s.w T _ (by rw [hp]; exact hu), .bool _, eqGuard_ptr ..⟩
section iface
variable {T T' : TypeId} {x : Operand} {ms : Array (String × TypeId)}
def isNilI : Value → Bool
  | .nilIface => true
  | _ => false
theorem run_equalInI (w : World) (d : Nat) {ms} (hu : P.underlying T = some (.interface ms)) (c : Value) (hc : c = .nilIface ∨ ∃ t v, c = .iface t v) : (Op.equalIn (d + 1) T c .nilIface).run P w = .ok (isNilI c) w := by
  rcases hc with rfl | ⟨t, v, rfl⟩ <;> simp [Op.equalIn, run_underlying hu, isNilI]
theorem run_equalI (w : World) {ms} (hu : P.underlying T = some (.interface ms)) (c : Value) (hc : c = .nilIface ∨ ∃ t v, c = .iface t v) : (Op.equal T c .nilIface).run P w = .ok (isNilI c) w := run_equalInI w 9999 hu c hc
theorem run_eqI (w : World) {ms} (hu : P.underlying T = some (.interface ms)) (c : Value) (hc : c = .nilIface ∨ ∃ t v, c = .iface t v) : (binOp .eql T c .nilIface).run P w = .ok (.bool (isNilI c)) w := by
  have := run_equalI w hu c hc
  rcases hc with rfl | ⟨t, v, rfl⟩ <;> (simp only [binOp]; simp [this])
theorem run_neI (w : World) {ms} (hu : P.underlying T = some (.interface ms)) (c : Value) (hc : c = .nilIface ∨ ∃ t v, c = .iface t v) : (binOp .neq T c .nilIface).run P w = .ok (.bool (!isNilI c)) w := by
  have := run_equalI w hu c hc
  rcases hc with rfl | ⟨t, v, rfl⟩ <;> (simp only [binOp]; simp [this])
theorem run_eqGuardI (w : World) (op : BinOp) (x : Operand) (z : Value) (c : Value) (hc : c = .nilIface ∨ ∃ t v, c = .iface t v) : (eqGuard op T x (.const z) c .nilIface).run P w = .ok () w := by
  rcases hc with rfl | ⟨t, v, rfl⟩ <;> cases op <;> simp [eqGuard]
theorem op_eqIN {U : TypeId} {v : AV} (ho : o.op = .binOp .eql T x (.const .nilIface) T') (hu : P.underlying T = some (.interface ms)) (hx : opO e x = some (.iface U v)) : AOp P σ e o (.bool false) σ :=
  op_bin ho (opO_eq hx) rfl fun s cx cy _ _ h1 h2 => by
    obtain ⟨u, rfl, _⟩ := h1.inv_iface
    have e2 : cy = .nilIface := h2.inv_nili
    subst e2
    exact ⟨_, run_eqI s.w hu _ (.inr ⟨_, _, rfl⟩), .bool _, run_eqGuardI s.w .eql x _ _ (.inr ⟨_, _, rfl⟩)⟩
theorem op_neIN {U : TypeId} {v : AV} (ho : o.op = .binOp .neq T x (.const .nilIface) T') (hu : P.underlying T = some (.interface ms)) (hx : opO e x = some (.iface U v)) : AOp P σ e o (.bool true) σ :=
  op_bin ho (opO_eq hx) rfl fun s cx cy _ _ h1 h2 => by
    obtain ⟨u, rfl, _⟩ := h1.inv_iface
    have e2 : cy = .nilIface := h2.inv_nili
    subst e2
    exact ⟨_, run_neI s.w hu _ (.inr ⟨_, _, rfl⟩), .bool _, run_eqGuardI s.w .neq x _ _ (.inr ⟨_, _, rfl⟩)⟩
theorem op_eqINil (ho : o.op = .binOp .eql T x (.const .nilIface) T') (hu : P.underlying T = some (.interface ms)) (hx : opO e x = some .nili) : AOp P σ e o (.bool true) σ :=
  op_bin ho (opO_eq hx) rfl fun s cx cy _ _ h1 h2 => by
    have e1 := h1.inv_nili
    have e2 : cy = .nilIface := h2.inv_nili
    subst e1; subst e2
    exact ⟨_, run_eqI s.w hu _ (.inl rfl), .bool _, run_eqGuardI s.w .eql x _ _ (.inl rfl)⟩
theorem op_neINil (ho : o.op = .binOp .neq T x (.const .nilIface) T') (hu : P.underlying T = some (.interface ms)) (hx : opO e x = some .nili) : AOp P σ e o (.bool false) σ :=
  op_bin ho (opO_eq hx) rfl fun s cx cy _ _ h1 h2 => by
    have e1 := h1.inv_nili
    have e2 : cy = .nilIface := h2.inv_nili
    subst e1; subst e2
    exact ⟨_, run_neI s.w hu _ (.inl rfl), .bool _, run_eqGuardI s.w .neq x _ _ (.inl rfl)⟩
end iface

/-! ### A contract of the shelf -/
/-- What a world bears that these blocks lie in. -/
def Laid (w : World) : Prop := ∀ b ob, GLay.f b = some ob → w.heap[b]? = some ob
theorem Good.laid {s : CS} (g : Good s) : Laid s.w := fun b ob h => (g.glob b ob h).2
theorem ACalls_below {f : FuncId} {args : List AV} {v : AV} (h : ∀ (s : CS) (cargs : List Value), Good s → PW s args cargs → ∃ cv, (∀ s' : CS, V s' v cv) ∧ Calls P f cargs.toArray s.w fun en w' => en = .returned cv ∧ Below s.w.heap.size s.w w') :
    ACalls P f args σ (Ret v σ) := fun s cargs hs g hp => by
  obtain ⟨cv, hv, hc⟩ := h s cargs g hp
  refine hc.mono fun en w' ⟨h1, h2⟩ => ?_
  subst h1
  obtain ⟨g', x'⟩ := g.grow h2
  exact ⟨_, rfl, g', x', v, hv _, rfl, hs⟩
theorem PW.str1 {s : CS} {b : ByteArray} {vs : List Value} (h : PW s [.str b] vs) : vs = [.string b] := by
  obtain ⟨h1, h2⟩ := h
  match vs, h1 with
  | [v], _ => rw [(h2 0 (.str b) v rfl rfl).inv_str]
end Lg
