/- A part of the proof of Whatever text is handed in: the nodes that the program compiles of its value as a schema are the document's, and what is amiss is told with the document's number and pointer.: Lg22 Lg23 Lu8 Vg Lg24 Lg25 Lg26 Lg27 Lg28 Lv1 Lv2 Lv3 Lz1 Lz2 Lz2b Lz3. -/
import Derived.Test.YtpcjccmmeaaeaaaGreatDoorS2
import Derived.Laws.Pointers
import Derived.Shelf.Unicode.DecodeSlow
import Derived.WalkKit
import Derived.Lib.ValidU
set_option linter.unusedVariables false
set_option linter.unusedSimpArgs false
set_option linter.unusedSectionVars false
namespace Lg
open Go Go.RowKit
variable [GLay]
variable {P : Program} {N : Nat} {σ : List AO} {e : Env} {Q : QA} {ops : Array Oper} {o : Oper}

theorem Good.rowO {s : CS} (g : Good s) (ob : Obj) {w : World} (hw : Below s.w.heap.size s.w w) (hws : w.heap.size = s.w.heap.size) :
    ∃ s', s'.σ = s.σ ∧ s'.w = w.alloc ob ∧ Good s' ∧ Ext s s' ∧ s'.ok s.w.heap.size := by
  let s' : CS := { s with ok := fun b => s.ok b ∨ b = s.w.heap.size, w := w.alloc ob }
  have hheap : ∀ {b : Nat}, b < s.w.heap.size → s'.w.heap[b]? = s.w.heap[b]? := fun {b} hb => by
    show (w.alloc _).heap[b]? = _; rw [alloc_heap, if_neg (by omega)]; exact hw.block b hb
  have hsz : s'.w.heap.size = s.w.heap.size + 1 := by show (w.alloc _).heap.size = _; rw [alloc_size, hws]
  have x : Ext s s' := {
    objs := fun _ o h => ⟨o, h, OLe.refl o, fun _ => rfl⟩
    ok := fun _ h => .inl h
    okn := fun _ h => h.elim .inl fun e => .inr (.inl (Nat.le_of_eq e.symm))
    mun := fun _ h => .inl ⟨CS.live_lt (s := s) h, h, rfl⟩
    frame := fun b hb _ => hheap hb
    size := by omega
    shp := fun p cs cs' z h1 _ h3 => (shape_eq (hheap (shape_some h3))).trans h3
    tape := hw.tape
    os := hw.os
    output := hw.output }
  refine ⟨s', rfl, rfl, ⟨fun b hb => ?_, fun p o ho => ?_, fun p q hpq hp hq => g.inj p q hpq hp hq, fun b o ho => ?_⟩, x, .inr rfl⟩
  · rcases hb with hb | rfl
    · exact Nat.lt_of_lt_of_le (g.okb b hb) x.size
    · omega
  · exact ORep.keep g x ho rfl (fun hl hk => hk.elim (g.live_lt hl).2 (fun e => by have := (g.live_lt hl).1; omega)) (fun hl => hheap (g.live_lt hl).1)
  · obtain ⟨h1, h2⟩ := g.glob b o ho
    exact ⟨.inl h1, (hheap (g.okb b h1)).trans h2⟩

def brows (b : ByteArray) : List (List AV) := b.data.toList.map fun u => [.int .u8 u.toNat]
theorem brows_flatten (b : ByteArray) : (brows b).flatten = bcells b := by
  unfold brows bcells
  induction b.data.toList with
  | nil => rfl
  | cons x l ih => simp [ih]
theorem brows_length (b : ByteArray) : (brows b).length = b.size := by
  unfold brows; rw [List.length_map]; rfl
theorem op_strBytes {S T E : TypeId} {x : Operand} {b : ByteArray} (ho : o.op = .convert S T x) (hs : P.underlying S = some .string) (hd : P.underlying T = some (.slice E)) (he : P.underlying E = some (.int .u8))
    (hx : opv e x = .str b) : AOp P σ e o (.sl false 1 (brows b)) σ := by
  intro s a hσ g hv K Q hk _
  subst hσ
  have h1 := (hx ▸ hv x (by simp [ho, Op.operands])).inv_str
  obtain ⟨s', e1, e2, g', x', hok⟩ := g.rowO (.cells (bytesRow b (grownCap s.w b.size 0 E)) E ((bytesRow b (grownCap s.w b.size 0 E)).size, (bytesRow b (grownCap s.w b.size 0 E)).size + 1)) (w := s.w.drew) (Below.refl _ _).drew rfl
  refine wp_value (w' := s'.w) ?_ (hk _ (.slice (some ⟨s.w.heap.size, 0, none⟩) b.size (grownCap s.w b.size 0 E)) s' ⟨rfl, e1⟩ g' x' ?_)
  · rw [e2]
    simp [execOp, ho, h1, run_bytes_of_string s.w S T E b hs hd he]
  · rw [← brows_length b]
    refine .sl false 1 (brows b) s.w.heap.size 0 _ (b.data.toList.map fun u => .int .u8 u.toNat) (.inr hok) (fun r hr => ?_) ?_ (fun i v hi => ?_) (fun i c v hc hv' => ?_) ?_ (by simp)
    · simp [brows] at hr; obtain ⟨u, _, rfl⟩ := hr; rfl
    · rw [brows_flatten]; simp [bcells]
    · rw [e2, Nat.zero_add]
      simp only [World.cell?, alloc_heap]
      rw [if_pos (show s.w.heap.size = s.w.drew.heap.size from rfl)]
      have hi' : i < b.data.size := by have := (List.getElem?_eq_some_iff.1 hi).1; simpa using this
      simp only [List.getElem?_map, Array.getElem?_toList] at hi
      simp only [bytesRow]
      rw [Array.getElem?_append_left (by simpa using hi'), Array.getElem?_map]
      exact hi
    · rw [brows_flatten] at hc
      simp only [bcells, List.getElem?_map] at hc hv'
      cases hu : b.data.toList[i]? with
      | none => rw [hu] at hc; cases hc
      | some u => rw [hu] at hc hv'; cases hc; cases hv'; exact .int _ _
    · rw [brows_length]; exact grownCap_ge _ _ _ _

theorem op_eqPN {T E T' : TypeId} {x y : Operand} {v : AV} (ho : o.op = .binOp .eql T x y T') (hu : P.underlying T = some (.pointer E)) (hx : opO e x = some v) (hn : notNil v = true) (hy : opO e y = some .nilp) : AOp P σ e o (.bool false) σ :=
  op_bin ho (opO_eq hx) (opO_eq hy) fun s cx cy _ _ h1 h2 => by
    have hp : P.pointee T = E := by simp [Program.pointee, hu]
    have hc : ∃ ad, cx = .pointer (some ad) := by
      cases v with
      | ptr p off => exact ⟨_, h1.inv_ptr⟩
      | pp cs => obtain ⟨b, off, vs, h, _⟩ := h1.inv_pp; exact ⟨_, h⟩
      | _ => cases hn
    obtain ⟨ad, rfl⟩ := hc
    rw [h2.inv_nilp]
    exact ⟨_, run_eql_pointer_nil s.w T _ (by rw [hp]; exact hu), .bool _, eqGuard_ptr ..⟩
theorem op_nePN {T E T' : TypeId} {x y : Operand} {v : AV} (ho : o.op = .binOp .neq T x y T') (hu : P.underlying T = some (.pointer E)) (hx : opO e x = some v) (hn : notNil v = true) (hy : opO e y = some .nilp) : AOp P σ e o (.bool true) σ :=
  op_bin ho (opO_eq hx) (opO_eq hy) fun s cx cy _ _ h1 h2 => by
    have hp : P.pointee T = E := by simp [Program.pointee, hu]
    have hc : ∃ ad, cx = .pointer (some ad) := by
      cases v with
      | ptr p off => exact ⟨_, h1.inv_ptr⟩
      | pp cs => obtain ⟨b, off, vs, h, _⟩ := h1.inv_pp; exact ⟨_, h⟩
      | _ => cases hn
    obtain ⟨ad, rfl⟩ := hc
    rw [h2.inv_nilp]
    exact ⟨_, run_neq_pointer_nil s.w T _ (by rw [hp]; exact hu), .bool _, eqGuard_ptr ..⟩
theorem op_eqNN {T E T' : TypeId} {x y : Operand} (ho : o.op = .binOp .eql T x y T') (hu : P.underlying T = some (.pointer E)) (hx : opO e x = some .nilp) (hy : opO e y = some .nilp) : AOp P σ e o (.bool true) σ :=
  op_bin ho (opO_eq hx) (opO_eq hy) fun s cx cy _ _ h1 h2 => by
    have hp : P.pointee T = E := by simp [Program.pointee, hu]
    rw [h1.inv_nilp, h2.inv_nilp]
    exact ⟨_, run_eql_pointer_nil s.w T _ (by rw [hp]; exact hu), .bool _, eqGuard_ptr ..⟩
theorem op_neNN {T E T' : TypeId} {x y : Operand} (ho : o.op = .binOp .neq T x y T') (hu : P.underlying T = some (.pointer E)) (hx : opO e x = some .nilp) (hy : opO e y = some .nilp) : AOp P σ e o (.bool false) σ :=
  op_bin ho (opO_eq hx) (opO_eq hy) fun s cx cy _ _ h1 h2 => by
    have hp : P.pointee T = E := by simp [Program.pointee, hu]
    rw [h1.inv_nilp, h2.inv_nilp]
    exact ⟨_, run_neq_pointer_nil s.w T _ (by rw [hp]; exact hu), .bool _, eqGuard_ptr ..⟩
section iface
variable {T T' : TypeId} {x : Operand} {ms : Array (String × TypeId)}
def isNilI : Value → Bool
  | .nilIface => true
  | _ => false
theorem run_equalInI (w : World) (d : Nat) {ms} (hu : P.underlying T = some (.interface ms)) (c : Value) (hc : c = .nilIface ∨ ∃ t v, c = .iface t v) : (Op.equalIn (d + 1) T c .nilIface).run P w = .ok (isNilI c) w := by
  rcases hc with rfl | ⟨t, v, rfl⟩ <;> simp [Op.equalIn, run_underlying hu, isNilI]
theorem run_equalI (w : World) {ms} (hu : P.underlying T = some (.interface ms)) (c : Value) (hc : c = .nilIface ∨ ∃ t v, c = .iface t v) : (Op.equal T c .nilIface).run P w = .ok (isNilI c) w := run_equalInI w 9999 hu c hc
theorem run_eqI (w : World) {ms} (hu : P.underlying T = some (.interface ms)) (c : Value) (hc : c = .nilIface ∨ ∃ t v, c = .iface t v) : (binOp .eql T c .nilIface).run P w = .ok (.bool (isNilI c)) w := by
  have := run_equalI w hu c hc
  rcases hc with rfl | ⟨t, v, rfl⟩ <;> (simp only [binOp]; simp [this])
theorem run_neI (w : World) {ms} (hu : P.underlying T = some (.interface ms)) (c : Value) (hc : c = .nilIface ∨ ∃ t v, c = .iface t v) : (binOp .neq T c .nilIface).run P w = .ok (.bool (!isNilI c)) w := by
  have := run_equalI w hu c hc
  rcases hc with rfl | ⟨t, v, rfl⟩ <;> (simp only [binOp]; simp [this])
theorem run_eqGuardI (w : World) (op : BinOp) (x : Operand) (z : Value) (c : Value) (hc : c = .nilIface ∨ ∃ t v, c = .iface t v) : (eqGuard op T x (.const z) c .nilIface).run P w = .ok () w := by
  rcases hc with rfl | ⟨t, v, rfl⟩ <;> cases op <;> simp [eqGuard]
theorem op_eqIN {U : TypeId} {v : AV} (ho : o.op = .binOp .eql T x (.const .nilIface) T') (hu : P.underlying T = some (.interface ms)) (hx : opO e x = some (.iface U v)) : AOp P σ e o (.bool false) σ :=
  op_bin ho (opO_eq hx) rfl fun s cx cy _ _ h1 h2 => by
    obtain ⟨u, rfl, _⟩ := h1.inv_iface
    have e2 : cy = .nilIface := h2.inv_nili
    subst e2
    exact ⟨_, run_eqI s.w hu _ (.inr ⟨_, _, rfl⟩), .bool _, run_eqGuardI s.w .eql x _ _ (.inr ⟨_, _, rfl⟩)⟩
theorem op_neIN {U : TypeId} {v : AV} (ho : o.op = .binOp .neq T x (.const .nilIface) T') (hu : P.underlying T = some (.interface ms)) (hx : opO e x = some (.iface U v)) : AOp P σ e o (.bool true) σ :=
  op_bin ho (opO_eq hx) rfl fun s cx cy _ _ h1 h2 => by
    obtain ⟨u, rfl, _⟩ := h1.inv_iface
    have e2 : cy = .nilIface := h2.inv_nili
    subst e2
    exact ⟨_, run_neI s.w hu _ (.inr ⟨_, _, rfl⟩), .bool _, run_eqGuardI s.w .neq x _ _ (.inr ⟨_, _, rfl⟩)⟩
theorem op_eqINil (ho : o.op = .binOp .eql T x (.const .nilIface) T') (hu : P.underlying T = some (.interface ms)) (hx : opO e x = some .nili) : AOp P σ e o (.bool true) σ :=
  op_bin ho (opO_eq hx) rfl fun s cx cy _ _ h1 h2 => by
    have e1 := h1.inv_nili
    have e2 : cy = .nilIface := h2.inv_nili
    subst e1; subst e2
    exact ⟨_, run_eqI s.w hu _ (.inl rfl), .bool _, run_eqGuardI s.w .eql x _ _ (.inl rfl)⟩
theorem op_neINil (ho : o.op = .binOp .neq T x (.const .nilIface) T') (hu : P.underlying T = some (.interface ms)) (hx : opO e x = some .nili) : AOp P σ e o (.bool false) σ :=
  op_bin ho (opO_eq hx) rfl fun s cx cy _ _ h1 h2 => by
    have e1 := h1.inv_nili
    have e2 : cy = .nilIface := h2.inv_nili
    subst e1; subst e2
    exact ⟨_, run_neI s.w hu _ (.inl rfl), .bool _, run_eqGuardI s.w .neq x _ _ (.inl rfl)⟩
end iface

def Laid (w : World) : Prop := ∀ b ob, GLay.f b = some ob → w.heap[b]? = some ob
theorem Good.laid {s : CS} (g : Good s) : Laid s.w := fun b ob h => (g.glob b ob h).2
theorem ACalls_below {f : FuncId} {args : List AV} {v : AV} (h : ∀ (s : CS) (cargs : List Value), Good s → PW s args cargs → ∃ cv, (∀ s' : CS, V s' v cv) ∧ Calls P f cargs.toArray s.w fun en w' => en = .returned cv ∧ Below s.w.heap.size s.w w') :
    ACalls P f args σ (Ret v σ) := fun s cargs hs g hp => by
  obtain ⟨cv, hv, hc⟩ := h s cargs g hp
  refine hc.mono fun en w' ⟨h1, h2⟩ => ?_
  subst h1
  obtain ⟨g', x'⟩ := g.grow h2
  exact ⟨_, rfl, g', x', v, hv _, rfl, hs⟩
end Lg
namespace Lg
open Go Go.RowKit
variable [GLay]
variable {P : Program} {N : Nat} {σ : List AO} {e : Env} {Q : QA} {ops : Array Oper} {o : Oper}

theorem ResQ_retN {el : List (Nat × AV)} {l : List AO} {ts : List Nat} {v : AV} {R : Out → List AO → Prop} (h : resA ts ⟨[], el⟩ = v) (hc : closed σ.length σ) (hv : v.lt σ.length) (hR : R (.ret v) σ) : ResQ σ.length ts R .ret ⟨[], el⟩ (σ ++ l) :=
  ⟨rfl, σ.length, Nat.le_refl _, closed_old hc, by rw [h]; exact hv, by rw [h, take_old]; exact hR⟩
theorem ResQ_ret0 {el : List (Nat × AV)} {ts : List Nat} {v : AV} {R : Out → List AO → Prop} (h : resA ts ⟨[], el⟩ = v) (hc : closed σ.length σ) (hv : v.lt σ.length) (hR : R (.ret v) σ) : ResQ σ.length ts R .ret ⟨[], el⟩ σ :=
  ⟨rfl, σ.length, Nat.le_refl _, hc, by rw [h]; exact hv, by rw [h, List.take_length]; exact hR⟩
theorem Ret_of {v v' : AV} (h : v = v') : Ret v' σ (.ret v) σ := ⟨by rw [h], rfl⟩
end Lg
namespace Lg
open Go Go.RowKit
variable [GLay]
variable {P : Program} {N : Nat} {σ : List AO} {e : Env} {Q : QA} {ops : Array Oper} {o : Oper}
def Places (P : Program) : List Field → List (Nat × Nat) → Prop
  | [], [] => True
  | f :: fs, q :: qs => f.offset = q.1 ∧ (∀ w, (Go.sizeOf f.type).run P w = Result.ok q.2 w) ∧ Places P fs qs
  | _, _ => False
theorem Places.runL : ∀ {fs : List Field} {qs : List (Nat × Nat)}, Places P fs qs → ∀ w, (fs.mapM fun f => do pure (f.offset, ← Go.sizeOf f.type) : Sem (List (Nat × Nat))).run P w = Result.ok qs w
  | [], [], _, w => by simp
  | f :: fs, q :: qs, ⟨h1, h2, h3⟩, w => by
    simp only [List.mapM_cons, Sem.run_bind, h2, Result.andThen_ok, Sem.run_pure, h1]
    rw [Places.runL h3 w]
    simp
  | [], _ :: _, h, _ => h.elim
  | _ :: _, [], h, _ => h.elim
theorem Places.run {fs : Array Field} {qs : List (Nat × Nat)} (h : Places P fs.toList qs) (w : World) : (fs.mapM fun f => do pure (f.offset, ← Go.sizeOf f.type) : Sem (Array (Nat × Nat))).run P w = Result.ok qs.toArray w := by
  obtain ⟨l⟩ := fs
  rw [List.mapM_toArray]
  have := h.runL w
  simp only [map_eq_pure_bind, Sem.run_bind] at this ⊢
  rw [this]
  simp
theorem op_buildP {T : TypeId} {parts : Array (Nat × Operand)} {fs : Array Field} {z : Value} {cs : List AV} (pls : List (Nat × Nat)) (ho : o.op = .build T parts) (hu : P.underlying T = some (.struct fs))
    (hz : ∀ w, (zeroValue T).run P w = Result.ok z w) (hpls : Places P fs.toList pls)
    (h1 : (parts.toList.all fun q => ones (opv e q.2).cells && (opv e q.2).cells.length == ((pls[q.1]?).map (·.2)).getD 0) = true)
    (hb : bld (fun i : Nat => (pls[i]?).map (·.1)) (z.cells.toList.map ofConst1) e parts.toList = some cs) : AOp P σ e o (.agg cs) σ := op_build pls ho hu hz hpls.run h1 hb
section
variable {el : List (Nat × AV)} {l : List AO} {v v1 v2 v3 v4 : AV} {t1 t2 t3 t4 : Nat} {R : Out → List AO → Prop}
theorem ResQ_1 (h1 : lookO el t1 = some v1) (hc : closed σ.length σ) (hv : v1.lt σ.length) (hR : R (.ret v1) σ) : ResQ σ.length [t1] R .ret ⟨[], el⟩ (σ ++ l) := ResQ_retN (lookO_eq h1) hc hv hR
theorem ResQ_10 (h1 : lookO el t1 = some v1) (hc : closed σ.length σ) (hv : v1.lt σ.length) (hR : R (.ret v1) σ) : ResQ σ.length [t1] R .ret ⟨[], el⟩ σ := ResQ_ret0 (lookO_eq h1) hc hv hR
theorem ResQ_2 (h1 : lookO el t1 = some v1) (h2 : lookO el t2 = some v2) (hc : closed σ.length σ) (hv : (AV.tup [v1, v2]).lt σ.length) (hR : R (.ret (.tup [v1, v2])) σ) : ResQ σ.length [t1, t2] R .ret ⟨[], el⟩ (σ ++ l) :=
  ResQ_retN (by simp [resA, Env.look, lookO_eq h1, lookO_eq h2]) hc hv hR
theorem ResQ_20 (h1 : lookO el t1 = some v1) (h2 : lookO el t2 = some v2) (hc : closed σ.length σ) (hv : (AV.tup [v1, v2]).lt σ.length) (hR : R (.ret (.tup [v1, v2])) σ) : ResQ σ.length [t1, t2] R .ret ⟨[], el⟩ σ :=
  ResQ_ret0 (by simp [resA, Env.look, lookO_eq h1, lookO_eq h2]) hc hv hR
theorem ResQ_3 (h1 : lookO el t1 = some v1) (h2 : lookO el t2 = some v2) (h3 : lookO el t3 = some v3) (hc : closed σ.length σ) (hv : (AV.tup [v1, v2, v3]).lt σ.length) (hR : R (.ret (.tup [v1, v2, v3])) σ) : ResQ σ.length [t1, t2, t3] R .ret ⟨[], el⟩ (σ ++ l) :=
  ResQ_retN (by simp [resA, Env.look, lookO_eq h1, lookO_eq h2, lookO_eq h3]) hc hv hR
theorem ResQ_40 (h1 : lookO el t1 = some v1) (h2 : lookO el t2 = some v2) (h3 : lookO el t3 = some v3) (h4 : lookO el t4 = some v4) (hc : closed σ.length σ) (hv : (AV.tup [v1, v2, v3, v4]).lt σ.length) (hR : R (.ret (.tup [v1, v2, v3, v4])) σ) : ResQ σ.length [t1, t2, t3, t4] R .ret ⟨[], el⟩ σ :=
  ResQ_ret0 (by simp [resA, Env.look, lookO_eq h1, lookO_eq h2, lookO_eq h3, lookO_eq h4]) hc hv hR
end
end Lg
namespace Lg
open Go Go.RowKit
variable [GLay]
variable {P : Program} {N : Nat} {σ : List AO} {e : Env} {Q : QA} {ops : Array Oper} {o : Oper}
def bat (b : ByteArray) (i : Nat) : UInt8 := b.data.toList.getD i 0
theorem bat_get {b : ByteArray} {i : Nat} (h : i < b.size) : b.data.toList[i]? = some (bat b i) := by
  have h' : i < b.data.toList.length := by rw [Array.length_toList]; exact h
  rw [bat, List.getD_eq_getElem?_getD, List.getElem?_eq_getElem h']; rfl
theorem brows_at {b : ByteArray} {i : Nat} (h : i < b.size) : (brows b)[i]? = some [.int .u8 (bat b i).toNat] := by
  simp only [brows, List.getElem?_map, bat_get h]; rfl
theorem op_index_strB {T : TypeId} {x y : Operand} {b : ByteArray} {k : IntKind} {n : Int} (ho : o.op = .index T x y) (hu : P.underlying T = some .string) (hx : opv e x = .str b) (hy : opv e y = .int k n)
    (h0 : 0 ≤ n) (h1 : n < b.size) : AOp P σ e o (.int .u8 (bat b n.toNat).toNat) σ :=
  op_index_str ho hu hx hy h0 (bat_get (by omega))
theorem bat_lt (b : ByteArray) (i : Nat) : (bat b i).toNat < 256 := (bat b i).toNat_lt
end Lg
namespace Lg
open Go
class U8 [GLay] : Prop where
  tabs : ∀ w : World, Laid w → Go.Lib.Utf8Tabs 0 1 w
end Lg
namespace Lg
open Go Go.Lib
theorem calls_of {P : Program} {f : FuncId} {args : List AV} {cargs : List Value} {W : World} (ha : ∀ [GLay] (s : CS), PW s args cargs)
    (h : ∀ [g : GLay], (∀ b, g.f b = W.heap[b]?) → ACalls P f args [] (Ret (.bool true) [])) : Calls P f cargs.toArray W fun e W' => e = .returned (.bool true) ∧ Go.RowKit.Below W.heap.size W W' := by
  letI : GLay := ⟨fun b => W.heap[b]?⟩
  let s0 : CS := { σ := [], μ := fun _ => ⟨0, 0, 0⟩, ok := fun b => b < W.heap.size, w := W }
  have g0 : Good s0 := ⟨fun b hb => hb, fun p o ho => by simp [s0] at ho, fun p q _ hp _ => by
      have : p < s0.σ.length := CS.live_lt hp
      simp [s0] at this, fun b o ho => ⟨(Array.getElem?_eq_some_iff.1 ho).1, ho⟩⟩
  refine (h (fun _ => rfl) s0 cargs rfl g0 (ha s0)).mono fun e W' hc => ?_
  obtain ⟨s', rfl, g', x', hr⟩ := hc
  have hbel : Go.RowKit.Below W.heap.size W s'.w := ⟨x'.os, x'.tape, x'.output, x'.size, fun k hk => x'.frame k hk (fun p hp => by
    have : p < s0.σ.length := CS.live_lt hp
    simp [s0] at this)⟩
  cases e with
  | returned cv =>
    obtain ⟨v, hv, he, _⟩ := hr
    injection he with he
    subst he
    rw [hv.inv_bool]
    exact ⟨rfl, hbel⟩
  | outgrown => exact hr.elim
  | panicked ch =>
    cases ch with
    | nil => exact hr.elim
    | cons en r =>
      cases r with
      | nil => obtain ⟨_, v, _, he, _⟩ := hr; cases he
      | cons => exact hr.elim
theorem laid_heap [g : GLay] {W w : World} (hg : ∀ b, g.f b = W.heap[b]?) (hw : Laid w) {b : Nat} {o : Obj} (h : W.heap[b]? = some o) : w.heap[b]? = some o := hw b o ((hg b).trans h)
theorem cell_heap [g : GLay] {W w : World} (hg : ∀ b, g.f b = W.heap[b]?) (hw : Laid w) {b c : Nat} {v : Value} (h : W.cell? ⟨b, c, none⟩ = some v) : w.cell? ⟨b, c, none⟩ = some v := by
  cases hb : W.heap[b]? with
  | none => simp [World.cell?, hb] at h
  | some o => rw [← h]; simp only [World.cell?, hb, laid_heap hg hw hb]
theorem U8.of [g : GLay] {W : World} (hT : Utf8Tabs 0 1 W) (hg : ∀ b, g.f b = W.heap[b]?) : U8 := ⟨fun w hw =>
  ⟨fun c hc => cell_heap hg hw (hT.1 c hc), fun i hi => ⟨cell_heap hg hw (hT.2 i hi).1, cell_heap hg hw (hT.2 i hi).2⟩⟩⟩
end Lg
namespace Lg
open Go Go.RowKit
variable [GLay]
variable {P : Program} {N : Nat} {σ : List AO} {e : Env} {Q : QA}

inductive RK where
  | t (a : Nat)
  | c1 (a : Nat)
  | ck (a n : Nat)
def rkv (σ : List AO) (e : Env) : RK → Option AV
  | .t a => some (e.look a)
  | .c1 a => match ldv σ 1 (e.look a) with
    | some [c] => some c
    | _ => none
  | .ck a n => (ldv σ n (e.look a)).map .agg
def rkvs (σ : List AO) (e : Env) : List RK → Option (List AV)
  | [] => some []
  | k :: r => match rkv σ e k, rkvs σ e r with
    | some v, some l => some (v :: l)
    | _, _ => none
def rks : List AV → AV
  | [v] => v
  | l => .tup l
inductive RKs (P : Program) : List ResultVar → List RK → Prop
  | nil : RKs P [] []
  | t {a r k} (h : RKs P r k) : RKs P (.tmp a :: r) (.t a :: k)
  | c1 {a T r k} (ha : ∀ w, (isAgg T).run P w = .ok false w) (h : RKs P r k) : RKs P (.cell a T :: r) (.c1 a :: k)
  | ck {a T n r k} (ha : ∀ w, (isAgg T).run P w = .ok true w) (hz : ∀ w, (Go.sizeOf T).run P w = Result.ok n w) (h : RKs P r k) : RKs P (.cell a T :: r) (.ck a n :: k)
def rvRun (tmps : Array Value) : ResultVar → Sem Value
  | .tmp t => pure (tmps.getD t undef)
  | .cell a t => do loadVar t (← asAddr (tmps.getD a undef))
theorem RKs.run {rs : List ResultVar} {ks : List RK} (h : RKs P rs ks) {s : CS} {a : Act} (g : Good s) (he : EnvOK s N e a) : ∀ {l : List AV}, rkvs s.σ e ks = some l → ∃ vs : List Value, (rs.mapM (rvRun a.tmps)).run P s.w = .ok vs s.w ∧ PW s l vs := by
  induction h with
  | nil => intro l hl; simp [rkvs] at hl; subst hl; exact ⟨[], by simp, .nil⟩
  | @t b r k h ih =>
    intro l hl
    simp only [rkvs, rkv] at hl
    split at hl <;> try cases hl
    rename_i v l' e1 e2
    cases e1
    obtain ⟨vs, h1, h2⟩ := ih e2
    exact ⟨a.tmps.getD b undef :: vs, by simp [rvRun, h1], .cons (he.tmps b) h2⟩
  | @c1 b T r k ha h ih =>
    intro l hl
    simp only [rkvs, rkv] at hl
    split at hl <;> try cases hl
    rename_i v l' e1 e2
    split at e1 <;> try cases e1
    rename_i c hld
    obtain ⟨bb, off, vs, k1, k2, _, k4⟩ := (he.tmps b).load g hld
    obtain ⟨u, us, rfl, hv1, _⟩ := k2.inv_cons
    obtain ⟨ws, h1, h2⟩ := ih e2
    have k5 := k4 0 u rfl
    simp only [Nat.add_zero] at k5
    simp only [Act.eval] at k1
    exact ⟨u :: ws, by simp [rvRun, k1, asAddr, loadVar, ha, k5, h1], .cons hv1 h2⟩
  | @ck b T n r k ha hz h ih =>
    intro l hl
    simp only [rkvs, rkv] at hl
    split at hl <;> try cases hl
    rename_i v l' e1 e2
    simp only [Option.map_eq_some_iff] at e1
    obtain ⟨cs, hld, rfl⟩ := e1
    obtain ⟨bb, off, vs, k1, k2, k3, k4⟩ := (he.tmps b).load g hld
    obtain ⟨ws, h1, h2⟩ := ih e2
    have hr := run_loadCells_list (P := P) s.w ⟨bb, off, none⟩ vs (fun j v e => by rw [add_none]; exact k4 j v e)
    rw [k3] at hr
    simp only [Act.eval] at k1
    exact ⟨.agg vs.toArray :: ws, by simp [rvRun, k1, asAddr, loadVar, ha, hz, hr, h1], .cons (.agg _ _ k2.1 k2.2) h2⟩
theorem rks_V {s : CS} {l : List AV} {vs : List Value} (h : PW s l vs) : V s (rks l) (if h : vs.toArray.size = 1 then vs.toArray[0] else .tuple vs.toArray) := by
  match l, vs, h with
  | [], [], _ => exact .tup _ _ rfl (fun i c v h => by simp at h)
  | [a], [v], h => exact h.2 0 a v rfl rfl
  | a :: b :: l, u :: v :: vs, h => exact .tup _ _ h.1 h.2
  | [], _ :: _, h => exact absurd h.1 (by simp)
  | [_], [], h => exact absurd h.1 (by simp)
  | [_], _ :: _ :: _, h => exact absurd h.1 (by simp)
  | _ :: _ :: _, [], h => exact absurd h.1 (by simp)
  | _ :: _ :: _, [_], h => exact absurd h.1 (by simp)

def RQ (n : Nat) (ks : List RK) (R : Out → List AO → Prop) : QA := fun ex e σ =>
  match ex with
  | .normal | .ret => e.D = [] ∧ ∃ l m, rkvs σ e ks = some l ∧ n ≤ m ∧ closed m σ ∧ (rks l).lt m ∧ R (.ret (rks l)) (σ.take m)
  | .pan v => e.D = [] ∧ ∃ m, n ≤ m ∧ closed m σ ∧ v.lt m ∧ R (.pan v) (σ.take m)
  | _ => False
theorem run_results {fn : Func} {ks : List RK} (hk : RKs P fn.results.toList ks) {s : CS} {a : Act} (g : Good s) (he : EnvOK s N e a) {l : List AV} (hl : rkvs s.σ e ks = some l) :
    ∃ cv, (results fn a.tmps).run P s.w = .ok cv s.w ∧ V s (rks l) cv := by
  obtain ⟨vs, h1, h2⟩ := hk.run g he hl
  refine ⟨_, ?_, rks_V h2⟩
  have hm : (fn.results.mapM (rvRun a.tmps)).run P s.w = .ok vs.toArray s.w := by
    have : fn.results = fn.results.toList.toArray := by simp
    rw [this, List.mapM_toArray]
    simp only [map_eq_pure_bind, Sem.run_bind]
    rw [h1]; simp
  show ((fn.results.mapM (rvRun a.tmps)) >>= fun vs => pure (if h : vs.size = 1 then vs[0] else .tuple vs)).run P s.w = _
  rw [Sem.run_bind, hm]
  simp
theorem ACalls_bodyC {f : FuncId} {fn : Func} {c : Code} {args : List AV} {R : Out → List AO → Prop} {ks : List RK} (hf : P.funcs[f]? = some fn) (hb : fn.body = some c) (hN : fn.ntmps = N) (hr : RKs P fn.results.toList ks) (hl : args.length ≤ N)
    (h : closed σ.length σ → AV.ltL σ.length args → AWp P N c ⟨[], penv 0 args⟩ σ (RQ σ.length ks R)) : ACalls P f args σ R := by
  intro s cargs hs g hp
  have hcl : closed σ.length σ := by rw [← hs]; exact g.closed
  have hal : AV.ltL σ.length args := by rw [← hs]; exact hp.ltL
  refine calls_of_wp hf hb ?_
  have henv : EnvOK s N ⟨[], penv 0 args⟩ { tmps := cargs.toArray ++ Array.replicate (fn.ntmps - cargs.toArray.size) undef, defers := [] } := by
    refine ⟨?_, trivial, fun t => ?_⟩
    · have := hp.1
      simp [hN]; omega
    · show V s (lookL (penv 0 args) t) _
      rw [penv_look]
      simp only [Nat.zero_le, if_true, Nat.sub_zero]
      cases ha : args[t]? with
      | none => exact .any _
      | some a =>
        obtain ⟨v, hv, hV⟩ := hp.get ha
        have hlt := (List.getElem?_eq_some_iff.1 hv).1
        have : (cargs.toArray ++ Array.replicate (fn.ntmps - cargs.toArray.size) undef).getD t undef = v := by
          rw [Array.getD_eq_getD_getElem?, Array.getElem?_append_left (by simpa using hlt)]
          simp [hv]
        simp only [Act.eval, this]
        exact hV
  refine wp_mono (h hcl hal s s _ hs g (Ext.refl s) henv) fun ex a w hpost => ?_
  obtain ⟨s', h1, h2, h3, e', h4, h5⟩ := hpost
  have hret : (e'.D = [] ∧ ∃ l m, rkvs s'.σ e' ks = some l ∧ σ.length ≤ m ∧ closed m s'.σ ∧ (rks l).lt m ∧ R (.ret (rks l)) (s'.σ.take m)) → a.defers = [] ∧ ∃ v, (results fn a.tmps).run P w = .ok v w ∧ CPost s R (.returned v) w := fun ⟨k1, l, m, k0, k2, k3, k4, k5⟩ => by
    have hD := h4.defers
    rw [k1] at hD
    have hd : a.defers = [] := by
      cases hd : a.defers with
      | nil => rfl
      | cons d r => rw [hd] at hD; exact hD.elim
    obtain ⟨cv, hc1, hc2⟩ := run_results hr h2 h4 k0
    rw [h1] at hc1
    exact ⟨hd, cv, hc1, s'.cut m, h1, h2.cut k3, h3.cutm (by rw [hs]; exact k2), _, hc2.cut k4, k5⟩
  cases ex with
  | normal => exact hret h5
  | ret => exact hret h5
  | exit id => exact h5.elim
  | goto l => exact h5.elim
  | outgrown => exact h5.elim
  | panic ch =>
    cases ch with
    | nil => exact h5.elim
    | cons en r =>
      cases r with
      | cons => exact h5.elim
      | nil =>
        obtain ⟨h6, v, h7, k1, m, k2, k3, k4, k5⟩ := h5
        have hD := h4.defers
        rw [k1] at hD
        have hd : a.defers = [] := by
          cases hd : a.defers with
          | nil => rfl
          | cons d r => rw [hd] at hD; exact hD.elim
        exact ⟨hd, s'.cut m, h1, h2.cut k3, h3.cutm (by rw [hs]; exact k2), h6, v, h7.cut k4, k5⟩
theorem RQ_ret {el : List (Nat × AV)} {l : List AO} {ks : List RK} {vs : List AV} {R : Out → List AO → Prop} (h : rkvs (σ ++ l) ⟨[], el⟩ ks = some vs) (hc : closed σ.length σ) (hv : (rks vs).lt σ.length) (hR : R (.ret (rks vs)) σ) : RQ σ.length ks R .ret ⟨[], el⟩ (σ ++ l) :=
  ⟨rfl, vs, σ.length, h, Nat.le_refl _, closed_old hc, hv, by rw [take_old]; exact hR⟩
theorem rkvs_cons {σ : List AO} {e : Env} {k : RK} {r : List RK} {v : AV} {l : List AV} (h1 : rkv σ e k = some v) (h2 : rkvs σ e r = some l) : rkvs σ e (k :: r) = some (v :: l) := by simp only [rkvs, h1, h2]
theorem rkv_t {σ : List AO} {el : List (Nat × AV)} {a : Nat} {v : AV} (h : lookO el a = some v) : rkv σ ⟨[], el⟩ (.t a) = some v := by simp only [rkv, Env.look, lookO_eq h]
theorem rkv_ck {σ l : List AO} {el : List (Nat × AV)} {a n k off : Nat} {cs r : List AV} (h : lookO el a = some (.ptr (σ.length + k) off)) (h1 : l[k]? = some (.box cs)) (h2 : tk n (cs.drop off) = some r) : rkv (σ ++ l) ⟨[], el⟩ (.ck a n) = some (.agg r) := by
  simp only [rkv, Env.look, lookO_eq h, ldv_own h1 h2, Option.map_some]
end Lg
namespace Lg
open Go Go.RowKit
variable [GLay]
variable {P : Program} {σ : List AO}
theorem ACalls.weak {f : FuncId} {args : List AV} {R R' : Out → List AO → Prop} (h : ACalls P f args σ R) (hr : ∀ v σ', R (.ret v) σ' → ∃ v', AVle v v' ∧ R' (.ret v') σ') (hp : ∀ v σ', R (.pan v) σ' → R' (.pan v) σ') : ACalls P f args σ R' := fun s cargs hs g hpw =>
  (h s cargs hs g hpw).mono fun ed w' hc => by
    obtain ⟨s', h1, h2, h3, h4⟩ := hc
    refine ⟨s', h1, h2, h3, ?_⟩
    cases ed with
    | returned cv =>
      obtain ⟨v, h5, h6⟩ := h4
      obtain ⟨v', h7, h8⟩ := hr v _ h6
      exact ⟨v', h7 _ _ h5, h8⟩
    | outgrown => exact h4
    | panicked ch =>
      cases ch with
      | nil => exact h4
      | cons en r =>
        cases r with
        | nil => obtain ⟨h5, v, h6, h7⟩ := h4; exact ⟨h5, v, h6, hp _ _ h7⟩
        | cons => exact h4
end Lg
namespace Lg
open Go Go.RowKit
variable [GLay]
variable {P : Program} {N : Nat} {σ : List AO} {e : Env} {Q : QA} {ops : Array Oper} {o : Oper}

theorem set_same {p : Nat} {x : AO} (h : σ[p]? = some x) : σ.set p x = σ := by
  apply List.ext_getElem?
  intro i
  rw [List.getElem?_set]
  split
  · rename_i e; subst e; split
    · exact h.symm
    · rename_i h1; rw [List.getElem?_eq_none (by omega)] at h; cases h
  · rfl
theorem AWp_heap {c : Code} {σ' : List AO} (h : σ' = σ) (k : AWp P N c e σ' Q) : AWp P N c e σ Q := h ▸ k
variable {p : Nat} {x : AO} {l : List AO}
theorem get_set (h : p < σ.length) : (σ.set p x)[p]? = some x := by rw [List.getElem?_set]; simp [h]
theorem get_setA (h : p < σ.length) : (σ.set p x ++ l)[p]? = some x := by rw [List.getElem?_append_left (by simpa using h)]; exact get_set h
theorem get_ownS (k : Nat) : (σ.set p x ++ l)[σ.length + k]? = l[k]? := by
  rw [List.getElem?_append_right (by simp)]; congr 1; simp
theorem ldv_set {off n : Nat} {cs r : List AV} (h : p < σ.length) (hr : tk n (cs.drop off) = some r) : ldv (σ.set p (.box cs)) n (.ptr p off) = some r := ldv_ptr (get_set h) hr
theorem ldv_setA {off n : Nat} {cs r : List AV} (h : p < σ.length) (hr : tk n (cs.drop off) = some r) : ldv (σ.set p (.box cs) ++ l) n (.ptr p off) = some r := ldv_ptr (get_setA h) hr
theorem ldv_ownS {k off n : Nat} {cs r : List AV} (h : l[k]? = some (.box cs)) (hr : tk n (cs.drop off) = some r) : ldv (σ.set p x ++ l) n (.ptr (σ.length + k) off) = some r := by
  simp only [ldv, get_ownS, h, hr]
theorem op_storeS {T : TypeId} {a b : Operand} {n off : Nat} {cs r : List AV} (ho : o.op = .store T a b) (hz : ∀ w, (Go.sizeOf T).run P w = Result.ok n w) (hn : (opv e b).cells.length = n)
    (h1 : ones (opv e b).cells = true) (hx : opv e a = .ptr p off) (hp : p < σ.length) (hr : spl off cs (opv e b).cells = some r) (hn0 : n ≠ 0) : AOp P (σ.set p (.box cs)) e o .any (σ.set p (.box r)) := by
  have := op_storeP (P := P) (σ := σ.set p (.box cs)) ho hz hn h1 hx (get_set hp) hr hn0
  rwa [List.set_set] at this
theorem op_storeSA {T : TypeId} {a b : Operand} {n off : Nat} {cs r : List AV} (ho : o.op = .store T a b) (hz : ∀ w, (Go.sizeOf T).run P w = Result.ok n w) (hn : (opv e b).cells.length = n)
    (h1 : ones (opv e b).cells = true) (hx : opv e a = .ptr p off) (hp : p < σ.length) (hr : spl off cs (opv e b).cells = some r) (hn0 : n ≠ 0) : AOp P (σ.set p (.box cs) ++ l) e o .any (σ.set p (.box r) ++ l) := by
  have := op_storeP (P := P) (σ := σ.set p (.box cs) ++ l) ho hz hn h1 hx (get_setA hp) hr hn0
  rwa [List.set_append_left _ _ (by simpa using hp), List.set_set] at this
theorem op_storeOS {T : TypeId} {a b : Operand} {n k off : Nat} {cs r : List AV} (ho : o.op = .store T a b) (hz : ∀ w, (Go.sizeOf T).run P w = Result.ok n w) (hn : (opv e b).cells.length = n)
    (h1 : ones (opv e b).cells = true) (hx : opv e a = .ptr (σ.length + k) off) (hl : l[k]? = some (.box cs)) (hr : spl off cs (opv e b).cells = some r) (hn0 : n ≠ 0) : AOp P (σ.set p x ++ l) e o .any (σ.set p x ++ l.set k (.box r)) := by
  have := op_storeP (P := P) (σ := σ.set p x ++ l) ho hz hn h1 hx (by rw [get_ownS]; exact hl) hr hn0
  rwa [List.set_append_right _ _ (by simp), List.length_set, Nat.add_sub_cancel_left] at this
theorem op_boxS {T : TypeId} {a : Operand} {cs : List AV} (n : Nat) (hn : l.length = n) (ho : o.op = .box T a) (hx : (opv e a).cells = cs) (h1 : ones cs = true) : AOp P (σ.set p x ++ l) e o (.ptr (σ.length + n) 0) (σ.set p x ++ (l ++ [.box cs])) := by
  have := op_box (P := P) (σ := σ.set p x ++ l) ho hx h1
  rwa [List.length_append, hn, List.append_assoc, List.length_set] at this
theorem op_boxS0 {T : TypeId} {a : Operand} {cs : List AV} (ho : o.op = .box T a) (hx : (opv e a).cells = cs) (h1 : ones cs = true) : AOp P (σ.set p x) e o (.ptr (σ.length + 0) 0) (σ.set p x ++ [.box cs]) := by
  have := op_box (P := P) (σ := σ.set p x) ho hx h1
  rwa [List.length_set] at this
theorem op_allocS {T : TypeId} {z : Value} {cs : List AV} (n : Nat) (hn : l.length = n) (ho : o.op = .alloc T) (hz : ∀ w, (zeroValue T).run P w = Result.ok z w) (hx : z.cells.toList.map ofConst1 = cs) : AOp P (σ.set p x ++ l) e o (.ptr (σ.length + n) 0) (σ.set p x ++ (l ++ [.box cs])) := by
  have := op_alloc (P := P) (σ := σ.set p x ++ l) (e := e) ho hz hx
  rwa [List.length_append, hn, List.append_assoc, List.length_set] at this
theorem op_allocS0 {T : TypeId} {z : Value} {cs : List AV} (ho : o.op = .alloc T) (hz : ∀ w, (zeroValue T).run P w = Result.ok z w) (hx : z.cells.toList.map ofConst1 = cs) : AOp P (σ.set p x) e o (.ptr (σ.length + 0) 0) (σ.set p x ++ [.box cs]) := by
  have := op_alloc (P := P) (σ := σ.set p x) (e := e) ho hz hx
  rwa [List.length_set] at this
end Lg
namespace Lg
open Go Go.RowKit
variable [GLay]
variable {σ l : List AO} {p : Nat} {x : AO} {el : List (Nat × AV)} {ts : List Nat} {v : AV} {R : Out → List AO → Prop}
theorem takeS : (σ.set p x ++ l).take σ.length = σ.set p x := by
  have : (σ.set p x).length = σ.length := List.length_set
  rw [← this, List.take_left']
  exact rfl
theorem closedS (hc : closed σ.length σ) (hx : AV.ltL σ.length x.cells) : closed σ.length (σ.set p x ++ l) := fun q o hq ho => by
  rw [List.getElem?_append_left (by simpa using hq)] at ho
  exact closed_set hc hx q o hq ho
theorem ResQ_S (h : resA ts ⟨[], el⟩ = v) (hc : closed σ.length σ) (hx : AV.ltL σ.length x.cells) (hv : v.lt σ.length) (hR : R (.ret v) (σ.set p x)) : ResQ σ.length ts R .ret ⟨[], el⟩ (σ.set p x ++ l) :=
  ⟨rfl, σ.length, Nat.le_refl _, closedS hc hx, by rw [h]; exact hv, by rw [h, takeS]; exact hR⟩
theorem ResQ_S0 (h : resA ts ⟨[], el⟩ = v) (hc : closed σ.length σ) (hx : AV.ltL σ.length x.cells) (hv : v.lt σ.length) (hR : R (.ret v) (σ.set p x)) : ResQ σ.length ts R .ret ⟨[], el⟩ (σ.set p x) := by
  have := ResQ_S (l := []) (p := p) h hc hx hv hR
  simpa using this
theorem ResQ_N0 (hc : closed σ.length σ) (hx : AV.ltL σ.length x.cells) (hR : R (.ret (.tup [])) (σ.set p x)) : ResQ σ.length [] R .normal ⟨[], el⟩ (σ.set p x) :=
  ResQ_S0 (ts := []) (v := .tup []) (p := p) (el := el) (R := R) rfl hc hx trivial hR
end Lg
namespace Lg
open Go Go.RowKit
variable [GLay]
variable {P : Program} {f : FuncId} {args : List AV} {σ l : List AO} {p : Nat} {x y : AO} {v : AV}
theorem callS (h : ACalls P f args (σ.set p x) (Ret v ((σ.set p x).set p y))) : ACalls P f args (σ.set p x) (Ret v (σ.set p y)) := by rwa [List.set_set] at h
theorem callSA (hp : p < σ.length) (h : ACalls P f args (σ.set p x ++ l) (Ret v ((σ.set p x ++ l).set p y))) : ACalls P f args (σ.set p x ++ l) (Ret v (σ.set p y ++ l)) := by
  rwa [List.set_append_left _ _ (by simpa using hp), List.set_set] at h
end Lg
namespace Lg
open Go Go.RowKit
variable [GLay]
variable {P : Program} {N : Nat} {σ l : List AO} {e : Env} {Q : QA} {p : Nat} {x : AO}
theorem AWp_boxLe {c : Code} (q : Nat) {bs bs' : List AV} (hq : σ[q]? = some (.box bs)) (hle : AVleL bs bs') (k : AWp P N c e (σ.set q (.box bs')) Q) : AWp P N c e σ Q := fun s0 s a hs g x he => by
  subst hs
  have hlive : s.live q := by unfold CS.live; rw [hq]; trivial
  obtain ⟨_, vs, T, hb, hp⟩ := g.rep hq hlive
  have hp : PW s bs vs := hp
  have hnew : PW s bs' vs := hle.pw hp
  obtain ⟨s2, f1, f2, g2, x2, _⟩ := g.setObj hq hlive (o' := .box bs') (.box _ _ hle.len) trivial hnew
  have hw : s2.w = s.w := by rw [f2, setRow_self _ _ _ _ _ hb]
  have := k s0 s2 a f1 g2 (x.trans x2) (he.mono g x2)
  rwa [hw] at this
theorem AWp_ghostIn {c : Code} (q i sz : Nat) {bs : List AV} (hq : σ[q]? = some (.box bs)) (hi : bs[i]? = some .nils) (k : AWp P N c e ((σ ++ [AO.arr sz 0 []]).set q (.box (bs.set i (.arr σ.length 0 sz 0 0)))) Q) : AWp P N c e σ Q := fun s0 s a hs g x he => by
  subst hs
  obtain ⟨s1, e1, e2, g1, x1⟩ := g.ghost sz
  have hqlt : q < s.σ.length := (List.getElem?_eq_some_iff.1 hq).1
  have hq1 : s1.σ[q]? = some (.box bs) := by rw [e1, List.getElem?_append_left hqlt]; exact hq
  have hlive1 : s1.live q := by unfold CS.live; rw [hq1]; trivial
  obtain ⟨_, vs, T, hb, hp⟩ := g1.rep hq1 hlive1
  have hp : PW s1 bs vs := hp
  obtain ⟨v, hv1, hv2⟩ := hp.get hi
  have hv0 := hv2.inv_nils
  have hv' : V s1 (.arr s.σ.length 0 sz 0 0) v := by
    rw [hv0]; exact .arr _ _ _ _ _ _ rfl (.mk (cs := []) (by rw [e1]; simp) ⟨rfl, .inl ⟨none, rfl, rfl⟩⟩)
  have hset : vs.set i v = vs := by
    obtain ⟨h1, h2⟩ := List.getElem?_eq_some_iff.1 hv1
    rw [← h2]; exact List.set_getElem_self h1
  have hnew : PW s1 (bs.set i (.arr s.σ.length 0 sz 0 0)) vs := by
    have := hp.set i hv'
    rwa [hset] at this
  obtain ⟨s2, f1, f2, g2, x2, _⟩ := g1.setObj hq1 hlive1 (o' := .box (bs.set i (.arr s.σ.length 0 sz 0 0))) (.box _ _ (by simp)) trivial hnew
  have hw : s2.w = s.w := by rw [f2, ← e2, setRow_self _ _ _ _ _ hb]
  have := k s0 s2 a (by rw [f1, e1]) g2 ((x.trans x1).trans x2) ((he.mono g x1).mono g1 x2)
  rwa [hw] at this
theorem set_ownS (k : Nat) (y : AO) : (σ.set p x ++ l).set (σ.length + k) y = σ.set p x ++ l.set k y := by
  rw [List.set_append_right _ _ (by simp), List.length_set, Nat.add_sub_cancel_left]
theorem AWp_boxLeS {c : Code} (k : Nat) {bs bs' : List AV} (hq : l[k]? = some (.box bs)) (hle : AVleL bs bs') (h : AWp P N c e (σ.set p x ++ l.set k (.box bs')) Q) : AWp P N c e (σ.set p x ++ l) Q :=
  AWp_boxLe (σ.length + k) (by rw [get_ownS]; exact hq) hle (by rw [set_ownS]; exact h)
theorem AWp_ghostInS {c : Code} (k i sz n : Nat) (hn : l.length = n) {bs : List AV} (hq : l[k]? = some (.box bs)) (hi : bs[i]? = some .nils) (h : AWp P N c e (σ.set p x ++ (l ++ [AO.arr sz 0 []]).set k (.box (bs.set i (.arr (σ.length + n) 0 sz 0 0)))) Q) : AWp P N c e (σ.set p x ++ l) Q :=
  AWp_ghostIn (σ.length + k) i sz (by rw [get_ownS]; exact hq) hi (by
    have e1 : (σ.set p x ++ l).length = σ.length + n := by simp [hn]
    rw [e1, List.append_assoc, set_ownS]; exact h)
theorem AWp_freezeInS {c : Code} (kq i kp gg sz off len : Nat) {bs cs : List AV} (hq : l[kq]? = some (.box bs)) (hi : bs[i]? = some (.arr (σ.length + kp) gg sz off len)) (hσ : l[kp]? = some (.arr sz gg cs)) (es : List (List AV)) (hes : es.flatten = (cs.drop (off * sz)).take (len * sz))
    (hel : ∀ r ∈ es, r.length = sz) (hlen : es.length = len) (hsz : sz ≠ 0) (hfit : (off + len) * sz ≤ cs.length) (k : AWp P N c e (σ.set p x ++ (l.set kp .dead).set kq (.box (bs.set i (.sl false sz es)))) Q) : AWp P N c e (σ.set p x ++ l) Q :=
  AWp_freezeIn (σ.length + kq) i (σ.length + kp) gg sz off len (by rw [get_ownS]; exact hq) hi (by rw [get_ownS]; exact hσ) es hes hel hlen hsz hfit (by
    rw [set_ownS, set_ownS]; exact k)
theorem RQ_retS {el : List (Nat × AV)} {ks : List RK} {vs : List AV} {R : Out → List AO → Prop} (h : rkvs (σ.set p x ++ l) ⟨[], el⟩ ks = some vs) (hc : closed σ.length σ) (hx : AV.ltL σ.length x.cells) (hv : (rks vs).lt σ.length) (hR : R (.ret (rks vs)) (σ.set p x)) : RQ σ.length ks R .ret ⟨[], el⟩ (σ.set p x ++ l) :=
  ⟨rfl, vs, σ.length, h, Nat.le_refl _, closedS hc hx, hv, by rw [takeS]; exact hR⟩
theorem rkv_ckS {el : List (Nat × AV)} {a n k off : Nat} {cs r : List AV} (h : lookO el a = some (.ptr (σ.length + k) off)) (h1 : l[k]? = some (.box cs)) (h2 : tk n (cs.drop off) = some r) : rkv (σ.set p x ++ l) ⟨[], el⟩ (.ck a n) = some (.agg r) := by
  simp only [rkv, Env.look, lookO_eq h, ldv_ownS h1 h2, Option.map_some]
end Lg
namespace Lg
open Go Go.RowKit
variable [GLay]
variable {P : Program} {N : Nat} {σ l τ : List AO} {e : Env} {Q : QA} {p : Nat} {x : AO} {o : Oper}
theorem get_ownT {n : Nat} (h : τ.length = n) (k : Nat) : (τ ++ l)[n + k]? = l[k]? := by
  subst h
  rw [List.getElem?_append_right (by omega)]; congr 1; omega
theorem set_ownT {n : Nat} (h : τ.length = n) (k : Nat) (y : AO) : (τ ++ l).set (n + k) y = τ ++ l.set k y := by
  subst h
  rw [List.set_append_right _ _ (by omega)]; congr 2; omega
theorem op_appendArrT {n0 : Nat} (hτ : τ.length = n0) (k : Nat) {a b : Operand} {t u E : TypeId} {i : TypeInfo} {z : Value} {d : TypeDesc} {sz m gg len : Nat} {cs cs0 : List AV} (ho : o.op = .call { callee := .builtin .append, args := #[a, b], argTypes := #[t, u] })
    (hd : d = .string ∨ ∃ E', d = .slice E') (ht : P.underlying t = some (.slice E)) (hu : P.underlying u = some d) (hi : P.info? E = some i) (hz : i.zero = some z) (hsz : i.size = sz) (hzs : z.cells.size = sz) (hpos : sz ≠ 0)
    (hx : opv e a = .arr (n0 + k) gg sz 0 len) (hk : l[k]? = some (.arr sz gg cs0)) (hend : len * sz = cs0.length) (hy : srcv (τ ++ l) (opv e b) = some (cs, m)) (hys : szv (opv e b) sz) (h1 : ones cs = true)
    (hby : (len + m) * i.bytes ≤ 140737488355328) (h63 : len + m ≤ 9223372036854775807) (hlen : cs.length = m * sz) :
    AOp P (τ ++ l) e o (.arr (n0 + k) (gg + 1) sz 0 (len + m)) (τ ++ l.set k (.arr sz (gg + 1) (cs0 ++ cs))) := by
  have := op_appendArr (P := P) (σ := τ ++ l) ho hd ht hu hi hz hsz hzs hpos hx (by rw [get_ownT hτ]; exact hk) (by rw [Nat.zero_add]; exact hend) hy hys h1 hby h63 hlen
  rw [Nat.zero_mul, List.drop_zero, set_ownT hτ] at this
  exact this
theorem op_appendNewT {n0 n : Nat} (hτ : τ.length = n0) (hn : l.length = n) {a b : Operand} {t u E : TypeId} {i : TypeInfo} {z : Value} {d : TypeDesc} {sz m : Nat} {cs : List AV} (ho : o.op = .call { callee := .builtin .append, args := #[a, b], argTypes := #[t, u] })
    (hd : d = .string ∨ ∃ E', d = .slice E') (ht : P.underlying t = some (.slice E)) (hu : P.underlying u = some d) (hi : P.info? E = some i) (hz : i.zero = some z) (hsz : i.size = sz) (hzs : z.cells.size = sz) (hpos : sz ≠ 0)
    (hx : opv e a = .nils ∨ opv e a = .sl true sz []) (hy : srcv (τ ++ l) (opv e b) = some (cs, m)) (hys : szv (opv e b) sz) (h1 : ones cs = true) (hby : m * i.bytes ≤ 140737488355328) (h63 : m ≤ 9223372036854775807) (hlen : cs.length = m * sz) :
    AOp P (τ ++ l) e o (.arr (n0 + n) 0 sz 0 m) (τ ++ (l ++ [.arr sz 0 cs])) := by
  have := op_appendNew (P := P) (σ := τ ++ l) ho hd ht hu hi hz hsz hzs hpos hx hy hys h1 hby h63 hlen
  rw [List.length_append, hτ, hn, List.append_assoc] at this
  exact this
theorem op_buildSliceArrT {n0 n : Nat} (hτ : τ.length = n0) (hn : l.length = n) {T : TypeId} {len sz : Nat} {parts : Array (Nat × Operand)} {cs : List AV} (ho : o.op = .buildSlice T len parts) (h : AOp P (τ ++ l) e o (.arr (τ ++ l).length 0 sz 0 len) ((τ ++ l) ++ [.arr sz 0 cs])) :
    AOp P (τ ++ l) e o (.arr (n0 + n) 0 sz 0 len) (τ ++ (l ++ [.arr sz 0 cs])) := by
  rw [List.length_append, hτ, hn, List.append_assoc] at h
  exact h
theorem op_buildSlice0 {T E : TypeId} {sz : Nat} (ho : o.op = .buildSlice T 0 #[]) (hu : P.underlying T = some (.slice E)) (hsz : ∀ w, (Go.sizeOf E).run P w = Result.ok sz w) : AOp P σ e o (.sl true sz []) σ := by
  intro s a hs g hv K Q hk _
  subst hs
  obtain ⟨s', e1, e2, g', x', hok⟩ := g.row [] E
  refine wp_value (w' := s'.w) ?_ (hk _ (.slice (some ⟨s.w.heap.size, 0, none⟩) 0 0) s' ⟨rfl, e1⟩ g' x' (.sl0 true sz _))
  rw [e2]
  simp only [execOp, ho, Instr.buildSlice, Sem.run_bind, run_underlying hu, hsz, Result.andThen_ok, Sem.run_ite, Nat.zero_mul, if_true, Sem.run_pure]
  rw [if_neg (by omega)]
  simp [newRow, newObj, Sem.run, Instr.fill]
  congr 2
  exact Array.eq_empty_of_size_eq_zero (by simp)
theorem srcv_arrT {n0 : Nat} (hτ : τ.length = n0) (k : Nat) {g sz len : Nat} {cs : List AV} (hk : l[k]? = some (.arr sz g cs)) (hl : cs.length = len * sz) : srcv (τ ++ l) (.arr (n0 + k) g sz 0 len) = some (cs, len) := by
  have h1 : ∀ (n : Nat) (c : List AV), c.length = n → tk n c = some c := by
    intro n
    induction n with
    | zero => intro c hc; have : c = [] := List.eq_nil_of_length_eq_zero hc; subst this; rfl
    | succ n ih => intro c hc; cases c with
      | nil => simp at hc
      | cons x c => simp only [tk, ih c (by simpa using hc), Option.map_some]
  simp only [srcv, get_ownT hτ, hk, if_true, Nat.zero_mul, List.drop_zero, h1 _ cs hl, Option.map_some]
theorem ones_append (a b : List AV) : ones (a ++ b) = (ones a && ones b) := by
  induction a with
  | nil => rfl
  | cons x a ih => simp only [List.cons_append, ones, ih, Bool.and_assoc]
theorem callO {f : FuncId} {args : List AV} {v : AV} {y : AO} (k : Nat) (h : ACalls P f args (σ ++ l) (Ret v ((σ ++ l).set (σ.length + k) y))) : ACalls P f args (σ ++ l) (Ret v (σ ++ l.set k y)) := by
  rwa [set_ownT rfl] at h
theorem AWp_boxLeO {c : Code} (k : Nat) {bs bs' : List AV} (hq : l[k]? = some (.box bs)) (hle : AVleL bs bs') (h : AWp P N c e (σ ++ l.set k (.box bs')) Q) : AWp P N c e (σ ++ l) Q :=
  AWp_boxLe (σ.length + k) (by rw [get_ownT rfl]; exact hq) hle (by rw [set_ownT rfl]; exact h)
theorem len_set : (σ.set p x).length = σ.length := List.length_set
theorem take_ownS (k : Nat) : (σ.set p x ++ l).take (σ.length + k) = σ.set p x ++ l.take k := by
  have := take_own (σ := σ.set p x) (l := l) k
  rwa [List.length_set] at this
theorem closed_ownS (k : Nat) (h : closed σ.length σ) (hx : AV.ltL σ.length x.cells) (hl : ownLt (σ.length + k) (l.take k)) : closed (σ.length + k) (σ.set p x ++ l) := by
  have := closed_own (σ := σ.set p x) (l := l) k (by rw [List.length_set]; exact closed_set h hx) (by rw [List.length_set]; exact hl)
  rwa [List.length_set] at this
end Lg
namespace Lg
open Go

structure JNum where
  neg : Bool := false
  digits : ByteArray := ⟨#[]⟩
  exp : Int := 0
inductive JV where
  | mk (kind : Int) (b : Bool) (n : JNum) (s : ByteArray) (l : List JV) (m : List (ByteArray × JV))
def JV.kind : JV → Int | .mk k _ _ _ _ _ => k
def JV.b : JV → Bool | .mk _ b _ _ _ _ => b
def JV.n : JV → JNum | .mk _ _ n _ _ _ => n
def JV.s : JV → ByteArray | .mk _ _ _ s _ _ => s
def JV.l : JV → List JV | .mk _ _ _ _ l _ => l
def JV.m : JV → List (ByteArray × JV) | .mk _ _ _ _ _ m => m

def ncells (n : JNum) : List AV := [.bool n.neg, .str n.digits, .int .i64 n.exp]
mutual
def vcells : JV → List AV
  | .mk k b n s l m => [.int .i64 k, .bool b, .bool n.neg, .str n.digits, .int .i64 n.exp, .str s, .sl false 8 (lcells l), .sl false 9 (mcells m)]
def lcells : List JV → List (List AV)
  | [] => []
  | v :: r => vcells v :: lcells r
def mcells : List (ByteArray × JV) → List (List AV)
  | [] => []
  | (k, v) :: r => (.str k :: vcells v) :: mcells r
end
theorem vcells_eq (v : JV) : vcells v = [.int .i64 v.kind, .bool v.b, .bool v.n.neg, .str v.n.digits, .int .i64 v.n.exp, .str v.s, .sl false 8 (lcells v.l), .sl false 9 (mcells v.m)] := by
  cases v; simp [vcells, JV.kind, JV.b, JV.n, JV.s, JV.l, JV.m]
theorem lcells_eq : ∀ l : List JV, lcells l = l.map vcells
  | [] => by simp [lcells]
  | v :: r => by simp [lcells, lcells_eq r]
theorem mcells_eq : ∀ l : List (ByteArray × JV), mcells l = l.map fun q => .str q.1 :: vcells q.2
  | [] => by simp [mcells]
  | (k, v) :: r => by simp [mcells, mcells_eq r]
theorem lcells_length (l : List JV) : (lcells l).length = l.length := by simp [lcells_eq]
theorem mcells_length (l : List (ByteArray × JV)) : (mcells l).length = l.length := by simp [mcells_eq]
theorem lcells_get {l : List JV} {i : Nat} {v : JV} (h : l[i]? = some v) : (lcells l)[i]? = some (vcells v) := by simp [lcells_eq, h]
theorem mcells_get {l : List (ByteArray × JV)} {i : Nat} {q : ByteArray × JV} (h : l[i]? = some q) : (mcells l)[i]? = some (.str q.1 :: vcells q.2) := by simp [mcells_eq, h]
mutual
theorem vcells_lt (n : Nat) : ∀ v : JV, AV.ltL n (vcells v)
  | .mk k b nn s l m => by
    simp only [vcells, AV.ltL, AV.lt, and_true, true_and]
    exact ⟨lcells_lt n l, mcells_lt n m⟩
theorem lcells_lt (n : Nat) : ∀ l : List JV, AV.ltLL n (lcells l)
  | [] => by simp [lcells, AV.ltLL]
  | v :: r => by simp only [lcells, AV.ltLL]; exact ⟨vcells_lt n v, lcells_lt n r⟩
theorem mcells_lt (n : Nat) : ∀ l : List (ByteArray × JV), AV.ltLL n (mcells l)
  | [] => by simp [mcells, AV.ltLL]
  | (k, v) :: r => by simp only [mcells, AV.ltLL, AV.ltL, AV.lt, true_and]; exact ⟨vcells_lt n v, mcells_lt n r⟩
end
attribute [simp] vcells_lt lcells_lt mcells_lt
mutual
def jsize : JV → Int
  | .mk _ _ _ _ l m => 1 + lsize l + msize m
def lsize : List JV → Int
  | [] => 0
  | v :: r => jsize v + lsize r
def msize : List (ByteArray × JV) → Int
  | [] => 0
  | (_, v) :: r => jsize v + msize r
end
theorem jsize_eq (v : JV) : jsize v = 1 + lsize v.l + msize v.m := by cases v; simp [jsize, JV.l, JV.m]
mutual
theorem jsize_pos : ∀ v : JV, 1 ≤ jsize v
  | .mk _ _ _ _ l m => by have := lsize_nn l; have := msize_nn m; simp only [jsize]; omega
theorem lsize_nn : ∀ l : List JV, 0 ≤ lsize l
  | [] => by simp [lsize]
  | v :: r => by have := jsize_pos v; have := lsize_nn r; simp only [lsize]; omega
theorem msize_nn : ∀ l : List (ByteArray × JV), 0 ≤ msize l
  | [] => by simp [msize]
  | (k, v) :: r => by have := jsize_pos v; have := msize_nn r; simp only [msize]; omega
end
end Lg
namespace Lg
open Go

noncomputable def pb (p : Prop) : Bool := @decide p (Classical.propDecidable p)
theorem pb_t {p : Prop} (h : p) : pb p = true := by unfold pb; exact @decide_eq_true p (Classical.propDecidable p) h
theorem pb_f {p : Prop} (h : ¬ p) : pb p = false := by unfold pb; exact @decide_eq_false p (Classical.propDecidable p) h
theorem pb_iff (p : Prop) : pb p = true ↔ p := by unfold pb; exact @decide_eq_true_iff p (Classical.propDecidable p)
theorem bool_t {p : Prop} (h : p) : AV.bool true = .bool (pb p) := by rw [pb_t h]
theorem bool_f {p : Prop} (h : ¬ p) : AV.bool false = .bool (pb p) := by rw [pb_f h]
theorem bool_of {b : Bool} {p : Prop} (h : b = true ↔ p) : AV.bool b = .bool (pb p) := by
  congr 1; cases b
  · symm; exact pb_f fun hp => by have := h.2 hp; cases this
  · exact (pb_t (h.1 rfl)).symm

def JNum.z (n : JNum) : Bool := decide (n.neg = false) && (decide (n.digits = ⟨#[]⟩) && (decide (n.exp = 0) && true))
def jbare (v : JV) : Bool :=
  !(v.b && !decide (v.kind = 1) || !v.n.z && !decide (v.kind = 2) || !decide (v.s = ⟨#[]⟩) && !decide (v.kind = 3)) && ((decide (v.l.length = 0) || decide (v.kind = 4)) && (decide (v.m.length = 0) || decide (v.kind = 5)))
@[simp] theorem lcells_nil (l : List JV) : lcells l = [] ↔ l = [] := by cases l <;> simp [lcells]
@[simp] theorem mcells_nil (l : List (ByteArray × JV)) : mcells l = [] ↔ l = [] := by
  cases l with
  | nil => simp [mcells]
  | cons q r => obtain ⟨k, v⟩ := q; simp [mcells]
theorem ba_pos {b : ByteArray} (h : ¬ b = ⟨#[]⟩) : 0 < b.size := by
  rcases Nat.eq_zero_or_pos b.size with h0 | h0
  · exfalso; apply h
    obtain ⟨d⟩ := b
    have : d = #[] := Array.eq_empty_of_size_eq_zero h0
    rw [this]
  · exact h0
def dig (b : ByteArray) (i : Nat) : Prop := 48 ≤ (bat b i).toNat ∧ (bat b i).toNat ≤ 57
def digs (b : ByteArray) (i : Nat) : Prop := ∀ j, j < i → dig b j
def NumMay (n : JNum) : Prop := (n.digits = ⟨#[]⟩ ∧ n.neg = false ∧ n.exp = 0) ∨
  (¬ n.digits = ⟨#[]⟩ ∧ digs n.digits n.digits.size ∧ n.digits.size ≤ 60 ∧ (bat n.digits 0).toNat ≠ 48 ∧ (bat n.digits (n.digits.size - 1)).toNat ≠ 48 ∧ -1000 ≤ n.exp ∧ n.exp ≤ 1000)
end Lg
namespace Lg
open Go
@[simp] theorem brows_lt (n : Nat) (b : ByteArray) : AV.ltLL n (brows b) := by
  unfold brows
  induction b.data.toList with
  | nil => simp [AV.ltLL]
  | cons x l ih => simp [AV.ltLL, AV.ltL, AV.lt, ih]
instance (b : ByteArray) (i : Nat) : Decidable (dig b i) := by unfold dig; exact inferInstance
def runl (b : ByteArray) (i : Nat) : Nat := if h : i < b.size ∧ dig b i then runl b (i + 1) + 1 else 0
termination_by b.size - i
theorem runl_yes {b : ByteArray} {i : Nat} (h1 : i < b.size) (h2 : dig b i) : runl b i = runl b (i + 1) + 1 := by
  rw [runl]; simp [h1, h2]
theorem runl_no {b : ByteArray} {i : Nat} (h : ¬ (i < b.size ∧ dig b i)) : runl b i = 0 := by
  rw [runl]; simp only [h, dite_false]
theorem runl_le (b : ByteArray) (i : Nat) : runl b i ≤ b.size - i := by
  by_cases h : i < b.size ∧ dig b i
  · rw [runl_yes h.1 h.2]; have := runl_le b (i + 1); omega
  · rw [runl_no h]; omega
termination_by b.size - i
theorem runl_digs {b : ByteArray} (i : Nat) : ∀ j, i ≤ j → j < i + runl b i → dig b j := by
  by_cases h : i < b.size ∧ dig b i
  · intro j h1 h2
    rw [runl_yes h.1 h.2] at h2
    by_cases e : j = i
    · subst e; exact h.2
    · exact runl_digs (i + 1) j (by omega) (by omega)
  · intro j h1 h2; rw [runl_no h] at h2; omega
termination_by b.size - i
theorem runl_full {b : ByteArray} (i : Nat) (h : ∀ j, i ≤ j → j < b.size → dig b j) (hi : i ≤ b.size) : i + runl b i = b.size := by
  by_cases h1 : i < b.size
  · rw [runl_yes h1 (h i (Nat.le_refl _) h1)]
    have := runl_full (i + 1) (fun j h2 h3 => h j (by omega) h3) h1
    omega
  · rw [runl_no (by omega)]; omega
termination_by b.size - i
theorem runl0 (b : ByteArray) : runl b 0 = b.size ↔ digs b b.size := by
  constructor
  · intro h j hj; exact runl_digs 0 j (by omega) (by omega)
  · intro h; have := runl_full 0 (fun j _ hj => h j hj) (Nat.zero_le _); omega
end Lg
namespace Lg
open Go

theorem lsize_mem {l : List JV} {i : Nat} {x : JV} (h : l[i]? = some x) : jsize x ≤ lsize l := by
  induction l generalizing i with
  | nil => simp at h
  | cons a r ih =>
    have := jsize_pos a
    have := lsize_nn r
    cases i with
    | zero => simp at h; subst h; simp only [lsize]; omega
    | succ i => simp at h; have := ih h; simp only [lsize]; omega
theorem msize_mem {l : List (ByteArray × JV)} {i : Nat} {q : ByteArray × JV} (h : l[i]? = some q) : jsize q.2 ≤ msize l := by
  induction l generalizing i with
  | nil => simp at h
  | cons a r ih =>
    obtain ⟨k, a⟩ := a
    have := jsize_pos a
    have := msize_nn r
    cases i with
    | zero => simp at h; subst h; simp only [msize]; omega
    | succ i => simp at h; have := ih h; simp only [msize]; omega
mutual
def jb : JV → Prop
  | .mk _ _ n s l m => n.digits.size ≤ 1000000 ∧ s.size ≤ 1000000 ∧ l.length ≤ 1000000 ∧ m.length ≤ 1000000 ∧ lb l ∧ mb m
def lb : List JV → Prop
  | [] => True
  | v :: r => jb v ∧ lb r
def mb : List (ByteArray × JV) → Prop
  | [] => True
  | (k, v) :: r => k.size ≤ 1000000 ∧ jb v ∧ mb r
end
theorem jb_eq (v : JV) : jb v ↔ v.n.digits.size ≤ 1000000 ∧ v.s.size ≤ 1000000 ∧ v.l.length ≤ 1000000 ∧ v.m.length ≤ 1000000 ∧ lb v.l ∧ mb v.m := by cases v; simp [jb, JV.n, JV.s, JV.l, JV.m]
theorem lb_get {l : List JV} {i : Nat} {x : JV} (h : lb l) (hx : l[i]? = some x) : jb x := by
  induction l generalizing i with
  | nil => simp at hx
  | cons a r ih =>
    cases i with
    | zero => simp at hx; subst hx; exact h.1
    | succ i => simp at hx; exact ih h.2 hx
theorem mb_get {l : List (ByteArray × JV)} {i : Nat} {q : ByteArray × JV} (h : mb l) (hx : l[i]? = some q) : q.1.size ≤ 1000000 ∧ jb q.2 := by
  induction l generalizing i with
  | nil => simp at hx
  | cons a r ih =>
    obtain ⟨k, a⟩ := a
    cases i with
    | zero => simp at hx; subst hx; exact ⟨h.1, h.2.1⟩
    | succ i => simp at hx; exact ih h.2.2 hx
def Utf (s : ByteArray) : Prop := Go.Lib.validD s.data.toList = true
mutual
def jmay : JV → Prop
  | .mk k b n s l m => (0 ≤ k ∧ k ≤ 5 ∧ jbare (.mk k b n s l m) = true ∧ NumMay n ∧ Utf s) ∧ (∀ (i : Nat) (q : ByteArray × JV), m[i]? = some q → Utf q.1 ∧ ∀ q', i ≠ 0 → m[i - 1]? = some q' → blt q'.1 q.1 = true) ∧ lmay l ∧ mmay m
def lmay : List JV → Prop
  | [] => True
  | v :: r => jmay v ∧ lmay r
def mmay : List (ByteArray × JV) → Prop
  | [] => True
  | (k, v) :: r => jmay v ∧ mmay r
end
theorem lmay_iff (l : List JV) : lmay l ↔ ∀ (i : Nat) x, l[i]? = some x → jmay x := by
  induction l with
  | nil => simp [lmay]
  | cons a r ih =>
    simp only [lmay, ih]
    constructor
    · intro ⟨h1, h2⟩ i x hx
      cases i with
      | zero => simp at hx; subst hx; exact h1
      | succ i => simp at hx; exact h2 i x hx
    · intro h; exact ⟨h 0 a (by simp), fun i x hx => h (i + 1) x (by simpa using hx)⟩
theorem mmay_iff (l : List (ByteArray × JV)) : mmay l ↔ ∀ (i : Nat) (q : ByteArray × JV), l[i]? = some q → jmay q.2 := by
  induction l with
  | nil => simp [mmay]
  | cons a r ih =>
    obtain ⟨k, a⟩ := a
    simp only [mmay, ih]
    constructor
    · intro ⟨h1, h2⟩ i x hx
      cases i with
      | zero => simp at hx; subst hx; exact h1
      | succ i => simp at hx; exact h2 i x hx
    · intro h; exact ⟨h 0 (k, a) (by simp), fun i x hx => h (i + 1) x (by simpa using hx)⟩
def mok (m : List (ByteArray × JV)) (i : Nat) : Prop := ∀ j q, j < i → m[j]? = some q → (Utf q.1 ∧ ∀ q', j ≠ 0 → m[j - 1]? = some q' → blt q'.1 q.1 = true) ∧ jmay q.2
theorem jmay_eq (v : JV) : jmay v ↔ (0 ≤ v.kind ∧ v.kind ≤ 5 ∧ jbare v = true ∧ NumMay v.n ∧ Utf v.s) ∧ mok v.m v.m.length ∧ (∀ (i : Nat) x, v.l[i]? = some x → jmay x) := by
  cases v with
  | mk k b n s l m =>
    simp only [jmay, JV.kind, JV.n, JV.s, JV.l, JV.m, lmay_iff, mmay_iff, mok]
    constructor
    · intro ⟨h1, h2, h3, h4⟩
      exact ⟨h1, fun j q _ hq => ⟨h2 j q hq, h4 j q hq⟩, h3⟩
    · intro ⟨h1, h2, h3⟩
      exact ⟨h1, fun i q hq => (h2 i q (List.getElem?_eq_some_iff.1 hq).1 hq).1, h3, fun i q hq => (h2 i q (List.getElem?_eq_some_iff.1 hq).1 hq).2⟩
end Lg
namespace Lg
open Go
theorem bytesLess_asymm : ∀ (a b : List UInt8), Op.bytesLess a b = true → Op.bytesLess b a = false
  | [], [], h => by simp [Op.bytesLess] at h
  | [], _ :: _, _ => by simp [Op.bytesLess]
  | _ :: _, [], h => by simp [Op.bytesLess] at h
  | x :: a, y :: b, h => by
    simp only [Op.bytesLess] at h ⊢
    have ih := bytesLess_asymm a b
    rcases Nat.lt_trichotomy x.toNat y.toNat with h1 | h1 | h1
    · have : ¬ y < x := by simp only [UInt8.lt_iff_toNat_lt]; omega
      have : x < y := by simp only [UInt8.lt_iff_toNat_lt]; omega
      have : ¬ y = x := fun e => by subst e; omega
      simp_all
    · have : x = y := UInt8.toNat_inj.1 h1
      subst this
      simp_all
    · have h2 : ¬ x < y := by simp only [UInt8.lt_iff_toNat_lt]; omega
      have h3 : y < x := by simp only [UInt8.lt_iff_toNat_lt]; omega
      have : ¬ x = y := fun e => by subst e; omega
      simp_all
theorem bytesLess_total : ∀ (a b : List UInt8), Op.bytesLess a b = false → a ≠ b → Op.bytesLess b a = true
  | [], [], _, h => by simp at h
  | [], _ :: _, h, _ => by simp [Op.bytesLess] at h
  | _ :: _, [], _, _ => by simp [Op.bytesLess]
  | x :: a, y :: b, h, hne => by
    simp only [Op.bytesLess] at h ⊢
    have ih := bytesLess_total a b
    rcases Nat.lt_trichotomy x.toNat y.toNat with h1 | h1 | h1
    · have : x < y := by simp only [UInt8.lt_iff_toNat_lt]; omega
      simp_all
    · have : x = y := UInt8.toNat_inj.1 h1
      subst this
      simp_all
    · have h2 : ¬ x < y := by simp only [UInt8.lt_iff_toNat_lt]; omega
      have h3 : y < x := by simp only [UInt8.lt_iff_toNat_lt]; omega
      simp_all
theorem bytesLess_irrefl (a : List UInt8) : Op.bytesLess a a = false := by
  cases h : Op.bytesLess a a with
  | false => rfl
  | true => have := bytesLess_asymm a a h; rw [h] at this; cases this
variable [GLay]
theorem blt_le {a b : ByteArray} (h : (blt a b || decide (a = b)) = true) : blt b a = false := by
  simp only [Bool.or_eq_true, decide_eq_true_eq] at h
  rcases h with h | h
  · exact bytesLess_asymm _ _ h
  · subst h; exact bytesLess_irrefl _
end Lg
namespace Lg
open Go Go.RowKit
variable [GLay]
class TU (P : Program) (T : TypeId) (d : outParam TypeDesc) : Prop where
  h : P.underlying T = some d
class TA (P : Program) (T : TypeId) (b : outParam Bool) : Prop where
  h : ∀ w, (isAgg T).run P w = .ok b w
class TZ (P : Program) (T : TypeId) (n : outParam Nat) : Prop where
  h : ∀ w, (Go.sizeOf T).run P w = Result.ok n w
class TV (P : Program) (T : TypeId) (z : outParam Value) : Prop where
  h : ∀ w, (zeroValue T).run P w = Result.ok z w
class TF (P : Program) (k : FuncId) (f : outParam Func) : Prop where
  h : P.funcs[k]? = some f

def lstC {X : Type} : List AV → (List AV → Option X) → Option X
  | [], k => k []
  | c :: cs, k => lstC cs fun r => k (c :: r)
theorem lstC_eq {X : Type} : ∀ {cs : List AV} {k : List AV → Option X}, lstC cs k = k cs
  | [], _ => rfl
  | c :: cs, k => by simp only [lstC]; exact lstC_eq
def tkC {X : Type} : Nat → List AV → (List AV → Option X) → Option X
  | 0, _, k => k []
  | n + 1, c :: cs, k => tkC n cs fun r => k (c :: r)
  | _ + 1, [], _ => none
theorem tkC_eq {X : Type} : ∀ {n : Nat} {cs : List AV} {k : List AV → Option X} {x : X}, tkC n cs k = some x → ∃ ds, tk n cs = some ds ∧ k ds = some x
  | 0, _, k, x, h => ⟨[], rfl, h⟩
  | n + 1, c :: cs, k, x, h => by
    obtain ⟨ds, h1, h2⟩ := tkC_eq (n := n) (cs := cs) h
    exact ⟨c :: ds, by simp [tk, h1], h2⟩
  | n + 1, [], k, x, h => by simp [tkC] at h
def putC {X : Type} : List AV → List AV → (List AV → Option X) → Option X
  | cs, [], k => lstC cs k
  | _ :: cs, n :: ns, k => putC cs ns fun r => k (n :: r)
  | [], _ :: _, _ => none
theorem putC_eq {X : Type} : ∀ {cs ns : List AV} {k : List AV → Option X} {x : X}, putC cs ns k = some x → ∃ ds, putAt cs ns = some ds ∧ k ds = some x
  | cs, [], k, x, h => ⟨cs, by simp [putAt], by simp only [putC, lstC_eq] at h; exact h⟩
  | _ :: cs, n :: ns, k, x, h => by
    obtain ⟨ds, h1, h2⟩ := putC_eq (cs := cs) (ns := ns) h
    exact ⟨n :: ds, by simp [putAt, h1], h2⟩
  | [], _ :: _, k, x, h => by simp [putC] at h
def splC {X : Type} : Nat → List AV → List AV → (List AV → Option X) → Option X
  | 0, cs, ns, k => putC cs ns k
  | j + 1, c :: cs, ns, k => splC j cs ns fun r => k (c :: r)
  | _ + 1, [], _, _ => none
theorem splC_eq {X : Type} : ∀ {j : Nat} {cs ns : List AV} {k : List AV → Option X} {x : X}, splC j cs ns k = some x → ∃ ds, spl j cs ns = some ds ∧ k ds = some x
  | 0, cs, ns, k, x, h => by simp only [splC] at h; obtain ⟨ds, h1, h2⟩ := putC_eq h; exact ⟨ds, by simp only [spl]; exact h1, h2⟩
  | j + 1, c :: cs, ns, k, x, h => by
    obtain ⟨ds, h1, h2⟩ := splC_eq (j := j) (cs := cs) (ns := ns) h
    exact ⟨c :: ds, by simp [spl, h1], h2⟩
  | _ + 1, [], _, k, x, h => by simp [splC] at h
def cstC {X : Type} : List Value → (List AV → Option X) → Option X
  | [], k => k []
  | .bool b :: r, k => cstC r fun l => k (.bool b :: l)
  | .int q n :: r, k => cstC r fun l => k (.int q n :: l)
  | .string s :: r, k => cstC r fun l => k (.str s :: l)
  | .pointer none :: r, k => cstC r fun l => k (.nilp :: l)
  | .slice none 0 0 :: r, k => cstC r fun l => k (.nils :: l)
  | .map none :: r, k => cstC r fun l => k (.nilm :: l)
  | .nilFunc :: r, k => cstC r fun l => k (.nilf :: l)
  | .nilIface :: r, k => cstC r fun l => k (.nili :: l)
  | _ :: _, _ => none
theorem cstC_eq {X : Type} : ∀ {l : List Value} {k : List AV → Option X} {x : X}, cstC l k = some x → k (l.map ofConst1) = some x := by
  intro l
  induction l with
  | nil => intro k x h; simpa [cstC] using h
  | cons a r ih =>
    intro k x h
    unfold cstC at h
    split at h <;> first | (rename_i e; simp at e; done) | (rename_i e; cases e; exact ih h) | (cases h) | skip
    all_goals (rename_i e; first | (obtain ⟨rfl, rfl⟩ := List.cons.inj e; exact ih h) | cases e)
variable {P : Program} {N : Nat} {σ l : List AO} {e : Env} {Q : QA} {ops : Array Oper} {o : Oper} {p : Nat} {x : AO}
theorem ldC_own {k off n : Nat} {cs r : List AV} (h : l[k]? = some (.box cs)) (hr : tkC n (cs.drop off) some = some r) : ldv (σ ++ l) n (.ptr (σ.length + k) off) = some r := by
  obtain ⟨ds, h1, h2⟩ := tkC_eq hr; cases h2; exact ldv_own h h1
theorem ldC_pp {n : Nat} {cs r : List AV} (hr : tkC n cs some = some r) : ldv σ n (.pp cs) = some r := by
  obtain ⟨ds, h1, h2⟩ := tkC_eq hr; cases h2; exact ldv_pp h1
theorem ldC_old {p off n : Nat} {cs r : List AV} (h : σ[p]? = some (.box cs)) (hr : tkC n (cs.drop off) some = some r) : ldv (σ ++ l) n (.ptr p off) = some r := by
  obtain ⟨ds, h1, h2⟩ := tkC_eq hr; cases h2; exact ldv_old h h1
theorem ldC_ptr {p off n : Nat} {cs r : List AV} (h : σ[p]? = some (.box cs)) (hr : tkC n (cs.drop off) some = some r) : ldv σ n (.ptr p off) = some r := by
  obtain ⟨ds, h1, h2⟩ := tkC_eq hr; cases h2; exact ldv_ptr h h1
theorem ldC_set {off n : Nat} {cs r : List AV} (h : p < σ.length) (hr : tkC n (cs.drop off) some = some r) : ldv (σ.set p (.box cs)) n (.ptr p off) = some r := by
  obtain ⟨ds, h1, h2⟩ := tkC_eq hr; cases h2; exact ldv_set h h1
theorem ldC_setA {off n : Nat} {cs r : List AV} (h : p < σ.length) (hr : tkC n (cs.drop off) some = some r) : ldv (σ.set p (.box cs) ++ l) n (.ptr p off) = some r := by
  obtain ⟨ds, h1, h2⟩ := tkC_eq hr; cases h2; exact ldv_setA h h1
theorem ldC_ownS {k off n : Nat} {cs r : List AV} (h : l[k]? = some (.box cs)) (hr : tkC n (cs.drop off) some = some r) : ldv (σ.set p x ++ l) n (.ptr (σ.length + k) off) = some r := by
  obtain ⟨ds, h1, h2⟩ := tkC_eq hr; cases h2; exact ldv_ownS h h1
def fldO : List Field → Nat → Option (TypeId × Nat)
  | [], _ => none
  | f :: _, 0 => match f with | { type := t, offset := o, .. } => some (t, o)
  | _ :: fs, n + 1 => fldO fs n
theorem fldO_eq : ∀ {fs : List Field} {n : Nat} {t : TypeId} {fo : Nat}, fldO fs n = some (t, fo) → ∃ fd, fs[n]? = some fd ∧ fd.type = t ∧ fd.offset = fo
  | [], _, _, _, h => by simp [fldO] at h
  | f :: _, 0, t, fo, h => by
    obtain ⟨⟩ := f
    simp only [fldO, Option.some.injEq, Prod.mk.injEq] at h
    exact ⟨_, rfl, h.1, h.2⟩
  | _ :: fs, n + 1, t, fo, h => by
    obtain ⟨fd, h1, h2⟩ := fldO_eq (fs := fs) (n := n) (by simpa [fldO] using h)
    exact ⟨fd, by simpa using h1, h2⟩
def getC : List AV → Nat → Option AV
  | [], _ => none
  | c :: _, 0 => some c
  | _ :: cs, n + 1 => getC cs n
theorem getC_eq : ∀ {cs : List AV} {n : Nat} {v : AV}, getC cs n = some v → cs[n]? = some v
  | [], _, _, h => by simp [getC] at h
  | c :: _, 0, v, h => by simpa [getC] using h
  | _ :: cs, n + 1, v, h => by simpa using getC_eq (cs := cs) (n := n) (by simpa [getC] using h)
section
variable {T : TypeId} {a b : Operand}
theorem z_fa {f n fo t : Nat} {fs : Array Field} {u v : AV} (ho : o.op = .fieldAddr T a f) (hu : P.underlying T = some (.struct fs)) (hf : fldO fs.toList f = some (t, fo)) (hz : ∀ w, (Go.sizeOf t).run P w = Result.ok n w)
    (hn : Nat.beq n 0 = false) (hu' : opO e a = some u) (hx : offv fo u = some v) (hfr : fresh σ u) : AOp P σ e o v σ := by
  have := opO_eq hu'; subst this
  obtain ⟨fd, h1, h2, h3⟩ := fldO_eq hf
  exact op_fieldAddrO ho hu (by rw [← h1]; simp) h3 (by rw [h2]; exact hz) (Nat.ne_of_beq_eq_false hn) hx hfr
theorem z_f1 {f t fo : Nat} {fs : Array Field} {cs : List AV} {v : AV} (ho : o.op = .field T a f) (hu : P.underlying T = some (.struct fs)) (hf : fldO fs.toList f = some (t, fo)) (ha : ∀ w, (isAgg t).run P w = .ok false w)
    (hx : opO e a = some (.agg cs)) (hv : getC cs fo = some v) : AOp P σ e o v σ := by
  obtain ⟨fd, h1, h2, h3⟩ := fldO_eq hf
  exact op_field1 ho hu (by rw [← h1]; simp) (by rw [h2]; exact ha) (opO_eq hx) (by rw [h3]; exact getC_eq hv)
theorem z_fK {f t n fo : Nat} {fs : Array Field} {cs r : List AV} (ho : o.op = .field T a f) (hu : P.underlying T = some (.struct fs)) (hf : fldO fs.toList f = some (t, fo)) (ha : ∀ w, (isAgg t).run P w = .ok true w) (hz : ∀ w, (Go.sizeOf t).run P w = Result.ok n w)
    (hx : opO e a = some (.agg cs)) (hr : tkC n (cs.drop fo) some = some r) : AOp P σ e o (.agg r) σ := by
  obtain ⟨fd, h1, h2, h3⟩ := fldO_eq hf
  obtain ⟨ds, h4, h5⟩ := tkC_eq hr; cases h5
  have := (tk_eq h4).1; subst this
  have := op_fieldK (P := P) (σ := σ) ho hu (by rw [← h1]; simp) (by rw [h2]; exact ha) (by rw [h2]; exact hz) (opO_eq hx)
  rwa [h3] at this
theorem z_ls {c : Array TypeId} {b : ByteArray} (ho : o.op = .call { callee := .builtin .len, args := #[a], argTypes := c }) (hc : c.toList = [T]) (hu : P.underlying T = some .string) (hx : opO e a = some (.str b)) : AOp P σ e o (.int .i64 b.size) σ :=
  op_lenStr ho (by rw [← Array.getElem?_toList, hc]; rfl) hu (opO_eq hx)
theorem z_le {c : Array TypeId} {E : TypeId} {u : AV} {n : Int} (ho : o.op = .call { callee := .builtin .len, args := #[a], argTypes := c }) (hc : c.toList = [T]) (hu : P.underlying T = some (.slice E)) (hv : opO e a = some u) (hx : lenv u = some n) (hns : isStr u = false) (hfr : fresh σ u) : AOp P σ e o (.int .i64 n) σ := by
  have := opO_eq hv; subst this
  exact op_lenS ho (by rw [← Array.getElem?_toList, hc]; rfl) hu hx hns hfr
theorem z_so {n k off : Nat} {v : AV} {cs r : List AV} (ho : o.op = .store T a b) (hz : ∀ w, (Go.sizeOf T).run P w = Result.ok n w) (hv : opO e b = some v) (hn : Nat.beq v.cells.length n = true) (h1 : ones v.cells = true)
    (hx : opO e a = some (.ptr (σ.length + k) off)) (hl : l[k]? = some (.box cs)) (hr : splC off cs v.cells some = some r) (hn0 : Nat.beq n 0 = false) : AOp P (σ ++ l) e o .any (σ ++ l.set k (.box r)) := by
  have := opO_eq hv; subst this
  obtain ⟨ds, h2, h3⟩ := splC_eq hr; cases h3
  exact op_storeO ho hz (Nat.eq_of_beq_eq_true hn) h1 (opO_eq hx) hl h2 (Nat.ne_of_beq_eq_false hn0)
theorem z_sp {n q off : Nat} {v : AV} {cs r : List AV} (ho : o.op = .store T a b) (hz : ∀ w, (Go.sizeOf T).run P w = Result.ok n w) (hv : opO e b = some v) (hn : Nat.beq v.cells.length n = true) (h1 : ones v.cells = true)
    (hx : opO e a = some (.ptr q off)) (hl : σ[q]? = some (.box cs)) (hr : splC off cs v.cells some = some r) (hn0 : Nat.beq n 0 = false) : AOp P σ e o .any (σ.set q (.box r)) := by
  have := opO_eq hv; subst this
  obtain ⟨ds, h2, h3⟩ := splC_eq hr; cases h3
  exact op_storeP ho hz (Nat.eq_of_beq_eq_true hn) h1 (opO_eq hx) hl h2 (Nat.ne_of_beq_eq_false hn0)
theorem z_ss {n off : Nat} {v : AV} {cs r : List AV} (ho : o.op = .store T a b) (hz : ∀ w, (Go.sizeOf T).run P w = Result.ok n w) (hv : opO e b = some v) (hn : Nat.beq v.cells.length n = true) (h1 : ones v.cells = true)
    (hx : opO e a = some (.ptr p off)) (hp : p < σ.length) (hr : splC off cs v.cells some = some r) (hn0 : Nat.beq n 0 = false) : AOp P (σ.set p (.box cs)) e o .any (σ.set p (.box r)) := by
  have := opO_eq hv; subst this
  obtain ⟨ds, h2, h3⟩ := splC_eq hr; cases h3
  exact op_storeS ho hz (Nat.eq_of_beq_eq_true hn) h1 (opO_eq hx) hp h2 (Nat.ne_of_beq_eq_false hn0)
theorem z_ssA {n off : Nat} {v : AV} {cs r : List AV} (ho : o.op = .store T a b) (hz : ∀ w, (Go.sizeOf T).run P w = Result.ok n w) (hv : opO e b = some v) (hn : Nat.beq v.cells.length n = true) (h1 : ones v.cells = true)
    (hx : opO e a = some (.ptr p off)) (hp : p < σ.length) (hr : splC off cs v.cells some = some r) (hn0 : Nat.beq n 0 = false) : AOp P (σ.set p (.box cs) ++ l) e o .any (σ.set p (.box r) ++ l) := by
  have := opO_eq hv; subst this
  obtain ⟨ds, h2, h3⟩ := splC_eq hr; cases h3
  exact op_storeSA ho hz (Nat.eq_of_beq_eq_true hn) h1 (opO_eq hx) hp h2 (Nat.ne_of_beq_eq_false hn0)
theorem z_sos {n k off : Nat} {v : AV} {cs r : List AV} (ho : o.op = .store T a b) (hz : ∀ w, (Go.sizeOf T).run P w = Result.ok n w) (hv : opO e b = some v) (hn : Nat.beq v.cells.length n = true) (h1 : ones v.cells = true)
    (hx : opO e a = some (.ptr (σ.length + k) off)) (hl : l[k]? = some (.box cs)) (hr : splC off cs v.cells some = some r) (hn0 : Nat.beq n 0 = false) : AOp P (σ.set p x ++ l) e o .any (σ.set p x ++ l.set k (.box r)) := by
  have := opO_eq hv; subst this
  obtain ⟨ds, h2, h3⟩ := splC_eq hr; cases h3
  exact op_storeOS ho hz (Nat.eq_of_beq_eq_true hn) h1 (opO_eq hx) hl h2 (Nat.ne_of_beq_eq_false hn0)
theorem z_b0 {v : AV} {cs : List AV} (ho : o.op = .box T a) (hv : opO e a = some v) (hc : lstC v.cells some = some cs) (h1 : ones cs = true) : AOp P σ e o (.ptr (σ.length + 0) 0) (σ ++ [.box cs]) := by
  have := opO_eq hv; subst this
  rw [lstC_eq] at hc; cases hc; exact op_box0 ho rfl h1
theorem z_bO {n : Nat} {v : AV} {cs : List AV} (ho : o.op = .box T a) (hv : opO e a = some v) (hc : lstC v.cells some = some cs) (h1 : ones cs = true) (hn : l.length = n) : AOp P (σ ++ l) e o (.ptr (σ.length + n) 0) (σ ++ (l ++ [.box cs])) := by
  have := opO_eq hv; subst this
  rw [lstC_eq] at hc; cases hc; exact op_boxO n hn ho rfl h1
theorem z_a0 {z : Value} {cs : List AV} (ho : o.op = .alloc T) (hz : ∀ w, (zeroValue T).run P w = Result.ok z w) (hc : cstC z.cells.toList some = some cs) : AOp P σ e o (.ptr (σ.length + 0) 0) (σ ++ [.box cs]) := by
  have := cstC_eq hc; cases this; exact op_alloc0 ho hz rfl
theorem z_aO {n : Nat} {z : Value} {cs : List AV} (ho : o.op = .alloc T) (hz : ∀ w, (zeroValue T).run P w = Result.ok z w) (hc : cstC z.cells.toList some = some cs) (hn : l.length = n) : AOp P (σ ++ l) e o (.ptr (σ.length + n) 0) (σ ++ (l ++ [.box cs])) := by
  have := cstC_eq hc; cases this; exact op_allocO n hn ho hz rfl
theorem z_bS0 {v : AV} {cs : List AV} (ho : o.op = .box T a) (hv : opO e a = some v) (hc : lstC v.cells some = some cs) (h1 : ones cs = true) : AOp P (σ.set p x) e o (.ptr (σ.length + 0) 0) (σ.set p x ++ [.box cs]) := by
  have := opO_eq hv; subst this
  rw [lstC_eq] at hc; cases hc; exact op_boxS0 ho rfl h1
theorem z_bS {n : Nat} {v : AV} {cs : List AV} (ho : o.op = .box T a) (hv : opO e a = some v) (hc : lstC v.cells some = some cs) (h1 : ones cs = true) (hn : l.length = n) : AOp P (σ.set p x ++ l) e o (.ptr (σ.length + n) 0) (σ.set p x ++ (l ++ [.box cs])) := by
  have := opO_eq hv; subst this
  rw [lstC_eq] at hc; cases hc; exact op_boxS n hn ho rfl h1
theorem z_aS0 {z : Value} {cs : List AV} (ho : o.op = .alloc T) (hz : ∀ w, (zeroValue T).run P w = Result.ok z w) (hc : cstC z.cells.toList some = some cs) : AOp P (σ.set p x) e o (.ptr (σ.length + 0) 0) (σ.set p x ++ [.box cs]) := by
  have := cstC_eq hc; cases this; exact op_allocS0 ho hz rfl
theorem z_aS {n : Nat} {z : Value} {cs : List AV} (ho : o.op = .alloc T) (hz : ∀ w, (zeroValue T).run P w = Result.ok z w) (hc : cstC z.cells.toList some = some cs) (hn : l.length = n) : AOp P (σ.set p x ++ l) e o (.ptr (σ.length + n) 0) (σ.set p x ++ (l ++ [.box cs])) := by
  have := cstC_eq hc; cases this; exact op_allocS n hn ho hz rfl
end
end Lg
namespace Lg
open Go Go.RowKit
variable [GLay]
class TN (P : Program) (k : FuncId) : Prop where
  h : ∃ fn, P.funcs[k]? = some fn ∧ (fn.name == "runtime.NumGoroutine") = false ∧ fn.body.isNone = false
class TB (P : Program) (T : TypeId) (z : outParam Value) (pls : outParam (List (Nat × Nat))) : Prop where
  h : ∃ fs, P.underlying T = some (.struct fs) ∧ (∀ w, (zeroValue T).run P w = Result.ok z w) ∧ Places P fs.toList pls
variable {P : Program} {N : Nat} {σ l : List AO} {e : Env} {Q : QA} {ops : Array Oper} {o : Oper} {p : Nat} {x : AO}
def stO (N : Nat) (o : Oper) : Option Nat :=
  match o.guard with
  | none => o.dst.bind fun d => bif Nat.blt d N then some d else none
  | some _ => none
theorem stO_eq {d : Nat} (h : stO N o = some d) : o.guard = none ∧ o.dst = some d ∧ Nat.blt d N = true := by
  unfold stO at h
  split at h
  · rename_i hg
    cases hd : o.dst with
    | none => rw [hd] at h; cases h
    | some t =>
      rw [hd] at h
      cases hb : Nat.blt t N with
      | false => simp [hb] at h
      | true => simp [hb] at h; subst h; exact ⟨hg, rfl, hb⟩
  · cases h
def gO (N : Nat) (ops : Array Oper) (el : List (Nat × AV)) (o : Oper) : Option (AV × Bool × Nat) :=
  match o.guard with
  | some (j, want) => (ops[j]?).bind fun oj => oj.dst.bind fun d => bif Nat.blt d N then (lookO el d).bind fun v => o.dst.bind fun t => bif Nat.blt t N then some (v, want, t) else none else none
  | none => none
theorem gO_eq {el : List (Nat × AV)} {v : AV} {want : Bool} {t : Nat} (h : gO N ops el o = some (v, want, t)) :
    ∃ j d, o.guard = some (j, want) ∧ (ops[j]?).bind (·.dst) = some d ∧ Nat.blt d N = true ∧ lookO el d = some v ∧ o.dst = some t ∧ Nat.blt t N = true := by
  unfold gO at h
  split at h
  · rename_i j w hg
    cases h1 : ops[j]? with
    | none => rw [h1] at h; cases h
    | some oj =>
      rw [h1] at h; simp only [Option.bind_some] at h
      cases h2 : oj.dst with
      | none => rw [h2] at h; cases h
      | some d =>
        rw [h2] at h; simp only [Option.bind_some] at h
        cases h3 : Nat.blt d N with
        | false => simp [h3] at h
        | true =>
          simp only [h3, cond_true] at h
          cases h4 : lookO el d with
          | none => rw [h4] at h; cases h
          | some u =>
            rw [h4] at h; simp only [Option.bind_some] at h
            cases h5 : o.dst with
            | none => rw [h5] at h; cases h
            | some t' =>
              rw [h5] at h; simp only [Option.bind_some] at h
              cases h6 : Nat.blt t' N with
              | false => simp [h6] at h
              | true =>
                simp only [h6, cond_true, Option.some.injEq, Prod.mk.injEq] at h
                obtain ⟨rfl, rfl, rfl⟩ := h
                exact ⟨j, d, hg, by rw [h1]; exact h2, h3, h4, rfl, h6⟩
  · cases h
def onO (want : Bool) : AV → Bool
  | .bool b => b == want
  | _ => false
def offO (want : Bool) : AV → Bool
  | .bool b => b == !want
  | .tup [] => true
  | _ => false
theorem onO_eq {want : Bool} {v : AV} (h : onO want v = true) : v = .bool want := by
  cases v <;> simp_all [onO]
theorem offO_eq {want : Bool} {v : AV} (h : offO want v = true) : v = .bool (!want) ∨ v = .tup [] := by
  unfold offO at h; split at h <;> simp_all
variable {D : List (FuncId × List AV)} {el : List (Nat × AV)} {rest : List Oper}
theorem zt {v : AV} {σ' : List AO} {d : Nat} (h0 : stO N o = some d) (h : AOp P σ ⟨D, el⟩ o v σ') (k : AOps P N ops rest ⟨D, (d, v) :: el⟩ σ' Q) : AOps P N ops (o :: rest) ⟨D, el⟩ σ Q :=
  have ⟨h1, h2, h3⟩ := stO_eq h0
  st h1 h2 h3 h k
theorem ztN {v : AV} {σ' : List AO} (hg : o.guard = none) (hd : o.dst = none) (h : AOp P σ e o v σ') (k : AOps P N ops rest e σ' Q) : AOps P N ops (o :: rest) e σ Q := stN hg hd h k
theorem ztG {v u : AV} {σ' : List AO} {d : Nat} {want : Bool} (h0 : gO N ops el o = some (u, want, d)) (h1 : onO want u = true) (h : AOp P σ ⟨D, el⟩ o v σ') (k : AOps P N ops rest ⟨D, (d, v) :: el⟩ σ' Q) : AOps P N ops (o :: rest) ⟨D, el⟩ σ Q := by
  obtain ⟨j, d', a1, a2, a3, a4, a5, a6⟩ := gO_eq h0
  have := onO_eq h1; subst this
  exact stG a1 a2 a3 a4 a5 a6 h k
theorem ztS {u : AV} {d : Nat} {want : Bool} (h0 : gO N ops el o = some (u, want, d)) (h1 : offO want u = true) (k : AOps P N ops rest ⟨D, (d, .tup []) :: el⟩ σ Q) : AOps P N ops (o :: rest) ⟨D, el⟩ σ Q := by
  obtain ⟨j, d', a1, a2, a3, a4, a5, a6⟩ := gO_eq h0
  exact stS a1 a2 a3 (by rcases offO_eq h1 with e | e <;> subst e; exact .inl a4; exact .inr a4) a5 a6 k
section drawn
def nthO : List Oper → Nat → Option Oper
  | [], _ => none
  | o :: _, 0 => some o
  | _ :: r, n + 1 => nthO r n
theorem nthO_eq : ∀ {l : List Oper} {n : Nat} {o : Oper}, nthO l n = some o → l[n]? = some o
  | [], _, _, h => by simp [nthO] at h
  | c :: _, 0, v, h => by simpa [nthO] using h
  | _ :: cs, n + 1, v, h => by simpa using nthO_eq (l := cs) (n := n) (by simpa [nthO] using h)
theorem nthA {ops : Array Oper} {n : Nat} {o : Oper} (h : nthO ops.toList n = some o) : ops[n]? = some o := by rw [← nthO_eq h]; simp
variable {tb : Array Nat} {QR : Env → List AO → Prop} {X : AV → List AO → Prop} {i : Nat} {past : List (Nat × List AO)} {held : List (Nat × (List AO → Prop))}
theorem yA {v : AV} {d : Nat} (ho : nthO ops.toList i = some o) (h0 : stO N o = some d) (h : ∀ σ, AOp P σ ⟨D, el⟩ o v σ) (k : RP P N ops tb QR X (i + 1) ⟨D, (d, v) :: el⟩ σ past held) : RP P N ops tb QR X i ⟨D, el⟩ σ past held :=
  have ⟨h1, h2, h3⟩ := stO_eq h0
  rA (nthA ho) h1 h2 h3 h k
theorem yAG {v u : AV} {d : Nat} {want : Bool} (ho : nthO ops.toList i = some o) (h0 : gO N ops el o = some (u, want, d)) (h1 : onO want u = true) (h : ∀ σ, AOp P σ ⟨D, el⟩ o v σ) (k : RP P N ops tb QR X (i + 1) ⟨D, (d, v) :: el⟩ σ past held) : RP P N ops tb QR X i ⟨D, el⟩ σ past held := by
  obtain ⟨j, d', a1, a2, a3, a4, a5, a6⟩ := gO_eq h0
  have := onO_eq h1; subst this
  exact rAG (nthA ho) a1 a2 a3 a4 a5 a6 h k
theorem yS {u : AV} {d : Nat} {want : Bool} (ho : nthO ops.toList i = some o) (h0 : gO N ops el o = some (u, want, d)) (h1 : offO want u = true) (k : RP P N ops tb QR X (i + 1) ⟨D, (d, .tup []) :: el⟩ σ past held) : RP P N ops tb QR X i ⟨D, el⟩ σ past held := by
  obtain ⟨j, d', a1, a2, a3, a4, a5, a6⟩ := gO_eq h0
  exact rS (nthA ho) a1 a2 a3 (by rcases offO_eq h1 with e | e <;> subst e; exact .inl a4; exact .inr a4) a5 a6 k
theorem yP {v : AV} {d : Nat} (ho : nthO ops.toList i = some o) (h0 : stO N o = some d) (h : AOp P σ ⟨D, el⟩ o v σ) (hp : PastOK P tb i ⟨D, el⟩ o v past) (k : RP P N ops tb QR X (i + 1) ⟨D, (d, v) :: el⟩ σ past ((i, fun σ' => AOp P σ' ⟨D, el⟩ o v σ') :: held)) : RP P N ops tb QR X i ⟨D, el⟩ σ past held :=
  have ⟨h1, h2, h3⟩ := stO_eq h0
  rP (nthA ho) h1 h2 h3 h hp k
theorem yPG {v u : AV} {d : Nat} {want : Bool} (ho : nthO ops.toList i = some o) (h0 : gO N ops el o = some (u, want, d)) (h1 : onO want u = true) (h : AOp P σ ⟨D, el⟩ o v σ) (hp : PastOK P tb i ⟨D, el⟩ o v past) (k : RP P N ops tb QR X (i + 1) ⟨D, (d, v) :: el⟩ σ past ((i, fun σ' => AOp P σ' ⟨D, el⟩ o v σ') :: held)) : RP P N ops tb QR X i ⟨D, el⟩ σ past held := by
  obtain ⟨j, d', a1, a2, a3, a4, a5, a6⟩ := gO_eq h0
  have := onO_eq h1; subst this
  exact rPG (nthA ho) a1 a2 a3 a4 a5 a6 h hp k
theorem yE {v : AV} {d : Nat} {σ' : List AO} (ho : nthO ops.toList i = some o) (h0 : stO N o = some d) (h : AOp P σ ⟨D, el⟩ o v σ') (hh : HeldOK tb i σ' held) (hc : ChainOK tb i past) (k : RP P N ops tb QR X (i + 1) ⟨D, (d, v) :: el⟩ σ' ((i, σ) :: past) held) : RP P N ops tb QR X i ⟨D, el⟩ σ past held :=
  have ⟨h1, h2, h3⟩ := stO_eq h0
  rE (nthA ho) h1 h2 h3 h hh hc k
theorem yEN {v : AV} {σ' : List AO} (ho : nthO ops.toList i = some o) (hg : o.guard = none) (hd : o.dst = none) (h : AOp P σ e o v σ') (hh : HeldOK tb i σ' held) (hc : ChainOK tb i past) (k : RP P N ops tb QR X (i + 1) e σ' ((i, σ) :: past) held) : RP P N ops tb QR X i e σ past held := rEN (nthA ho) hg hd h hh hc k
end drawn
def mapO {X : Type} (e : Env) : List Operand → (List AV → Option X) → Option X
  | [], k => k []
  | a :: r, k => (opO e a).bind fun v => mapO e r fun l => k (v :: l)
theorem mapO_eq {X : Type} : ∀ {l : List Operand} {k : List AV → Option X} {y : X}, mapO e l k = some y → k (l.map (opv e)) = some y
  | [], k, y, h => h
  | a :: r, k, y, h => by
    simp only [mapO] at h
    cases ha : opO e a with
    | none => rw [ha] at h; cases h
    | some v =>
      rw [ha] at h; simp only [Option.bind_some] at h
      have := mapO_eq (l := r) h
      simp only [List.map_cons, opO_eq ha]; exact this
def callK (e : Env) (args : List Operand) : AV → Option (FuncId × List AV)
  | .func (.func k) fs cs => mapO e args fun avs => some (k, fs ++ avs ++ cs)
  | _ => none
def caO (e : Env) (o : Oper) : Option (FuncId × List AV) :=
  match o.op with
  | .call c => match c.callee with
    | .value f => (opO e f).bind fun fv => callK e c.args.toList fv
    | _ => none
  | _ => none
theorem caO_eq {k : FuncId} {avs : List AV} (h : caO e o = some (k, avs)) :
    ∃ c : Operand, ∃ ar T fs cs, o.op = .call { callee := .value c, args := ar, argTypes := T } ∧ opv e c = .func (.func k) fs cs ∧ avs = fs ++ ar.toList.map (opv e) ++ cs := by
  unfold caO at h
  split at h
  · rename_i c hc
    split at h
    · rename_i f hf
      cases hv : opO e f with
      | none => rw [hv] at h; cases h
      | some fv =>
        rw [hv] at h; simp only [Option.bind_some] at h
        unfold callK at h
        split at h
        · rename_i k' fs cs
          have := mapO_eq h
          simp only [Option.some.injEq, Prod.mk.injEq] at this
          obtain ⟨rfl, rfl⟩ := this
          obtain ⟨ce, ar, T⟩ := c
          simp only at hf; subst hf
          exact ⟨f, ar, T, fs, cs, hc, opO_eq hv, rfl⟩
        · cases h
    · cases h
  · cases h
theorem zc {k : FuncId} {avs : List AV} {v : AV} {σ' : List AO} [hn : TN P k] (h0 : caO e o = some (k, avs)) (h : ACalls P k avs σ (Ret v σ')) : AOp P σ e o v σ' := by
  obtain ⟨c, ar, T, fs, cs, h1, h2, h3⟩ := caO_eq h0
  subst h3
  obtain ⟨fn, a1, a2, a3⟩ := hn.h
  exact op_callF h1 h2 rfl a1 a2 a3 h
theorem zcR {k : FuncId} {avs : List AV} {R : Out → List AO → Prop} [hn : TN P k] (h0 : caO e o = some (k, avs)) (h : ACalls P k avs σ R) : AOpR P σ e o (fun v σ' => R (.ret v) σ') (fun v σ' => R (.pan v) σ') := by
  obtain ⟨c, ar, T, fs, cs, h1, h2, h3⟩ := caO_eq h0
  subst h3
  obtain ⟨fn, a1, a2, a3⟩ := hn.h
  exact op_call h1 h2 rfl a1 a2 a3 h
theorem ztR {Nn X : AV → List AO → Prop} {d : Nat} (h0 : stO N o = some d) (h : AOpR P σ ⟨D, el⟩ o Nn X)
    (k : ∀ v σ', Nn v σ' → AOps P N ops rest ⟨D, (d, v) :: el⟩ σ' Q) (kx : ∀ v σ', X v σ' → Q (.pan v) ⟨D, el⟩ σ') : AOps P N ops (o :: rest) ⟨D, el⟩ σ Q :=
  have ⟨h1, h2, h3⟩ := stO_eq h0
  stR h1 h2 h3 h k kx
def bldC {X : Type} (pls : List (Nat × Nat)) (cs : List AV) (e : Env) : List (Nat × Operand) → (List AV → Option X) → Option X
  | [], k => lstC cs k
  | (i, a) :: r, k => (pls[i]?).bind fun q => (opO e a).bind fun v => bif ones v.cells && Nat.beq v.cells.length q.2 then splC q.1 cs v.cells fun ds => bldC pls ds e r k else none
theorem bldC_eq {X : Type} {pls : List (Nat × Nat)} : ∀ {parts : List (Nat × Operand)} {cs : List AV} {k : List AV → Option X} {y : X}, bldC pls cs e parts k = some y →
    ∃ ds, bld (fun i : Nat => (pls[i]?).map (·.1)) cs e parts = some ds ∧ k ds = some y ∧ (parts.all fun q => ones (opv e q.2).cells && (opv e q.2).cells.length == ((pls[q.1]?).map (·.2)).getD 0) = true
  | [], cs, k, y, h => ⟨cs, rfl, by simp only [bldC, lstC_eq] at h; exact h, rfl⟩
  | (i, a) :: r, cs, k, y, h => by
    simp only [bldC] at h
    cases h1 : pls[i]? with
    | none => rw [h1] at h; cases h
    | some q =>
      rw [h1] at h; simp only [Option.bind_some] at h
      cases h2 : opO e a with
      | none => rw [h2] at h; cases h
      | some v =>
        rw [h2] at h; simp only [Option.bind_some] at h
        have hv := opO_eq h2; subst hv
        cases h3 : (ones (opv e a).cells && Nat.beq (opv e a).cells.length q.2) with
        | false => rw [h3] at h; cases h
        | true =>
          rw [h3] at h; simp only [cond_true] at h
          obtain ⟨ds, h4, h5⟩ := splC_eq h
          obtain ⟨ds', h6, h7, h8⟩ := bldC_eq (parts := r) h5
          simp only [Bool.and_eq_true] at h3
          refine ⟨ds', ?_, h7, ?_⟩
          · simp only [bld, h1, Option.map_some, h4]; exact h6
          · simp only [List.all_cons, h1, Option.map_some, Option.getD_some, h3.1, Nat.eq_of_beq_eq_true h3.2, Bool.true_and, beq_self_eq_true]; exact h8
theorem z_bu {T : TypeId} {parts : Array (Nat × Operand)} {z : Value} {pls : List (Nat × Nat)} {zs cs : List AV} (ho : o.op = .build T parts) (hT : ∃ fs, P.underlying T = some (.struct fs) ∧ (∀ w, (zeroValue T).run P w = Result.ok z w) ∧ Places P fs.toList pls) (hz : cstC z.cells.toList some = some zs)
    (hb : bldC pls zs e parts.toList some = some cs) : AOp P σ e o (.agg cs) σ := by
  obtain ⟨fs, h1, h2, h3⟩ := hT
  have := cstC_eq hz; cases this
  obtain ⟨ds, h4, h5, h6⟩ := bldC_eq hb
  cases h5
  exact op_buildP pls ho h1 h2 h3 h6 h4
section
variable {S T E : TypeId} {a b : Operand}
theorem z_ci {dS : TypeDesc} {k k' : IntKind} {n : Int} (ho : o.op = .convert S T a) (hS : P.underlying S = some dS) (hT : P.underlying T = some (.int k')) (hx : opO e a = some (.int k n)) (hn : k'.wrap n = n) : AOp P σ e o (.int k' n) σ :=
  op_convIn ho (by rw [hS]; rfl) hT (opO_eq hx) hn
theorem z_mi {v : AV} {d : TypeDesc} (ho : o.op = .makeInterface T a) (hT : P.underlying T = some d) (hd : ∀ ms, d ≠ .interface ms) (hx : opO e a = some v) : AOp P σ e o (.iface T v) σ := op_makeInterface ho hT hd (opO_eq hx)
end
end Lg
namespace Lg
open Go Go.RowKit
variable [GLay]
variable {P : Program} {N : Nat} {σ l : List AO} {e : Env} {Q : QA} {ops : Array Oper} {o : Oper} {rest : List Oper} {D : List (FuncId × List AV)} {el : List (Nat × AV)}
def mkv : Bool → List AV → Option AV
  | true, cs => some (.agg cs)
  | false, [c] => some c
  | false, _ => none
theorem ldv_len {n : Nat} {a : AV} {cs : List AV} (h : ldv σ n a = some cs) : cs.length = n := by
  unfold ldv at h
  split at h
  · split at h
    · have := tk_eq h; rw [this.1, List.length_take]; omega
    · cases h
  · split at h
    · split at h
      · have := tk_eq h; rw [this.1, List.length_take]; omega
      · cases h
    · cases h
  · have := tk_eq h; rw [this.1, List.length_take]; omega
  · cases h
theorem z_l {T : TypeId} {a : Operand} {b : Bool} {n : Nat} {cs : List AV} {v : AV} (ho : o.op = .load T a) (ha : ∀ w, (isAgg T).run P w = .ok b w) (hz : ∀ w, (Go.sizeOf T).run P w = Result.ok n w) (hx : ldv σ n (opv e a) = some cs) (hv : mkv b cs = some v) : AOp P σ e o v σ := by
  cases b with
  | true => cases hv; exact op_loadK ho ha hz hx
  | false =>
    obtain ⟨c, rfl⟩ : ∃ c, cs = [c] := by
      unfold mkv at hv; split at hv <;> first | (cases ‹false = true›) | exact ⟨_, rfl⟩ | cases hv
    cases hv
    have h1 : n = 1 := (ldv_len hx).symm
    subst h1
    exact op_load1 ho ha hx
section
variable {d : Option Tmp} {ty : TypeId} {pos : String} {af : Array Edge} {g : Option (Nat × Bool)} {v : AV} {σ' : List AO}
theorem zk0 {x : Operand} (h : AOp P σ e ⟨d, .move x, ty, pos, af, g⟩ v σ') : AOp P σ e ⟨d, .move x, ty, pos, af, g⟩ v σ' := h
theorem zk1 {x : Operand} (h : AOp P σ e ⟨d, .assign x, ty, pos, af, g⟩ v σ') : AOp P σ e ⟨d, .assign x, ty, pos, af, g⟩ v σ' := h
theorem zk2 {x y z : Operand} (h : AOp P σ e ⟨d, .pick x y z, ty, pos, af, g⟩ v σ') : AOp P σ e ⟨d, .pick x y z, ty, pos, af, g⟩ v σ' := h
theorem zk3 {T : TypeId} {x : Operand} {n : Nat} (h : AOp P σ e ⟨d, .fieldAddr T x n, ty, pos, af, g⟩ v σ') : AOp P σ e ⟨d, .fieldAddr T x n, ty, pos, af, g⟩ v σ' := h
theorem zk4 {T : TypeId} {x : Operand} (h : AOp P σ e ⟨d, .load T x, ty, pos, af, g⟩ v σ') : AOp P σ e ⟨d, .load T x, ty, pos, af, g⟩ v σ' := h
theorem zk5 {T : TypeId} {x y : Operand} (h : AOp P σ e ⟨d, .store T x y, ty, pos, af, g⟩ v σ') : AOp P σ e ⟨d, .store T x y, ty, pos, af, g⟩ v σ' := h
theorem zk6 {T : TypeId} {x : Operand} {n : Nat} (h : AOp P σ e ⟨d, .field T x n, ty, pos, af, g⟩ v σ') : AOp P σ e ⟨d, .field T x n, ty, pos, af, g⟩ v σ' := h
theorem zk7 {x : Operand} {n : Nat} (h : AOp P σ e ⟨d, .extract x n, ty, pos, af, g⟩ v σ') : AOp P σ e ⟨d, .extract x n, ty, pos, af, g⟩ v σ' := h
theorem zk8 {x : Operand} (h : AOp P σ e ⟨d, .nilCheck x, ty, pos, af, g⟩ v σ') : AOp P σ e ⟨d, .nilCheck x, ty, pos, af, g⟩ v σ' := h
theorem zk9 {b : UnOp} {T : TypeId} {x : Operand} (h : AOp P σ e ⟨d, .unOp b T x, ty, pos, af, g⟩ v σ') : AOp P σ e ⟨d, .unOp b T x, ty, pos, af, g⟩ v σ' := h
theorem zk10 {c : Call} (h : AOp P σ e ⟨d, .call c, ty, pos, af, g⟩ v σ') : AOp P σ e ⟨d, .call c, ty, pos, af, g⟩ v σ' := h
theorem zk11 {T : TypeId} {x : Operand} (h : AOp P σ e ⟨d, .box T x, ty, pos, af, g⟩ v σ') : AOp P σ e ⟨d, .box T x, ty, pos, af, g⟩ v σ' := h
theorem zk12 {T : TypeId} (h : AOp P σ e ⟨d, .alloc T, ty, pos, af, g⟩ v σ') : AOp P σ e ⟨d, .alloc T, ty, pos, af, g⟩ v σ' := h
theorem zk13 {T : TypeId} {ps : Array (Nat × Operand)} (h : AOp P σ e ⟨d, .build T ps, ty, pos, af, g⟩ v σ') : AOp P σ e ⟨d, .build T ps, ty, pos, af, g⟩ v σ' := h
theorem zk14 {T : TypeId} {x y : Operand} (h : AOp P σ e ⟨d, .index T x y, ty, pos, af, g⟩ v σ') : AOp P σ e ⟨d, .index T x y, ty, pos, af, g⟩ v σ' := h
theorem zk15 {T : TypeId} {x y : Operand} (h : AOp P σ e ⟨d, .indexAddr T x y, ty, pos, af, g⟩ v σ') : AOp P σ e ⟨d, .indexAddr T x y, ty, pos, af, g⟩ v σ' := h
theorem zk16 {T : TypeId} {x : Operand} {lo hi mx : Option Operand} (h : AOp P σ e ⟨d, .slice T x lo hi mx, ty, pos, af, g⟩ v σ') : AOp P σ e ⟨d, .slice T x lo hi mx, ty, pos, af, g⟩ v σ' := h
theorem zk17 {T U : TypeId} {x : Operand} (h : AOp P σ e ⟨d, .convert T U x, ty, pos, af, g⟩ v σ') : AOp P σ e ⟨d, .convert T U x, ty, pos, af, g⟩ v σ' := h
theorem zk18 {T : TypeId} {x : Operand} (h : AOp P σ e ⟨d, .makeInterface T x, ty, pos, af, g⟩ v σ') : AOp P σ e ⟨d, .makeInterface T x, ty, pos, af, g⟩ v σ' := h
theorem zk19 {f : Fn} {a1 a2 : Array Operand} (h : AOp P σ e ⟨d, .makeFunc f a1 a2, ty, pos, af, g⟩ v σ') : AOp P σ e ⟨d, .makeFunc f a1 a2, ty, pos, af, g⟩ v σ' := h
theorem zk20 {T U : TypeId} {x y : Operand} (h : AOp P σ e ⟨d, .binOp .add T x y U, ty, pos, af, g⟩ v σ') : AOp P σ e ⟨d, .binOp .add T x y U, ty, pos, af, g⟩ v σ' := h
theorem zk21 {T U : TypeId} {x y : Operand} (h : AOp P σ e ⟨d, .binOp .sub T x y U, ty, pos, af, g⟩ v σ') : AOp P σ e ⟨d, .binOp .sub T x y U, ty, pos, af, g⟩ v σ' := h
theorem zk22 {T U : TypeId} {x y : Operand} (h : AOp P σ e ⟨d, .binOp .mul T x y U, ty, pos, af, g⟩ v σ') : AOp P σ e ⟨d, .binOp .mul T x y U, ty, pos, af, g⟩ v σ' := h
theorem zk23 {T U : TypeId} {x y : Operand} (h : AOp P σ e ⟨d, .binOp .eql T x y U, ty, pos, af, g⟩ v σ') : AOp P σ e ⟨d, .binOp .eql T x y U, ty, pos, af, g⟩ v σ' := h
theorem zk24 {T U : TypeId} {x y : Operand} (h : AOp P σ e ⟨d, .binOp .neq T x y U, ty, pos, af, g⟩ v σ') : AOp P σ e ⟨d, .binOp .neq T x y U, ty, pos, af, g⟩ v σ' := h
theorem zk25 {T U : TypeId} {x y : Operand} (h : AOp P σ e ⟨d, .binOp .lss T x y U, ty, pos, af, g⟩ v σ') : AOp P σ e ⟨d, .binOp .lss T x y U, ty, pos, af, g⟩ v σ' := h
theorem zk26 {T U : TypeId} {x y : Operand} (h : AOp P σ e ⟨d, .binOp .leq T x y U, ty, pos, af, g⟩ v σ') : AOp P σ e ⟨d, .binOp .leq T x y U, ty, pos, af, g⟩ v σ' := h
theorem zk27 {T U : TypeId} {x y : Operand} (h : AOp P σ e ⟨d, .binOp .gtr T x y U, ty, pos, af, g⟩ v σ') : AOp P σ e ⟨d, .binOp .gtr T x y U, ty, pos, af, g⟩ v σ' := h
theorem zk28 {T U : TypeId} {x y : Operand} (h : AOp P σ e ⟨d, .binOp .geq T x y U, ty, pos, af, g⟩ v σ') : AOp P σ e ⟨d, .binOp .geq T x y U, ty, pos, af, g⟩ v σ' := h
variable {op : Op} {dd : Tmp} {gg : Nat × Bool}
theorem zs0 (h : AOps P N ops (⟨some dd, op, ty, pos, af, none⟩ :: rest) e σ Q) : AOps P N ops (⟨some dd, op, ty, pos, af, none⟩ :: rest) e σ Q := h
theorem zs1 (h : AOps P N ops (⟨none, op, ty, pos, af, none⟩ :: rest) e σ Q) : AOps P N ops (⟨none, op, ty, pos, af, none⟩ :: rest) e σ Q := h
end
end Lg
namespace Lg
open Go Go.RowKit
variable [GLay]
theorem zcl {p q : Prop} (h : p) (e : p = q := by (try simp only [decide_eq_true_eq, decide_eq_false_iff_not, Bool.not_eq_true', Bool.not_eq_false', Int.not_lt, Int.not_le, Bool.not_true, Bool.not_false, Int.toNat_natCast, bne_iff_ne, beq_iff_eq, beq_eq_false_iff_ne, ne_eq, Decidable.not_not]) <;> exact rfl) : q := e ▸ h
variable {P : Program} {σ : List AO} {e : Env} {o : Oper}
theorem zoa {v : AV} {σ' : List AO} (h : AOp P σ e o v σ' := by first
  | ((with_reducible apply zk0); exact op_moveO rfl rfl)
  | ((with_reducible apply zk1); exact op_assignO rfl rfl)
  | ((with_reducible apply zk2); first | exact op_pickTO rfl rfl rfl | exact op_pickFO rfl rfl rfl)
  | ((with_reducible apply zk3); exact z_fa rfl TU.h rfl TZ.h rfl rfl rfl trivial)
  | ((with_reducible apply zk4); exact z_l rfl TA.h TZ.h (by first | exact ldC_own rfl rfl | exact ldC_pp rfl | exact ldC_ownS rfl rfl | exact ldC_set (by assumption) rfl | exact ldC_setA (by assumption) rfl | exact ldC_old (by assumption) rfl | exact ldC_ptr (by assumption) rfl) (by exact rfl))
  | ((with_reducible apply zk5); first | exact z_so rfl TZ.h rfl rfl rfl rfl rfl rfl rfl | exact z_ss rfl TZ.h rfl rfl rfl rfl (by assumption) rfl rfl | exact z_ssA rfl TZ.h rfl rfl rfl rfl (by assumption) rfl rfl | exact z_sos rfl TZ.h rfl rfl rfl rfl rfl rfl rfl | exact z_sp rfl TZ.h rfl rfl rfl rfl (by assumption) rfl rfl)
  | ((with_reducible apply zk23); first | exact op_eql rfl rfl rfl | exact op_seql rfl rfl rfl | exact op_beql rfl TU.h rfl rfl | exact op_eqPN rfl TU.h rfl rfl rfl | exact op_eqNN rfl TU.h rfl rfl | exact op_eqIN rfl TU.h rfl | exact op_eqINil rfl TU.h rfl)
  | ((with_reducible apply zk24); first | exact op_neq rfl rfl rfl | exact op_sneq rfl rfl rfl | exact op_bneq rfl TU.h rfl rfl | exact op_nePN rfl TU.h rfl rfl rfl | exact op_neNN rfl TU.h rfl rfl | exact op_neIN rfl TU.h rfl | exact op_neINil rfl TU.h rfl)
  | ((with_reducible apply zk25); first | exact op_lss rfl rfl rfl | exact op_slss rfl rfl rfl)
  | ((with_reducible apply zk26); first | exact op_leq rfl rfl rfl | exact op_sleq rfl rfl rfl)
  | ((with_reducible apply zk27); first | exact op_gtr rfl rfl rfl | exact op_sgtr rfl rfl rfl)
  | ((with_reducible apply zk28); first | exact op_geq rfl rfl rfl | exact op_sgeq rfl rfl rfl)
  | ((with_reducible apply zk20); first | exact op_add64 rfl rfl rfl (by omega) (by omega) | exact op_cat rfl rfl rfl (by first | omega | (simp only [ByteArray.size_append]; omega)))
  | ((with_reducible apply zk21); exact op_sub64 rfl rfl rfl (by omega) (by omega))
  | ((with_reducible apply zk22); exact op_mul64 rfl rfl rfl (by omega) (by omega))
  | ((with_reducible apply zk10); first | exact z_ls rfl rfl TU.h rfl | exact z_le rfl rfl TU.h rfl rfl rfl trivial | exact op_max2 rfl rfl rfl | exact op_min2 rfl rfl rfl)
  | ((with_reducible apply zk7); exact op_extract rfl rfl rfl)
  | ((with_reducible apply zk9); exact op_not rfl rfl)
  | ((with_reducible apply zk6); first | exact z_f1 rfl TU.h rfl TA.h rfl rfl | exact z_fK rfl TU.h rfl TA.h TZ.h rfl rfl)
  | ((with_reducible apply zk8); exact op_nilCheck rfl rfl rfl)
  | ((with_reducible apply zk11); first | exact z_bS rfl rfl rfl rfl rfl | exact z_bS0 rfl rfl rfl rfl | exact z_bO rfl rfl rfl rfl rfl | exact z_b0 rfl rfl rfl rfl)
  | ((with_reducible apply zk12); first | exact z_aS rfl TV.h rfl rfl | exact z_aS0 rfl TV.h rfl | exact z_aO rfl TV.h rfl rfl | exact z_a0 rfl TV.h rfl)
  | ((with_reducible apply zk13); exact z_bu rfl TB.h rfl rfl)
  | ((with_reducible apply zk14); exact op_index_strB rfl TU.h rfl rfl (by omega) (by omega))
  | ((with_reducible apply zk15); exact op_indexAddr rfl TU.h TZ.h rfl rfl (by omega) (by first | exact lcells_get (by assumption) | exact mcells_get (by assumption) | exact brows_at (by omega) | assumption))
  | ((with_reducible apply zk16); exact op_slice_str _ _ rfl TU.h rfl (by first | exact ⟨_, rfl⟩ | rfl) (by first | exact ⟨_, rfl⟩ | rfl) (by omega) (by omega) (by omega))
  | ((with_reducible apply zk17); first | exact z_ci rfl TU.h TU.h rfl (by first | rfl | exact wrap64_in (by omega) (by omega) | exact wrapu8_in (by omega) (by omega) | (simp only [IntKind.wrap]; omega)) | exact op_strBytes rfl TU.h TU.h TU.h rfl | exact op_bytesStr rfl TU.h TU.h TU.h (by rfl) rfl rfl | exact op_convStr rfl TU.h TU.h rfl)
  | ((with_reducible apply zk18); exact z_mi rfl TU.h (by intro ms h; cases h) rfl)
  | ((with_reducible apply zk19); exact op_makeFunc rfl rfl rfl)) : AOp P σ e o v σ' := h
structure Hid (R : Prop) : Type where
  h : R
theorem zsp {D : List (FuncId × List AV)} {l : List (Nat × AV)} {N : Nat} {Q : QA} {ops : Array Oper} {rest : List Oper} {b : Bool} (d : Nat) (hb : lookO l d = some (.bool b)) (kt : b = true → AOps P N ops rest ⟨D, l⟩ σ Q) (kf : b = false → AOps P N ops rest ⟨D, l⟩ σ Q) : AOps P N ops rest ⟨D, l⟩ σ Q := AOps_split d hb kt kf
theorem zspr {D : List (FuncId × List AV)} {l : List (Nat × AV)} {N : Nat} {ops : Array Oper} {b : Bool} {tb : Array Nat} {QR : Env → List AO → Prop} {X : AV → List AO → Prop} {i : Nat} {past : List (Nat × List AO)} {held : List (Nat × (List AO → Prop))} (d : Nat) (hb : lookO l d = some (.bool b)) (kt : b = true → RP P N ops tb QR X i ⟨D, l⟩ σ past held) (kf : b = false → RP P N ops tb QR X i ⟨D, l⟩ σ past held) : RP P N ops tb QR X i ⟨D, l⟩ σ past held := RP_split d hb kt kf
theorem zg1 {G R : Prop} (k : R) (h : Hid R → G := by
  intro kk
  iterate 1 (first | ((with_reducible apply zs0); refine zt rfl zoa ?_) | refine ztS rfl rfl ?_ | refine ztG rfl rfl zoa ?_ | ((with_reducible apply zs1); refine ztN rfl rfl zoa ?_))
  exact kk.h) : G := h ⟨k⟩
theorem zd1 {G R : Prop} (k : R) (h : Hid R → G := by
  intro kk
  iterate 1 (first | refine yS rfl rfl rfl ?_ | refine yAG rfl rfl rfl (fun _ => zoa) ?_ | refine yA rfl rfl (fun _ => zoa) ?_)
  exact kk.h) : G := h ⟨k⟩
theorem zp1 {G R : Prop} (k : R) (h : Hid R → G := by
  intro kk
  iterate 1 (first | refine yP rfl rfl zoa (by repeat (first | exact trivial | refine ⟨.inl rfl, ?_⟩)) ?_ | refine yPG rfl rfl rfl zoa (by repeat (first | exact trivial | refine ⟨.inl rfl, ?_⟩)) ?_)
  exact kk.h) : G := h ⟨k⟩
theorem zg2 {G R : Prop} (k : R) (h : Hid R → G := by
  intro kk
  iterate 2 (first | ((with_reducible apply zs0); refine zt rfl zoa ?_) | refine ztS rfl rfl ?_ | refine ztG rfl rfl zoa ?_ | ((with_reducible apply zs1); refine ztN rfl rfl zoa ?_))
  exact kk.h) : G := h ⟨k⟩
theorem zd2 {G R : Prop} (k : R) (h : Hid R → G := by
  intro kk
  iterate 2 (first | refine yS rfl rfl rfl ?_ | refine yAG rfl rfl rfl (fun _ => zoa) ?_ | refine yA rfl rfl (fun _ => zoa) ?_)
  exact kk.h) : G := h ⟨k⟩
theorem zg3 {G R : Prop} (k : R) (h : Hid R → G := by
  intro kk
  iterate 3 (first | ((with_reducible apply zs0); refine zt rfl zoa ?_) | refine ztS rfl rfl ?_ | refine ztG rfl rfl zoa ?_ | ((with_reducible apply zs1); refine ztN rfl rfl zoa ?_))
  exact kk.h) : G := h ⟨k⟩
theorem zd3 {G R : Prop} (k : R) (h : Hid R → G := by
  intro kk
  iterate 3 (first | refine yS rfl rfl rfl ?_ | refine yAG rfl rfl rfl (fun _ => zoa) ?_ | refine yA rfl rfl (fun _ => zoa) ?_)
  exact kk.h) : G := h ⟨k⟩
theorem zg4 {G R : Prop} (k : R) (h : Hid R → G := by
  intro kk
  iterate 4 (first | ((with_reducible apply zs0); refine zt rfl zoa ?_) | refine ztS rfl rfl ?_ | refine ztG rfl rfl zoa ?_ | ((with_reducible apply zs1); refine ztN rfl rfl zoa ?_))
  exact kk.h) : G := h ⟨k⟩
theorem zd4 {G R : Prop} (k : R) (h : Hid R → G := by
  intro kk
  iterate 4 (first | refine yS rfl rfl rfl ?_ | refine yAG rfl rfl rfl (fun _ => zoa) ?_ | refine yA rfl rfl (fun _ => zoa) ?_)
  exact kk.h) : G := h ⟨k⟩
theorem zg5 {G R : Prop} (k : R) (h : Hid R → G := by
  intro kk
  iterate 5 (first | ((with_reducible apply zs0); refine zt rfl zoa ?_) | refine ztS rfl rfl ?_ | refine ztG rfl rfl zoa ?_ | ((with_reducible apply zs1); refine ztN rfl rfl zoa ?_))
  exact kk.h) : G := h ⟨k⟩
theorem zd5 {G R : Prop} (k : R) (h : Hid R → G := by
  intro kk
  iterate 5 (first | refine yS rfl rfl rfl ?_ | refine yAG rfl rfl rfl (fun _ => zoa) ?_ | refine yA rfl rfl (fun _ => zoa) ?_)
  exact kk.h) : G := h ⟨k⟩
theorem zg6 {G R : Prop} (k : R) (h : Hid R → G := by
  intro kk
  iterate 6 (first | ((with_reducible apply zs0); refine zt rfl zoa ?_) | refine ztS rfl rfl ?_ | refine ztG rfl rfl zoa ?_ | ((with_reducible apply zs1); refine ztN rfl rfl zoa ?_))
  exact kk.h) : G := h ⟨k⟩
theorem zg7 {G R : Prop} (k : R) (h : Hid R → G := by
  intro kk
  iterate 7 (first | ((with_reducible apply zs0); refine zt rfl zoa ?_) | refine ztS rfl rfl ?_ | refine ztG rfl rfl zoa ?_ | ((with_reducible apply zs1); refine ztN rfl rfl zoa ?_))
  exact kk.h) : G := h ⟨k⟩
theorem zd7 {G R : Prop} (k : R) (h : Hid R → G := by
  intro kk
  iterate 7 (first | refine yS rfl rfl rfl ?_ | refine yAG rfl rfl rfl (fun _ => zoa) ?_ | refine yA rfl rfl (fun _ => zoa) ?_)
  exact kk.h) : G := h ⟨k⟩
theorem zg8 {G R : Prop} (k : R) (h : Hid R → G := by
  intro kk
  iterate 8 (first | ((with_reducible apply zs0); refine zt rfl zoa ?_) | refine ztS rfl rfl ?_ | refine ztG rfl rfl zoa ?_ | ((with_reducible apply zs1); refine ztN rfl rfl zoa ?_))
  exact kk.h) : G := h ⟨k⟩
theorem zd8 {G R : Prop} (k : R) (h : Hid R → G := by
  intro kk
  iterate 8 (first | refine yS rfl rfl rfl ?_ | refine yAG rfl rfl rfl (fun _ => zoa) ?_ | refine yA rfl rfl (fun _ => zoa) ?_)
  exact kk.h) : G := h ⟨k⟩
theorem zg9 {G R : Prop} (k : R) (h : Hid R → G := by
  intro kk
  iterate 9 (first | ((with_reducible apply zs0); refine zt rfl zoa ?_) | refine ztS rfl rfl ?_ | refine ztG rfl rfl zoa ?_ | ((with_reducible apply zs1); refine ztN rfl rfl zoa ?_))
  exact kk.h) : G := h ⟨k⟩
theorem zd9 {G R : Prop} (k : R) (h : Hid R → G := by
  intro kk
  iterate 9 (first | refine yS rfl rfl rfl ?_ | refine yAG rfl rfl rfl (fun _ => zoa) ?_ | refine yA rfl rfl (fun _ => zoa) ?_)
  exact kk.h) : G := h ⟨k⟩
theorem zg10 {G R : Prop} (k : R) (h : Hid R → G := by
  intro kk
  iterate 10 (first | ((with_reducible apply zs0); refine zt rfl zoa ?_) | refine ztS rfl rfl ?_ | refine ztG rfl rfl zoa ?_ | ((with_reducible apply zs1); refine ztN rfl rfl zoa ?_))
  exact kk.h) : G := h ⟨k⟩
theorem zd10 {G R : Prop} (k : R) (h : Hid R → G := by
  intro kk
  iterate 10 (first | refine yS rfl rfl rfl ?_ | refine yAG rfl rfl rfl (fun _ => zoa) ?_ | refine yA rfl rfl (fun _ => zoa) ?_)
  exact kk.h) : G := h ⟨k⟩
theorem zg20 {G R : Prop} (k : R) (h : Hid R → G := by
  intro kk
  iterate 20 (first | ((with_reducible apply zs0); refine zt rfl zoa ?_) | refine ztS rfl rfl ?_ | refine ztG rfl rfl zoa ?_ | ((with_reducible apply zs1); refine ztN rfl rfl zoa ?_))
  exact kk.h) : G := h ⟨k⟩
theorem zg30 {G R : Prop} (k : R) (h : Hid R → G := by
  intro kk
  iterate 30 (first | ((with_reducible apply zs0); refine zt rfl zoa ?_) | refine ztS rfl rfl ?_ | refine ztG rfl rfl zoa ?_ | ((with_reducible apply zs1); refine ztN rfl rfl zoa ?_))
  exact kk.h) : G := h ⟨k⟩
theorem zsr {G R : Prop} (k : R) (h : Hid R → G := by
  intro kk
  refine AWp_seq ?_
  refine AWp_regL ?_
  exact kk.h) : G := h ⟨k⟩
theorem zon {G R : Prop} (k : R) (h : Hid R → G := by
  intro kk
  refine AOps_nil ?_
  exact kk.h) : G := h ⟨k⟩
theorem zrt {G R : Prop} (k : R) (h : Hid R → G := by
  intro kk
  refine AWp_ret ?_
  (try simp only [blockQ, thenQ])
  exact kk.h) : G := h ⟨k⟩
theorem zw1 {G R : Prop} (k : R) (h : Hid R → G := by
  intro kk
  refine AWp_seq ?_
  refine AWp_regL ?_
  iterate 1 (first | ((with_reducible apply zs0); refine zt rfl zoa ?_) | refine ztS rfl rfl ?_ | refine ztG rfl rfl zoa ?_ | ((with_reducible apply zs1); refine ztN rfl rfl zoa ?_))
  refine AOps_nil ?_
  exact kk.h) : G := h ⟨k⟩
theorem zu1 {G R : Prop} (k : R) (h : Hid R → G := by
  intro kk
  refine AWp_seq ?_
  refine AWp_regL ?_
  iterate 1 (first | ((with_reducible apply zs0); refine zt rfl zoa ?_) | refine ztS rfl rfl ?_ | refine ztG rfl rfl zoa ?_ | ((with_reducible apply zs1); refine ztN rfl rfl zoa ?_))
  exact kk.h) : G := h ⟨k⟩
theorem zv1 {G R : Prop} (k : R) (h : Hid R → G := by
  intro kk
  iterate 1 (first | ((with_reducible apply zs0); refine zt rfl zoa ?_) | refine ztS rfl rfl ?_ | refine ztG rfl rfl zoa ?_ | ((with_reducible apply zs1); refine ztN rfl rfl zoa ?_))
  refine AOps_nil ?_
  exact kk.h) : G := h ⟨k⟩
theorem zw2 {G R : Prop} (k : R) (h : Hid R → G := by
  intro kk
  refine AWp_seq ?_
  refine AWp_regL ?_
  iterate 2 (first | ((with_reducible apply zs0); refine zt rfl zoa ?_) | refine ztS rfl rfl ?_ | refine ztG rfl rfl zoa ?_ | ((with_reducible apply zs1); refine ztN rfl rfl zoa ?_))
  refine AOps_nil ?_
  exact kk.h) : G := h ⟨k⟩
theorem zu2 {G R : Prop} (k : R) (h : Hid R → G := by
  intro kk
  refine AWp_seq ?_
  refine AWp_regL ?_
  iterate 2 (first | ((with_reducible apply zs0); refine zt rfl zoa ?_) | refine ztS rfl rfl ?_ | refine ztG rfl rfl zoa ?_ | ((with_reducible apply zs1); refine ztN rfl rfl zoa ?_))
  exact kk.h) : G := h ⟨k⟩
theorem zv2 {G R : Prop} (k : R) (h : Hid R → G := by
  intro kk
  iterate 2 (first | ((with_reducible apply zs0); refine zt rfl zoa ?_) | refine ztS rfl rfl ?_ | refine ztG rfl rfl zoa ?_ | ((with_reducible apply zs1); refine ztN rfl rfl zoa ?_))
  refine AOps_nil ?_
  exact kk.h) : G := h ⟨k⟩
theorem zw3 {G R : Prop} (k : R) (h : Hid R → G := by
  intro kk
  refine AWp_seq ?_
  refine AWp_regL ?_
  iterate 3 (first | ((with_reducible apply zs0); refine zt rfl zoa ?_) | refine ztS rfl rfl ?_ | refine ztG rfl rfl zoa ?_ | ((with_reducible apply zs1); refine ztN rfl rfl zoa ?_))
  refine AOps_nil ?_
  exact kk.h) : G := h ⟨k⟩
theorem zu3 {G R : Prop} (k : R) (h : Hid R → G := by
  intro kk
  refine AWp_seq ?_
  refine AWp_regL ?_
  iterate 3 (first | ((with_reducible apply zs0); refine zt rfl zoa ?_) | refine ztS rfl rfl ?_ | refine ztG rfl rfl zoa ?_ | ((with_reducible apply zs1); refine ztN rfl rfl zoa ?_))
  exact kk.h) : G := h ⟨k⟩
theorem zv3 {G R : Prop} (k : R) (h : Hid R → G := by
  intro kk
  iterate 3 (first | ((with_reducible apply zs0); refine zt rfl zoa ?_) | refine ztS rfl rfl ?_ | refine ztG rfl rfl zoa ?_ | ((with_reducible apply zs1); refine ztN rfl rfl zoa ?_))
  refine AOps_nil ?_
  exact kk.h) : G := h ⟨k⟩
theorem zw4 {G R : Prop} (k : R) (h : Hid R → G := by
  intro kk
  refine AWp_seq ?_
  refine AWp_regL ?_
  iterate 4 (first | ((with_reducible apply zs0); refine zt rfl zoa ?_) | refine ztS rfl rfl ?_ | refine ztG rfl rfl zoa ?_ | ((with_reducible apply zs1); refine ztN rfl rfl zoa ?_))
  refine AOps_nil ?_
  exact kk.h) : G := h ⟨k⟩
theorem zu4 {G R : Prop} (k : R) (h : Hid R → G := by
  intro kk
  refine AWp_seq ?_
  refine AWp_regL ?_
  iterate 4 (first | ((with_reducible apply zs0); refine zt rfl zoa ?_) | refine ztS rfl rfl ?_ | refine ztG rfl rfl zoa ?_ | ((with_reducible apply zs1); refine ztN rfl rfl zoa ?_))
  exact kk.h) : G := h ⟨k⟩
theorem zv4 {G R : Prop} (k : R) (h : Hid R → G := by
  intro kk
  iterate 4 (first | ((with_reducible apply zs0); refine zt rfl zoa ?_) | refine ztS rfl rfl ?_ | refine ztG rfl rfl zoa ?_ | ((with_reducible apply zs1); refine ztN rfl rfl zoa ?_))
  refine AOps_nil ?_
  exact kk.h) : G := h ⟨k⟩
theorem zw5 {G R : Prop} (k : R) (h : Hid R → G := by
  intro kk
  refine AWp_seq ?_
  refine AWp_regL ?_
  iterate 5 (first | ((with_reducible apply zs0); refine zt rfl zoa ?_) | refine ztS rfl rfl ?_ | refine ztG rfl rfl zoa ?_ | ((with_reducible apply zs1); refine ztN rfl rfl zoa ?_))
  refine AOps_nil ?_
  exact kk.h) : G := h ⟨k⟩
theorem zu5 {G R : Prop} (k : R) (h : Hid R → G := by
  intro kk
  refine AWp_seq ?_
  refine AWp_regL ?_
  iterate 5 (first | ((with_reducible apply zs0); refine zt rfl zoa ?_) | refine ztS rfl rfl ?_ | refine ztG rfl rfl zoa ?_ | ((with_reducible apply zs1); refine ztN rfl rfl zoa ?_))
  exact kk.h) : G := h ⟨k⟩
theorem zv5 {G R : Prop} (k : R) (h : Hid R → G := by
  intro kk
  iterate 5 (first | ((with_reducible apply zs0); refine zt rfl zoa ?_) | refine ztS rfl rfl ?_ | refine ztG rfl rfl zoa ?_ | ((with_reducible apply zs1); refine ztN rfl rfl zoa ?_))
  refine AOps_nil ?_
  exact kk.h) : G := h ⟨k⟩
theorem zw6 {G R : Prop} (k : R) (h : Hid R → G := by
  intro kk
  refine AWp_seq ?_
  refine AWp_regL ?_
  iterate 6 (first | ((with_reducible apply zs0); refine zt rfl zoa ?_) | refine ztS rfl rfl ?_ | refine ztG rfl rfl zoa ?_ | ((with_reducible apply zs1); refine ztN rfl rfl zoa ?_))
  refine AOps_nil ?_
  exact kk.h) : G := h ⟨k⟩
theorem zu6 {G R : Prop} (k : R) (h : Hid R → G := by
  intro kk
  refine AWp_seq ?_
  refine AWp_regL ?_
  iterate 6 (first | ((with_reducible apply zs0); refine zt rfl zoa ?_) | refine ztS rfl rfl ?_ | refine ztG rfl rfl zoa ?_ | ((with_reducible apply zs1); refine ztN rfl rfl zoa ?_))
  exact kk.h) : G := h ⟨k⟩
theorem zv6 {G R : Prop} (k : R) (h : Hid R → G := by
  intro kk
  iterate 6 (first | ((with_reducible apply zs0); refine zt rfl zoa ?_) | refine ztS rfl rfl ?_ | refine ztG rfl rfl zoa ?_ | ((with_reducible apply zs1); refine ztN rfl rfl zoa ?_))
  refine AOps_nil ?_
  exact kk.h) : G := h ⟨k⟩
theorem zw7 {G R : Prop} (k : R) (h : Hid R → G := by
  intro kk
  refine AWp_seq ?_
  refine AWp_regL ?_
  iterate 7 (first | ((with_reducible apply zs0); refine zt rfl zoa ?_) | refine ztS rfl rfl ?_ | refine ztG rfl rfl zoa ?_ | ((with_reducible apply zs1); refine ztN rfl rfl zoa ?_))
  refine AOps_nil ?_
  exact kk.h) : G := h ⟨k⟩
theorem zu7 {G R : Prop} (k : R) (h : Hid R → G := by
  intro kk
  refine AWp_seq ?_
  refine AWp_regL ?_
  iterate 7 (first | ((with_reducible apply zs0); refine zt rfl zoa ?_) | refine ztS rfl rfl ?_ | refine ztG rfl rfl zoa ?_ | ((with_reducible apply zs1); refine ztN rfl rfl zoa ?_))
  exact kk.h) : G := h ⟨k⟩
theorem zv7 {G R : Prop} (k : R) (h : Hid R → G := by
  intro kk
  iterate 7 (first | ((with_reducible apply zs0); refine zt rfl zoa ?_) | refine ztS rfl rfl ?_ | refine ztG rfl rfl zoa ?_ | ((with_reducible apply zs1); refine ztN rfl rfl zoa ?_))
  refine AOps_nil ?_
  exact kk.h) : G := h ⟨k⟩
theorem zw8 {G R : Prop} (k : R) (h : Hid R → G := by
  intro kk
  refine AWp_seq ?_
  refine AWp_regL ?_
  iterate 8 (first | ((with_reducible apply zs0); refine zt rfl zoa ?_) | refine ztS rfl rfl ?_ | refine ztG rfl rfl zoa ?_ | ((with_reducible apply zs1); refine ztN rfl rfl zoa ?_))
  refine AOps_nil ?_
  exact kk.h) : G := h ⟨k⟩
theorem zu8 {G R : Prop} (k : R) (h : Hid R → G := by
  intro kk
  refine AWp_seq ?_
  refine AWp_regL ?_
  iterate 8 (first | ((with_reducible apply zs0); refine zt rfl zoa ?_) | refine ztS rfl rfl ?_ | refine ztG rfl rfl zoa ?_ | ((with_reducible apply zs1); refine ztN rfl rfl zoa ?_))
  exact kk.h) : G := h ⟨k⟩
theorem zv8 {G R : Prop} (k : R) (h : Hid R → G := by
  intro kk
  iterate 8 (first | ((with_reducible apply zs0); refine zt rfl zoa ?_) | refine ztS rfl rfl ?_ | refine ztG rfl rfl zoa ?_ | ((with_reducible apply zs1); refine ztN rfl rfl zoa ?_))
  refine AOps_nil ?_
  exact kk.h) : G := h ⟨k⟩
theorem zw9 {G R : Prop} (k : R) (h : Hid R → G := by
  intro kk
  refine AWp_seq ?_
  refine AWp_regL ?_
  iterate 9 (first | ((with_reducible apply zs0); refine zt rfl zoa ?_) | refine ztS rfl rfl ?_ | refine ztG rfl rfl zoa ?_ | ((with_reducible apply zs1); refine ztN rfl rfl zoa ?_))
  refine AOps_nil ?_
  exact kk.h) : G := h ⟨k⟩
theorem zv9 {G R : Prop} (k : R) (h : Hid R → G := by
  intro kk
  iterate 9 (first | ((with_reducible apply zs0); refine zt rfl zoa ?_) | refine ztS rfl rfl ?_ | refine ztG rfl rfl zoa ?_ | ((with_reducible apply zs1); refine ztN rfl rfl zoa ?_))
  refine AOps_nil ?_
  exact kk.h) : G := h ⟨k⟩
end Lg
