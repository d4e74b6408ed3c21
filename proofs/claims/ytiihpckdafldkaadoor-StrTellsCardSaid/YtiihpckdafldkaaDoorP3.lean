/- A part of the proof of StrTells: the text that stands in quotes at any place of any bytes, or what is amiss, where; any text in quotes: Lg21 Lg22 Lg23 Sh1 Vb Lv1 Lv2 Lv3. -/
import Derived.Test.YtiihpckdafldkaaDoorP2
import Derived.Laws.IdiomStrings
import Derived.Laws.BytesArg
import Derived.Laws.Pointers
import Derived.Shelf.Unicode.ValidAny
import Derived.Test.YtiihpckdafldkaaDoorProg
import Derived.Test.YtiihpckdafldkaaDoorRows
import Derived.Lib.LaidU8
import Derived.Lib.LaidIn
import Derived.LaidMore
import Derived.ProofKit
import Derived.OpenShut
import Derived.Stop.Joined
import Derived.Deep.Strs
import Derived.Shelf.Unicode.DecodeSlow
import Derived.Lib.ValidU
set_option linter.unusedVariables false
set_option linter.unusedSimpArgs false
set_option linter.unusedSectionVars false
namespace Lg
open Go Go.RowKit
variable [GLay]
variable {P : Program} {N : Nat} {σ : List AO} {e : Env} {Q : QA} {ops : Array Oper} {o : Oper}

/-! ### Bytes and strings -/
def bcells (b : ByteArray) : List AV := b.data.toList.map fun u => .int .u8 u.toNat
theorem bcells_nil {b : ByteArray} (h : bcells b = []) : b = ByteArray.empty := by
  cases b; rename_i d
  have h1 : d.toList = [] := by simpa [bcells] using h
  have h2 : d = #[] := Array.ext' (by rw [h1])
  subst h2; rfl
theorem bcells_length (b : ByteArray) : (bcells b).length = b.data.toList.length := by simp [bcells]
theorem op_bytesStr {S T E : TypeId} {x : Operand} {m : Nat} {b : ByteArray} (ho : o.op = .convert S T x) (hs : P.underlying S = some (.slice E)) (he : P.underlying E = some (.int .u8)) (hd : P.underlying T = some .string)
    (hx : srcv σ (opv e x) = some (bcells b, m)) (hsz : szv (opv e x) 1) (hns : isStr (opv e x) = false) : AOp P σ e o (.str b) σ :=
  .of_run fun s a hσ g hv => by
    subst hσ
    have h1 := hv x (by simp [ho, Op.operands])
    obtain ⟨vs, hp, hl, hf⟩ := V.src (P := P) g h1 hx hsz
    have hvs : vs = b.data.toList.map fun u => Value.int .u8 u.toNat := by
      apply List.ext_getElem?
      intro i
      by_cases hi : i < b.data.toList.length
      · have hi' : i < vs.length := by rw [hp.1]; simpa [bcells] using hi
        have h2 := hp.2 i (.int .u8 (b.data.toList[i]).toNat) vs[i] (by simp [bcells, List.getElem?_eq_getElem hi]) (List.getElem?_eq_getElem hi')
        rw [List.getElem?_eq_getElem hi', List.getElem?_map, List.getElem?_eq_getElem hi, h2.inv_int]
        rfl
      · rw [List.getElem?_eq_none (by rw [hp.1]; simp [bcells] at hi ⊢; omega), List.getElem?_eq_none (by simp at hi ⊢; omega)]
    have hm : (vs.length : Nat) = b.data.toList.length := by rw [hvs]; simp
    refine ⟨.string b, ?_, .str _⟩
    have key : (convert S T (a.eval x)).run P s.w = .ok (.string b) s.w := by
      have h3 := hf s.w rfl
      cases hc : opv e x with
      | str => rw [hc] at hns; cases hns
      | nils =>
        rw [hc] at h1 hx
        rw [h1.inv_nils, run_convert_bytes_string s.w S T E _ _ _ hs he hd]
        simp [srcv] at hx
        have : b = ByteArray.empty := bcells_nil hx.1
        subst this
        simp [Conv.bytesToString]
      | sl f z es =>
        rw [hc] at h1 hx hsz
        have hz : z = 1 := hsz
        subst hz
        rcases h1.inv_sl with ⟨ad, h4, hes⟩ | ⟨bb, off, cap, us, h4, _, hel, hcc, hpp, _⟩
        · subst hes
          rw [h4, run_convert_bytes_string s.w S T E _ _ _ hs he hd]
          simp [srcv] at hx
          have : b = ByteArray.empty := bcells_nil hx.1
          subst this
          cases ad with
          | none => simp [Conv.bytesToString]
          | some ad => rw [run_bytesToString s.w ad 0 0 [] (by simp [loadCells, loadCellsFrom])]; rfl
        · rw [h4]
          simp [srcv] at hx
          have hus : us = vs := by
            have h5 := hpp.1
            apply List.ext_getElem?
            intro i
            have hlen : us.length = b.data.toList.length := by rw [h5, hx.1]; simp [bcells]
            by_cases hi : i < b.data.toList.length
            · have h6 := hpp.2 i (.int .u8 (b.data.toList[i]).toNat) us[i] (by rw [hx.1]; simp [bcells, List.getElem?_eq_getElem hi]) (List.getElem?_eq_getElem (by omega))
              rw [List.getElem?_eq_getElem (by omega), h6.inv_int, hvs, List.getElem?_map, List.getElem?_eq_getElem hi]; rfl
            · rw [List.getElem?_eq_none (by omega), List.getElem?_eq_none (by omega)]
          have hfl : es.flatten.length = es.length * 1 := flatten_len hel
          have hlen : es.length = b.data.toList.length := by have := hpp.1; rw [hus, hm] at this; omega
          rw [hlen]
          refine run_convert_bytes_back s.w S T E _ cap b.data.toList hs he hd fun j hj => ?_
          rw [add_none]
          exact hcc j _ (by rw [hus, hvs, List.getElem?_map, List.getElem?_eq_getElem hj]; rfl)
      | arr p gg z off len =>
        rw [hc] at h1 hx hsz
        have hz : z = 1 := hsz
        subst hz
        simp only [srcv] at hx
        split at hx
        · rename_i sz' g' cs hσ
          split at hx
          · rename_i hgg
            subst hgg
            simp only [Option.map_eq_some_iff, Prod.mk.injEq] at hx
            obtain ⟨ds, hd1, hd2, rfl⟩ := hx
            obtain ⟨hd3, hd4⟩ := tk_eq hd1
            obtain ⟨_, hcase⟩ := h1.inv_arr hσ
            rcases hcase with ⟨ad, h4, rfl⟩ | ⟨cap, h4, h5, h6⟩
            · rw [h4, run_convert_bytes_string s.w S T E _ _ _ hs he hd]
              have : b = ByteArray.empty := bcells_nil (by rw [← hd2, hd3]; simp)
              subst this
              cases ad with
              | none => simp [Conv.bytesToString]
              | some ad => rw [run_bytesToString s.w ad 0 0 [] (by simp [loadCells, loadCellsFrom])]; rfl
            · rw [h4]
              have hlen : len = b.data.toList.length := by
                have h7 : ds.length = len * 1 := by rw [hd3, List.length_take]; omega
                rw [hd2, bcells_length] at h7; omega
              rcases g.obj p _ hσ with ⟨h8, h9⟩ | ⟨_, _, ws, T', h8, h9, h10, h11⟩
              · have h0 : len = 0 := by rw [h9] at hd4; simp at hd4; omega
                subst h0
                have : b.data.toList = [] := List.eq_nil_of_length_eq_zero hlen.symm
                have hb : b = ByteArray.empty := bcells_nil (by simp [bcells, this])
                subst hb
                rw [run_convert_bytes_string s.w S T E _ _ _ hs he hd, run_bytesToString s.w _ 0 _ [] (by simp [loadCells, loadCellsFrom])]; rfl
              · rw [hlen]
                refine run_convert_bytes_back s.w S T E _ cap b.data.toList hs he hd fun j hj => ?_
                rw [add_none]
                have hj2 : ds[j]? = some (.int .u8 (b.data.toList[j]).toNat) := by rw [hd2]; simp [bcells, List.getElem?_eq_getElem hj]
                have hj3 : cs[off + j]? = some (.int .u8 (b.data.toList[j]).toNat) := by
                  rw [hd3, List.getElem?_take] at hj2
                  split at hj2
                  · rw [List.getElem?_drop] at hj2; simpa using hj2
                  · cases hj2
                obtain ⟨v, hv1, hv2⟩ := h11.get hj3
                rw [hv2.inv_int] at hv1
                rw [List.getElem?_take] at hv1
                split at hv1
                · rw [List.getElem?_drop] at hv1
                  simp only [World.cell?, h8]
                  have : (s.μ p).base + off * 1 + j = (s.μ p).base + (off + j) := by omega
                  simp only [this]
                  simpa using hv1
                · cases hv1
          · cases hx
        · cases hx
      | _ => rw [hc] at hx; simp [srcv] at hx
    simp [execOp, ho, key]
end Lg
namespace Lg
open Go Go.RowKit
variable [GLay]
variable {P : Program} {N : Nat} {σ : List AO} {e : Env} {Q : QA} {ops : Array Oper} {o : Oper}

/-- A new object that is never written again. -/
theorem Good.rowO {s : CS} (g : Good s) (ob : Obj) {w : World} (hw : Below s.w.heap.size s.w w) (hws : w.heap.size = s.w.heap.size) :
    ∃ s', s'.σ = s.σ ∧ s'.w = w.alloc ob ∧ Good s' ∧ Ext s s' ∧ s'.ok s.w.heap.size := by
  let s' : CS := { s with ok := fun b => s.ok b ∨ b = s.w.heap.size, w := w.alloc ob }
  have hheap : ∀ {b : Nat}, b < s.w.heap.size → s'.w.heap[b]? = s.w.heap[b]? := fun {b} hb => by
    show (w.alloc _).heap[b]? = _; rw [alloc_heap, if_neg (by omega)]; exact hw.block b hb
  have hsz : s'.w.heap.size = s.w.heap.size + 1 := by show (w.alloc _).heap.size = _; rw [alloc_size, hws]
  have x : Ext s s' := {
    objs := fun _ o h => ⟨o, h, OLe.refl o, fun _ => rfl⟩
    ok := fun _ h => .inl h
    mun := fun _ h => .inl ⟨CS.live_lt (s := s) h, h, rfl⟩
    frame := fun b hb _ => hheap hb
    size := by omega
    shp := fun p cs cs' z h1 _ h3 => (shape_eq (hheap (shape_some h3))).trans h3
    tape := hw.tape
    os := hw.os
    output := hw.output }
  refine ⟨s', rfl, rfl, ⟨fun b hb => ?_, fun p o ho => ?_, fun p q hpq hp hq => g.inj p q hpq hp hq, fun b o ho => ?_⟩, x, .inr rfl⟩
  · rcases hb with hb | rfl
    · exact Nat.lt_of_lt_of_le (g.okb b hb) x.size
    · omega
  · have hb : ∀ (vs : Array Value) (T : TypeId), s.w.heap[(s.μ p).b]? = some (.cells vs T (0, 0)) → (s.μ p).b < s.w.heap.size := fun _ _ h => (Array.getElem?_eq_some_iff.1 h).1
    by_cases hlt : (s.μ p).b < s.w.heap.size
    · refine (g.obj p o ho).mono g x rfl (fun h1 h2 => ?_) fun vs T hb _ => (hheap (Array.getElem?_eq_some_iff.1 hb).1).trans hb
      rcases h2 with h2 | h2
      · exact h1 h2
      · omega
    · have h := g.obj p o ho
      cases o with
      | box cs => obtain ⟨_, vs, T, h2, _⟩ := h; exact absurd (hb _ _ h2) hlt
      | arr sz gg cs =>
        rcases h with h | ⟨_, _, vs, T, h2, _⟩
        · exact .inl h
        · exact absurd (hb _ _ h2) hlt
      | bytes T l =>
        rcases h with h | ⟨_, _, vs, h2, _⟩
        · exact .inl h
        · exact absurd (hb _ _ h2) hlt
      | gone => trivial
      | dead => trivial
  · obtain ⟨h1, h2⟩ := g.glob b o ho
    exact ⟨.inl h1, (hheap (g.okb b h1)).trans h2⟩

/-- The bytes, row by row. -/
def brows (b : ByteArray) : List (List AV) := b.data.toList.map fun u => [.int .u8 u.toNat]
theorem brows_flatten (b : ByteArray) : (brows b).flatten = bcells b := by
  unfold brows bcells
  induction b.data.toList with
  | nil => rfl
  | cons x l ih => simp [ih]
theorem brows_length (b : ByteArray) : (brows b).length = b.size := by
  unfold brows; rw [List.length_map]; rfl
theorem brows_get {b : ByteArray} {i : Nat} (h : i < b.size) : (brows b)[i]? = some [.int .u8 (b.get! i).toNat] := by
  have h' : i < b.data.size := h
  simp only [brows, List.getElem?_map, Array.getElem?_toList]
  rw [Array.getElem?_eq_getElem h']
  have : b.get! i = b.data[i] := by
    show b.data[i]! = _
    exact getElem!_pos b.data i h'
  rw [this]; rfl
theorem op_strBytes {S T E : TypeId} {x : Operand} {b : ByteArray} (ho : o.op = .convert S T x) (hs : P.underlying S = some .string) (hd : P.underlying T = some (.slice E)) (he : P.underlying E = some (.int .u8))
    (hx : opv e x = .str b) : AOp P σ e o (.sl false 1 (brows b)) σ := by
  intro s a hσ g hv K Q hk _
  subst hσ
  have h1 := (hx ▸ hv x (by simp [ho, Op.operands])).inv_str
  obtain ⟨s', e1, e2, g', x', hok⟩ := g.rowO (.cells (bytesRow b (grownCap s.w b.size 0 E)) E ((bytesRow b (grownCap s.w b.size 0 E)).size, (bytesRow b (grownCap s.w b.size 0 E)).size + 1)) (w := s.w.drew) (Below.refl _ _).drew rfl
  refine wp_value (w' := s'.w) ?_ (hk _ (.slice (some ⟨s.w.heap.size, 0, none⟩) b.size (grownCap s.w b.size 0 E)) s' ⟨rfl, e1⟩ g' x' ?_)
  · rw [e2]
    simp [execOp, ho, h1, run_bytes_of_string s.w S T E b hs hd he]
  · rw [← brows_length b]
    refine .sl false 1 (brows b) s.w.heap.size 0 _ (b.data.toList.map fun u => .int .u8 u.toNat) (.inr hok) (fun r hr => ?_) ?_ (fun i v hi => ?_) (fun i c v hc hv' => ?_) ?_ (by simp)
    · simp [brows] at hr; obtain ⟨u, _, rfl⟩ := hr; rfl
    · rw [brows_flatten]; simp [bcells]
    · rw [e2, Nat.zero_add]
      simp only [World.cell?, alloc_heap]
      rw [if_pos (show s.w.heap.size = s.w.drew.heap.size from rfl)]
      have hi' : i < b.data.size := by have := (List.getElem?_eq_some_iff.1 hi).1; simpa using this
      simp only [List.getElem?_map, Array.getElem?_toList] at hi
      simp only [bytesRow]
      rw [Array.getElem?_append_left (by simpa using hi'), Array.getElem?_map]
      exact hi
    · rw [brows_flatten] at hc
      simp only [bcells, List.getElem?_map] at hc hv'
      cases hu : b.data.toList[i]? with
      | none => rw [hu] at hc; cases hc
      | some u => rw [hu] at hc hv'; cases hc; cases hv'; exact .int _ _
    · rw [brows_length]; exact grownCap_ge _ _ _ _

/-! ### Nil or not -/
theorem op_eqPN {T E T' : TypeId} {x y : Operand} {v : AV} (ho : o.op = .binOp .eql T x y T') (hu : P.underlying T = some (.pointer E)) (hx : opO e x = some v) (hn : notNil v = true) (hy : opO e y = some .nilp) : AOp P σ e o (.bool false) σ :=
  op_bin ho (opO_eq hx) (opO_eq hy) fun s cx cy _ _ h1 h2 => by
    have hp : P.pointee T = E := by simp [Program.pointee, hu]
    have hc : ∃ ad, cx = .pointer (some ad) := by
      cases v with
      | ptr p off => exact ⟨_, h1.inv_ptr⟩
      | pp cs => obtain ⟨b, off, vs, h, _⟩ := h1.inv_pp; exact ⟨_, h⟩
      | _ => cases hn
    obtain ⟨ad, rfl⟩ := hc
    rw [h2.inv_nilp]
    exact ⟨_, run_eql_pointer_nil s.w T _ (by rw [hp]; exact hu), .bool _, eqGuard_ptr ..⟩
theorem op_nePN {T E T' : TypeId} {x y : Operand} {v : AV} (ho : o.op = .binOp .neq T x y T') (hu : P.underlying T = some (.pointer E)) (hx : opO e x = some v) (hn : notNil v = true) (hy : opO e y = some .nilp) : AOp P σ e o (.bool true) σ :=
  op_bin ho (opO_eq hx) (opO_eq hy) fun s cx cy _ _ h1 h2 => by
    have hp : P.pointee T = E := by simp [Program.pointee, hu]
    have hc : ∃ ad, cx = .pointer (some ad) := by
      cases v with
      | ptr p off => exact ⟨_, h1.inv_ptr⟩
      | pp cs => obtain ⟨b, off, vs, h, _⟩ := h1.inv_pp; exact ⟨_, h⟩
      | _ => cases hn
    obtain ⟨ad, rfl⟩ := hc
    rw [h2.inv_nilp]
    exact ⟨_, run_neq_pointer_nil s.w T _ (by rw [hp]; exact hu), .bool _, eqGuard_ptr ..⟩
theorem op_eqNN {T E T' : TypeId} {x y : Operand} (ho : o.op = .binOp .eql T x y T') (hu : P.underlying T = some (.pointer E)) (hx : opO e x = some .nilp) (hy : opO e y = some .nilp) : AOp P σ e o (.bool true) σ :=
  op_bin ho (opO_eq hx) (opO_eq hy) fun s cx cy _ _ h1 h2 => by
    have hp : P.pointee T = E := by simp [Program.pointee, hu]
    rw [h1.inv_nilp, h2.inv_nilp]
    exact ⟨_, run_eql_pointer_nil s.w T _ (by rw [hp]; exact hu), .bool _, eqGuard_ptr ..⟩
theorem op_neNN {T E T' : TypeId} {x y : Operand} (ho : o.op = .binOp .neq T x y T') (hu : P.underlying T = some (.pointer E)) (hx : opO e x = some .nilp) (hy : opO e y = some .nilp) : AOp P σ e o (.bool false) σ :=
  op_bin ho (opO_eq hx) (opO_eq hy) fun s cx cy _ _ h1 h2 => by
    have hp : P.pointee T = E := by simp [Program.pointee, hu]
    rw [h1.inv_nilp, h2.inv_nilp]
    exact ⟨_, run_neq_pointer_nil s.w T _ (by rw [hp]; exact hu), .bool _, eqGuard_ptr ..⟩
section iface
variable {T T' : TypeId} {x : Operand} {ms : Array (String × TypeId)}
def isNilI : Value → Bool
  | .nilIface => true
  | _ => false
theorem run_equalInI (w : World) (d : Nat) {ms} (hu : P.underlying T = some (.interface ms)) (c : Value) (hc : c = .nilIface ∨ ∃ t v, c = .iface t v) : (Op.equalIn (d + 1) T c .nilIface).run P w = .ok (isNilI c) w := by
  rcases hc with rfl | ⟨t, v, rfl⟩ <;> simp [Op.equalIn, run_underlying hu, isNilI]
theorem run_equalI (w : World) {ms} (hu : P.underlying T = some (.interface ms)) (c : Value) (hc : c = .nilIface ∨ ∃ t v, c = .iface t v) : (Op.equal T c .nilIface).run P w = .ok (isNilI c) w := run_equalInI w 9999 hu c hc
theorem run_eqI (w : World) {ms} (hu : P.underlying T = some (.interface ms)) (c : Value) (hc : c = .nilIface ∨ ∃ t v, c = .iface t v) : (binOp .eql T c .nilIface).run P w = .ok (.bool (isNilI c)) w := by
  have := run_equalI w hu c hc
  rcases hc with rfl | ⟨t, v, rfl⟩ <;> (simp only [binOp]; simp [this])
theorem run_neI (w : World) {ms} (hu : P.underlying T = some (.interface ms)) (c : Value) (hc : c = .nilIface ∨ ∃ t v, c = .iface t v) : (binOp .neq T c .nilIface).run P w = .ok (.bool (!isNilI c)) w := by
  have := run_equalI w hu c hc
  rcases hc with rfl | ⟨t, v, rfl⟩ <;> (simp only [binOp]; simp [this])
theorem run_eqGuardI (w : World) (op : BinOp) (x : Operand) (z : Value) (c : Value) (hc : c = .nilIface ∨ ∃ t v, c = .iface t v) : (eqGuard op T x (.const z) c .nilIface).run P w = .ok () w := by
  rcases hc with rfl | ⟨t, v, rfl⟩ <;> cases op <;> simp [eqGuard]
theorem op_eqIN {U : TypeId} {v : AV} (ho : o.op = .binOp .eql T x (.const .nilIface) T') (hu : P.underlying T = some (.interface ms)) (hx : opO e x = some (.iface U v)) : AOp P σ e o (.bool false) σ :=
  op_bin ho (opO_eq hx) rfl fun s cx cy _ _ h1 h2 => by
    obtain ⟨u, rfl, _⟩ := h1.inv_iface
    have e2 : cy = .nilIface := h2.inv_nili
    subst e2
    exact ⟨_, run_eqI s.w hu _ (.inr ⟨_, _, rfl⟩), .bool _, run_eqGuardI s.w .eql x _ _ (.inr ⟨_, _, rfl⟩)⟩
theorem op_neIN {U : TypeId} {v : AV} (ho : o.op = .binOp .neq T x (.const .nilIface) T') (hu : P.underlying T = some (.interface ms)) (hx : opO e x = some (.iface U v)) : AOp P σ e o (.bool true) σ :=
  op_bin ho (opO_eq hx) rfl fun s cx cy _ _ h1 h2 => by
    obtain ⟨u, rfl, _⟩ := h1.inv_iface
    have e2 : cy = .nilIface := h2.inv_nili
    subst e2
    exact ⟨_, run_neI s.w hu _ (.inr ⟨_, _, rfl⟩), .bool _, run_eqGuardI s.w .neq x _ _ (.inr ⟨_, _, rfl⟩)⟩
theorem op_eqINil (ho : o.op = .binOp .eql T x (.const .nilIface) T') (hu : P.underlying T = some (.interface ms)) (hx : opO e x = some .nili) : AOp P σ e o (.bool true) σ :=
  op_bin ho (opO_eq hx) rfl fun s cx cy _ _ h1 h2 => by
    have e1 := h1.inv_nili
    have e2 : cy = .nilIface := h2.inv_nili
    subst e1; subst e2
    exact ⟨_, run_eqI s.w hu _ (.inl rfl), .bool _, run_eqGuardI s.w .eql x _ _ (.inl rfl)⟩
theorem op_neINil (ho : o.op = .binOp .neq T x (.const .nilIface) T') (hu : P.underlying T = some (.interface ms)) (hx : opO e x = some .nili) : AOp P σ e o (.bool false) σ :=
  op_bin ho (opO_eq hx) rfl fun s cx cy _ _ h1 h2 => by
    have e1 := h1.inv_nili
    have e2 : cy = .nilIface := h2.inv_nili
    subst e1; subst e2
    exact ⟨_, run_neI s.w hu _ (.inl rfl), .bool _, run_eqGuardI s.w .neq x _ _ (.inl rfl)⟩
end iface

/-! ### A contract of the shelf -/
/-- What a world bears that these blocks lie in. -/
def Laid (w : World) : Prop := ∀ b ob, GLay.f b = some ob → w.heap[b]? = some ob
theorem Good.laid {s : CS} (g : Good s) : Laid s.w := fun b ob h => (g.glob b ob h).2
theorem ACalls_below {f : FuncId} {args : List AV} {v : AV} (h : ∀ (s : CS) (cargs : List Value), Good s → PW s args cargs → ∃ cv, (∀ s' : CS, V s' v cv) ∧ Calls P f cargs.toArray s.w fun en w' => en = .returned cv ∧ Below s.w.heap.size s.w w') :
    ACalls P f args σ (Ret v σ) := fun s cargs hs g hp => by
  obtain ⟨cv, hv, hc⟩ := h s cargs g hp
  refine hc.mono fun en w' ⟨h1, h2⟩ => ?_
  subst h1
  obtain ⟨g', x'⟩ := g.grow h2
  exact ⟨_, rfl, g', x', v, hv _, rfl, hs⟩
theorem PW.str1 {s : CS} {b : ByteArray} {vs : List Value} (h : PW s [.str b] vs) : vs = [.string b] := by
  obtain ⟨h1, h2⟩ := h
  match vs, h1 with
  | [v], _ => rw [(h2 0 (.str b) v rfl rfl).inv_str]
end Lg
namespace Lg
open Go Go.RowKit
variable [GLay]
variable {P : Program} {N : Nat} {σ : List AO} {e : Env} {Q : QA} {ops : Array Oper} {o : Oper}

theorem ResQ_retN {el : List (Nat × AV)} {l : List AO} {ts : List Nat} {v : AV} {R : Out → List AO → Prop} (h : resA ts ⟨[], el⟩ = v) (hc : closed σ.length σ) (hv : v.lt σ.length) (hR : R (.ret v) σ) : ResQ σ.length ts R .ret ⟨[], el⟩ (σ ++ l) :=
  ⟨rfl, σ.length, Nat.le_refl _, closed_old hc, by rw [h]; exact hv, by rw [h, take_old]; exact hR⟩
theorem ResQ_ret0 {el : List (Nat × AV)} {ts : List Nat} {v : AV} {R : Out → List AO → Prop} (h : resA ts ⟨[], el⟩ = v) (hc : closed σ.length σ) (hv : v.lt σ.length) (hR : R (.ret v) σ) : ResQ σ.length ts R .ret ⟨[], el⟩ σ :=
  ⟨rfl, σ.length, Nat.le_refl _, hc, by rw [h]; exact hv, by rw [h, List.take_length]; exact hR⟩
theorem Ret_of {v v' : AV} (h : v = v') : Ret v' σ (.ret v) σ := ⟨by rw [h], rfl⟩
end Lg
namespace Lg
open Go Go.RowKit
variable [GLay]
variable {P : Program} {N : Nat} {σ : List AO} {e : Env} {Q : QA} {ops : Array Oper} {o : Oper}
/-- Where a struct's fields lie. -/
def Places (P : Program) : List Field → List (Nat × Nat) → Prop
  | [], [] => True
  | f :: fs, q :: qs => f.offset = q.1 ∧ (∀ w, (Go.sizeOf f.type).run P w = Result.ok q.2 w) ∧ Places P fs qs
  | _, _ => False
theorem Places.runL : ∀ {fs : List Field} {qs : List (Nat × Nat)}, Places P fs qs → ∀ w, (fs.mapM fun f => do pure (f.offset, ← Go.sizeOf f.type) : Sem (List (Nat × Nat))).run P w = Result.ok qs w
  | [], [], _, w => by simp
  | f :: fs, q :: qs, ⟨h1, h2, h3⟩, w => by
    simp only [List.mapM_cons, Sem.run_bind, h2, Result.andThen_ok, Sem.run_pure, h1]
    rw [Places.runL h3 w]
    simp
  | [], _ :: _, h, _ => h.elim
  | _ :: _, [], h, _ => h.elim
theorem Places.run {fs : Array Field} {qs : List (Nat × Nat)} (h : Places P fs.toList qs) (w : World) : (fs.mapM fun f => do pure (f.offset, ← Go.sizeOf f.type) : Sem (Array (Nat × Nat))).run P w = Result.ok qs.toArray w := by
  obtain ⟨l⟩ := fs
  rw [List.mapM_toArray]
  have := h.runL w
  simp only [map_eq_pure_bind, Sem.run_bind] at this ⊢
  rw [this]
  simp
theorem op_buildP {T : TypeId} {parts : Array (Nat × Operand)} {fs : Array Field} {z : Value} {cs : List AV} (pls : List (Nat × Nat)) (ho : o.op = .build T parts) (hu : P.underlying T = some (.struct fs))
    (hz : ∀ w, (zeroValue T).run P w = Result.ok z w) (hpls : Places P fs.toList pls)
    (h1 : (parts.toList.all fun q => ones (opv e q.2).cells && (opv e q.2).cells.length == ((pls[q.1]?).map (·.2)).getD 0) = true)
    (hb : bld (fun i : Nat => (pls[i]?).map (·.1)) (z.cells.toList.map ofConst1) e parts.toList = some cs) : AOp P σ e o (.agg cs) σ := op_build pls ho hu hz hpls.run h1 hb
section
variable {el : List (Nat × AV)} {l : List AO} {v v1 v2 v3 v4 : AV} {t1 t2 t3 t4 : Nat} {R : Out → List AO → Prop}
theorem ResQ_1 (h1 : lookO el t1 = some v1) (hc : closed σ.length σ) (hv : v1.lt σ.length) (hR : R (.ret v1) σ) : ResQ σ.length [t1] R .ret ⟨[], el⟩ (σ ++ l) := ResQ_retN (lookO_eq h1) hc hv hR
theorem ResQ_10 (h1 : lookO el t1 = some v1) (hc : closed σ.length σ) (hv : v1.lt σ.length) (hR : R (.ret v1) σ) : ResQ σ.length [t1] R .ret ⟨[], el⟩ σ := ResQ_ret0 (lookO_eq h1) hc hv hR
theorem ResQ_2 (h1 : lookO el t1 = some v1) (h2 : lookO el t2 = some v2) (hc : closed σ.length σ) (hv : (AV.tup [v1, v2]).lt σ.length) (hR : R (.ret (.tup [v1, v2])) σ) : ResQ σ.length [t1, t2] R .ret ⟨[], el⟩ (σ ++ l) :=
  ResQ_retN (by simp [resA, Env.look, lookO_eq h1, lookO_eq h2]) hc hv hR
theorem ResQ_20 (h1 : lookO el t1 = some v1) (h2 : lookO el t2 = some v2) (hc : closed σ.length σ) (hv : (AV.tup [v1, v2]).lt σ.length) (hR : R (.ret (.tup [v1, v2])) σ) : ResQ σ.length [t1, t2] R .ret ⟨[], el⟩ σ :=
  ResQ_ret0 (by simp [resA, Env.look, lookO_eq h1, lookO_eq h2]) hc hv hR
theorem ResQ_3 (h1 : lookO el t1 = some v1) (h2 : lookO el t2 = some v2) (h3 : lookO el t3 = some v3) (hc : closed σ.length σ) (hv : (AV.tup [v1, v2, v3]).lt σ.length) (hR : R (.ret (.tup [v1, v2, v3])) σ) : ResQ σ.length [t1, t2, t3] R .ret ⟨[], el⟩ (σ ++ l) :=
  ResQ_retN (by simp [resA, Env.look, lookO_eq h1, lookO_eq h2, lookO_eq h3]) hc hv hR
theorem ResQ_30 (h1 : lookO el t1 = some v1) (h2 : lookO el t2 = some v2) (h3 : lookO el t3 = some v3) (hc : closed σ.length σ) (hv : (AV.tup [v1, v2, v3]).lt σ.length) (hR : R (.ret (.tup [v1, v2, v3])) σ) : ResQ σ.length [t1, t2, t3] R .ret ⟨[], el⟩ σ :=
  ResQ_ret0 (by simp [resA, Env.look, lookO_eq h1, lookO_eq h2, lookO_eq h3]) hc hv hR
theorem ResQ_4 (h1 : lookO el t1 = some v1) (h2 : lookO el t2 = some v2) (h3 : lookO el t3 = some v3) (h4 : lookO el t4 = some v4) (hc : closed σ.length σ) (hv : (AV.tup [v1, v2, v3, v4]).lt σ.length) (hR : R (.ret (.tup [v1, v2, v3, v4])) σ) : ResQ σ.length [t1, t2, t3, t4] R .ret ⟨[], el⟩ (σ ++ l) :=
  ResQ_retN (by simp [resA, Env.look, lookO_eq h1, lookO_eq h2, lookO_eq h3, lookO_eq h4]) hc hv hR
theorem ResQ_40 (h1 : lookO el t1 = some v1) (h2 : lookO el t2 = some v2) (h3 : lookO el t3 = some v3) (h4 : lookO el t4 = some v4) (hc : closed σ.length σ) (hv : (AV.tup [v1, v2, v3, v4]).lt σ.length) (hR : R (.ret (.tup [v1, v2, v3, v4])) σ) : ResQ σ.length [t1, t2, t3, t4] R .ret ⟨[], el⟩ σ :=
  ResQ_ret0 (by simp [resA, Env.look, lookO_eq h1, lookO_eq h2, lookO_eq h3, lookO_eq h4]) hc hv hR
end
end Lg
namespace Lg
open Go Go.RowKit
variable [GLay]
variable {P : Program} {N : Nat} {σ : List AO} {e : Env} {Q : QA} {ops : Array Oper} {o : Oper}
/-- A string's byte. -/
def bat (b : ByteArray) (i : Nat) : UInt8 := b.data.toList.getD i 0
theorem bat_get {b : ByteArray} {i : Nat} (h : i < b.size) : b.data.toList[i]? = some (bat b i) := by
  have h' : i < b.data.toList.length := by rw [Array.length_toList]; exact h
  rw [bat, List.getD_eq_getElem?_getD, List.getElem?_eq_getElem h']; rfl
theorem brows_at {b : ByteArray} {i : Nat} (h : i < b.size) : (brows b)[i]? = some [.int .u8 (bat b i).toNat] := by
  simp only [brows, List.getElem?_map, bat_get h]; rfl
theorem op_index_strB {T : TypeId} {x y : Operand} {b : ByteArray} {k : IntKind} {n : Int} (ho : o.op = .index T x y) (hu : P.underlying T = some .string) (hx : opv e x = .str b) (hy : opv e y = .int k n)
    (h0 : 0 ≤ n) (h1 : n < b.size) : AOp P σ e o (.int .u8 (bat b n.toNat).toNat) σ :=
  op_index_str ho hu hx hy h0 (bat_get (by omega))
theorem bat_lt (b : ByteArray) (i : Nat) : (bat b i).toNat < 256 := (bat b i).toNat_lt
end Lg
namespace Go.Proofs
open Go.Shelf
def Tryd.lays196_ren : Go.Shelf.Ren := ⟨fun | 196 => 30 | 259 => 49 | n => n, fun | 9 => 9 | 4 => 4 | 3 => 3 | 5 => 5 | 12 => 12 | 119 => 86 | 0 => 0 | 46 => 84 | 139 => 89 | 138 => 88 | 53 => 98 | n => n, fun | 3 => 0 | 4 => 1 | n => n⟩
theorem Tryd.lays196 : Go.Proofs.Lays.n196 Tryd.prog Tryd.lays196_ren := {
  mixed := by kernel_rfl,
  f196 := Tryd.func30.trans (congrArg some (by kernel_rfl)),
  f259 := Tryd.func49.trans (congrArg some (by kernel_rfl)),
  t0 := Tryd.underlying0,
  a0 := Tryd.isAgg0,
  z0 := Tryd.sizeOf0,
  v0 := Tryd.zeroValue0,
  t3 := Tryd.underlying3,
  a3 := Tryd.isAgg3,
  z3 := Tryd.sizeOf3,
  v3 := Tryd.zeroValue3,
  t4 := Tryd.underlying4,
  a4 := Tryd.isAgg4,
  z4 := Tryd.sizeOf4,
  v4 := Tryd.zeroValue4,
  t5 := Tryd.underlying5,
  a5 := Tryd.isAgg5,
  z5 := Tryd.sizeOf5,
  v5 := Tryd.zeroValue5,
  t9 := Tryd.underlying9,
  a9 := Tryd.isAgg9,
  z9 := Tryd.sizeOf9,
  v9 := Tryd.zeroValue9,
  t12 := Tryd.underlying12,
  a12 := Tryd.isAgg12,
  z12 := Tryd.sizeOf12,
  v12 := Tryd.zeroValue12,
  t46 := Tryd.underlying84,
  a46 := Tryd.isAgg84,
  z46 := Tryd.sizeOf84,
  v46 := Tryd.zeroValue84,
  t53 := Tryd.underlying98,
  a53 := Tryd.isAgg98,
  z53 := Tryd.sizeOf98,
  v53 := Tryd.zeroValue98,
  t119 := Tryd.underlying86,
  a119 := Tryd.isAgg86,
  z119 := Tryd.sizeOf86,
  t138 := Tryd.underlying88,
  a138 := Tryd.isAgg88,
  z138 := Tryd.sizeOf88,
  v138 := Tryd.zeroValue88,
  t139 := Tryd.underlying89,
  a139 := Tryd.isAgg89,
  z139 := Tryd.sizeOf89,
  v139 := Tryd.zeroValue89,
  g3 := by kernel_rfl,
  g4 := by kernel_rfl }

end Go.Proofs
namespace Lg
open Go Go.Proofs Go.RowKit
/-- The two tables of unicode/utf8 lie there. -/
class U8 [GLay] : Prop where
  tabs : ∀ w : World, Laid w → Go.Lib.Utf8Tabs 0 1 w
variable [GLay] [U8]
theorem validString_c (s : ByteArray) (σ : List AO) (hs : s.size ≤ 9223372036854775807) : ACalls Tryd.prog 30 [.str s] σ (Ret (.bool (Go.Lib.validD s.data.toList)) σ) :=
  ACalls_below fun st cargs g hp => by
    rw [hp.str1]
    exact ⟨_, fun _ => .bool _, Any.utf8_ValidString Tryd.lays196 s st.w hs (U8.tabs _ g.laid)⟩
end Lg
set_option maxRecDepth 100000
set_option maxHeartbeats 4000000
namespace Go.Proofs.YtiihpckdafldkaaDoor
open Go Go.ChangeShapes Go.WideShapes Go.ChangeAt Go.RowKit Go.Lib
open Go.ChangeMaps (open_string shut_string)
end Go.Proofs.YtiihpckdafldkaaDoor
namespace Go.Proofs
def Tryd.lays260_ren : Go.Shelf.Ren := ⟨fun | 260 => 56 | n => n, fun | 9 => 9 | 21 => 21 | 3 => 3 | 4 => 4 | 5 => 5 | 119 => 86 | 0 => 0 | 46 => 84 | 139 => 89 | 138 => 88 | n => n, fun | 3 => 0 | 4 => 1 | n => n⟩
theorem Tryd.lays260 : Go.Proofs.Lays.n260 Tryd.prog Tryd.lays260_ren := {
  mixed := by kernel_rfl,
  f260 := Tryd.func56.trans (congrArg some (by kernel_rfl)),
  t0 := Tryd.underlying0,
  a0 := Tryd.isAgg0,
  z0 := Tryd.sizeOf0,
  v0 := Tryd.zeroValue0,
  t3 := Tryd.underlying3,
  a3 := Tryd.isAgg3,
  z3 := Tryd.sizeOf3,
  v3 := Tryd.zeroValue3,
  t4 := Tryd.underlying4,
  a4 := Tryd.isAgg4,
  z4 := Tryd.sizeOf4,
  v4 := Tryd.zeroValue4,
  t5 := Tryd.underlying5,
  a5 := Tryd.isAgg5,
  z5 := Tryd.sizeOf5,
  v5 := Tryd.zeroValue5,
  t9 := Tryd.underlying9,
  a9 := Tryd.isAgg9,
  z9 := Tryd.sizeOf9,
  v9 := Tryd.zeroValue9,
  t21 := Tryd.underlying21,
  a21 := Tryd.isAgg21,
  z21 := Tryd.sizeOf21,
  v21 := Tryd.zeroValue21,
  t46 := Tryd.underlying84,
  a46 := Tryd.isAgg84,
  z46 := Tryd.sizeOf84,
  v46 := Tryd.zeroValue84,
  t119 := Tryd.underlying86,
  a119 := Tryd.isAgg86,
  z119 := Tryd.sizeOf86,
  t138 := Tryd.underlying88,
  a138 := Tryd.isAgg88,
  z138 := Tryd.sizeOf88,
  v138 := Tryd.zeroValue88,
  t139 := Tryd.underlying89,
  a139 := Tryd.isAgg89,
  z139 := Tryd.sizeOf89,
  v139 := Tryd.zeroValue89,
  g3 := by kernel_rfl,
  g4 := by kernel_rfl }

end Go.Proofs
namespace Go.Proofs.YtiihpckdafldkaaDoor
open Go Go.ChangeShapes Go.WideShapes Go.ChangeAt Go.RowKit Go.Lib
open Go.ChangeMaps (open_string shut_string)
theorem own : ownKnob Tryd.prog.godebug = none := by kernel_rfl
theorem laidOut : laidOutB Tryd.prog = true := by kernel_rfl
/-- The witness's world: both tables lie there. -/
noncomputable def laidWorld (os : Os) : World :=
  let w0 := World.holding Tryd.prog os ⟨#[], #[], []⟩
  let put (h : Array Obj) (g : Nat) (cs : Array Value) : Array Obj := h.modify g fun
    | .cells _ t frozen => .cells cs t frozen
    | o => o
  let h1 := put w0.heap 0 (Lib.firstTab.map fun z => Value.int .u8 z).toArray
  let h2 := put h1 1 ((List.range 16).flatMap fun i => [Value.int .u8 (Lib.accLo i), Value.int .u8 (Lib.accHi i)]).toArray
  { w0 with heap := h2 }
theorem laid_met (os : Os) (args : Array Value) : laidMet Tryd.prog Rows.valueMaysRow.laid ((laidWorld os).forCall (fun _ _ => 0) ⟨#[], args, []⟩).memory :=
  laidMet_of_run' 8 (by kernel_rfl) (by kernel_rfl)
theorem plainLaid : (Rows.valueMaysRow.laid.all fun x => x.2.handleName?.isNone) = true := by kernel_rfl
theorem laid_metH (os : Os) (args : Array Value) : laidMetH Tryd.prog Rows.valueMaysRow.laid ((laidWorld os).forCall (fun _ _ => 0) ⟨#[], args, []⟩).memory := by
  rw [MakeChecks.laidMetH_plain _ _ _ plainLaid]; exact laid_met os args
theorem tabs_of {W : World} (h : laidMetH Tryd.prog Rows.valueMaysRow.laid W) : Lib.Utf8Tabs 0 1 W := by
  rw [MakeChecks.laidMetH_plain _ _ _ plainLaid] at h
  exact utf8Tabs_of_reads (ρ := Tryd.lays260_ren) Tryd.lays260 ⟨by kernel_rfl, by kernel_rfl, by kernel_rfl, by kernel_rfl, by kernel_rfl, by kernel_rfl, by kernel_rfl⟩ (Lib.laidMet.reads h (.tail _ (.head _))) (Lib.laidMet.reads h (.head _))

/-- The same tables in a world that bears the same blocks. -/
theorem tabs_heap {W w : World} (h : Lib.Utf8Tabs 0 1 W) (h0 : w.heap[0]? = W.heap[0]?) (h1 : w.heap[1]? = W.heap[1]?) : Lib.Utf8Tabs 0 1 w := by
  have e0 : ∀ c, w.cell? ⟨0, c, none⟩ = W.cell? ⟨0, c, none⟩ := fun c => by simp only [World.cell?, h0]
  have e1 : ∀ c, w.cell? ⟨1, c, none⟩ = W.cell? ⟨1, c, none⟩ := fun c => by simp only [World.cell?, h1]
  exact ⟨fun c hc => by rw [e0]; exact h.1 c hc, fun i hi => by rw [e1, e1]; exact h.2 i hi⟩
theorem heap_some {W : World} {b c : Nat} {v : Value} (h : W.cell? ⟨b, c, none⟩ = some v) : b < W.heap.size := by
  rcases Nat.lt_or_ge b W.heap.size with h1 | h1
  · exact h1
  · simp [World.cell?, Array.getElem?_eq_none h1] at h
/-- From the logic to the model: a call of plain data in a world where the tables lie. -/
theorem calls_of {f : FuncId} {args : List Lg.AV} {cargs : List Value} {W : World} (hT : Lib.Utf8Tabs 0 1 W) (ha : ∀ [Lg.GLay] (s : Lg.CS), Lg.PW s args cargs)
    (h : ∀ [Lg.GLay] [Lg.U8], Lg.ACalls Tryd.prog f args [] (Lg.Ret (.bool true) [])) : Calls Tryd.prog f cargs.toArray W fun e W' => e = .returned (.bool true) ∧ Go.RowKit.Below W.heap.size W W' := by
  letI : Lg.GLay := ⟨fun b => if b < 2 then W.heap[b]? else none⟩
  haveI : Lg.U8 := ⟨fun w hw => by
    have hb0 := heap_some (hT.1 0 (by decide))
    have hb1 := heap_some ((hT.2 0 (by decide)).1)
    refine tabs_heap hT ?_ ?_
    · rw [hw 0 (W.heap[0]) (by show (if (0 : Nat) < 2 then W.heap[0]? else none) = _; rw [if_pos (by decide)]; exact Array.getElem?_eq_getElem hb0)]; exact (Array.getElem?_eq_getElem hb0).symm
    · rw [hw 1 (W.heap[1]) (by show (if (1 : Nat) < 2 then W.heap[1]? else none) = _; rw [if_pos (by decide)]; exact Array.getElem?_eq_getElem hb1)]; exact (Array.getElem?_eq_getElem hb1).symm⟩
  let s0 : Lg.CS := { σ := [], μ := fun _ => ⟨0, 0, 0⟩, ok := fun b => b < W.heap.size, w := W }
  have g0 : Lg.Good s0 := ⟨fun b hb => hb, fun p o ho => by simp [s0] at ho, fun p q _ hp _ => by
      have : p < s0.σ.length := Lg.CS.live_lt hp
      simp [s0] at this, fun b o ho => by
      change (if b < 2 then W.heap[b]? else none) = some o at ho
      split at ho
      · exact ⟨(Array.getElem?_eq_some_iff.1 ho).1, ho⟩
      · cases ho⟩
  refine (h s0 cargs rfl g0 (ha s0)).mono fun e W' hc => ?_
  obtain ⟨s', rfl, g', x', hr⟩ := hc
  have hbel : Go.RowKit.Below W.heap.size W s'.w := ⟨x'.os, x'.tape, x'.output, x'.size, fun k hk => x'.frame k hk (fun p hp => by
    have : p < s0.σ.length := Lg.CS.live_lt hp
    simp [s0] at this)⟩
  cases e with
  | returned cv =>
    obtain ⟨v, hv, he, _⟩ := hr
    injection he with he
    subst he
    rw [hv.inv_bool]
    exact ⟨rfl, hbel⟩
  | outgrown => exact hr.elim
  | panicked ch =>
    cases ch with
    | nil => exact hr.elim
    | cons en r =>
      cases r with
      | nil => obtain ⟨_, v, _, he, _⟩ := hr; cases he
      | cons => exact hr.elim

theorem cells4 : Tryd.prog.cellsOf 4 = 1 := by kernel_rfl
theorem cells9 : Tryd.prog.cellsOf 9 = 1 := by kernel_rfl
theorem cells3 : Tryd.prog.cellsOf 3 = 1 := by kernel_rfl
theorem cells23 : Tryd.prog.cellsOf 23 = 3 := by kernel_rfl
section
variable {H : Type} {enc : TypeId × Value → H} {W : World} {base : Nat} {sp : Nat → Bool} {held : Bool}
theorem open_num {r : Reach} {b0 : Nat} {v : Value} {d : DataW H} {ps : List MemPlace} (hval : Value.okWide Tryd.prog W r b0 23 v) (hd : DataW.Trod enc Tryd.prog W base sp held 23 v d ps) :
    ∃ (b : Bool) (s : ByteArray) (n : Int), v = .agg #[.bool b, .string s, .int .i64 n] ∧ d = .agg [.lit (.bool b), .lit (.string s.data.toList), .lit (.int .i64 n)] ∧ ps = [] ∧ s.size ≤ maxLen ∧ (Lit.int .i64 n).wf = true := by
  obtain ⟨cs, rfl, hcs⟩ := okWide_struct Tryd.underlying23 hval
  obtain ⟨fuel, hd⟩ := hd
  obtain ⟨y0, y1, y2, m, hx, hl, e0, e1, e2⟩ := Go.Deep.trod_struct3 Tryd.underlying23 hd
  obtain ⟨b, c0, rfl⟩ := DataW.trod_bool Tryd.underlying4 e0
  obtain ⟨s, c1, rfl, hs⟩ := DataW.trod_string Tryd.underlying9 e1
  obtain ⟨n, c2, rfl, hn⟩ := DataW.trod_int Tryd.underlying3 e2
  simp only [cells4, cells9, cells3] at c0 c1 c2
  obtain ⟨l⟩ := cs
  rw [cells23] at hcs
  simp only [Value.cells] at c0 c1 c2
  match l, hcs with
  | [x, y, z], _ =>
    simp at c0 c1 c2
    subst c0; subst c1; subst c2
    simp at hx
    obtain ⟨rfl, rfl⟩ := hx
    exact ⟨b, s, n, rfl, rfl, rfl, hs, hn⟩
theorem shut_num {b : Bool} {s : ByteArray} {n : Int} (hs : s.size ≤ maxLen) (hn : (Lit.int .i64 n).wf = true) :
    DataW.Trod enc Tryd.prog W base sp held 23 (.agg #[.bool b, .string s, .int .i64 n]) (.agg [.lit (.bool b), .lit (.string s.data.toList), .lit (.int .i64 n)]) [] := by
  obtain ⟨f0, h0⟩ := shut_bool (enc := enc) (w := W) (base := base) (spare := sp) (held := held) Tryd.underlying4 b
  obtain ⟨f1, h1⟩ := shut_string (enc := enc) (w := W) (base := base) (sp := sp) (held := held) Tryd.underlying9 hs
  obtain ⟨f2, h2⟩ := shut_int (enc := enc) (w := W) (base := base) (spare := sp) (held := held) Tryd.underlying3 hn
  have e0 := DataW.trod_le (Nat.le_add_right f0 (f1 + f2)) h0
  have e1 := DataW.trod_le (show f1 ≤ f0 + (f1 + f2) by omega) h1
  have e2 := DataW.trod_le (show f2 ≤ f0 + (f1 + f2) by omega) h2
  have := Go.Deep.trod_struct3_mk (cs := [.bool b, .string s, .int .i64 n]) Tryd.underlying23 (by rw [cells23]; rfl) (by simp only [cells4]; exact e0) (by simp only [cells9]; exact e1) (by simp only [cells3]; exact e2)
  exact ⟨_, this⟩
end

end Go.Proofs.YtiihpckdafldkaaDoor
namespace Lg
open Go

/-! ### JSON values as data -/
structure JNum where
  neg : Bool := false
  digits : ByteArray := ⟨#[]⟩
  exp : Int := 0
inductive JV where
  | mk (kind : Int) (b : Bool) (n : JNum) (s : ByteArray) (l : List JV) (m : List (ByteArray × JV))
def JV.kind : JV → Int | .mk k _ _ _ _ _ => k
def JV.b : JV → Bool | .mk _ b _ _ _ _ => b
def JV.n : JV → JNum | .mk _ _ n _ _ _ => n
def JV.s : JV → ByteArray | .mk _ _ _ s _ _ => s
def JV.l : JV → List JV | .mk _ _ _ _ l _ => l
def JV.m : JV → List (ByteArray × JV) | .mk _ _ _ _ _ m => m

def ncells (n : JNum) : List AV := [.bool n.neg, .str n.digits, .int .i64 n.exp]
mutual
def vcells : JV → List AV
  | .mk k b n s l m => [.int .i64 k, .bool b, .bool n.neg, .str n.digits, .int .i64 n.exp, .str s, .sl false 8 (lcells l), .sl false 9 (mcells m)]
def lcells : List JV → List (List AV)
  | [] => []
  | v :: r => vcells v :: lcells r
def mcells : List (ByteArray × JV) → List (List AV)
  | [] => []
  | (k, v) :: r => (.str k :: vcells v) :: mcells r
end
theorem vcells_eq (v : JV) : vcells v = [.int .i64 v.kind, .bool v.b, .bool v.n.neg, .str v.n.digits, .int .i64 v.n.exp, .str v.s, .sl false 8 (lcells v.l), .sl false 9 (mcells v.m)] := by
  cases v; simp [vcells, JV.kind, JV.b, JV.n, JV.s, JV.l, JV.m]
theorem lcells_eq : ∀ l : List JV, lcells l = l.map vcells
  | [] => by simp [lcells]
  | v :: r => by simp [lcells, lcells_eq r]
theorem mcells_eq : ∀ l : List (ByteArray × JV), mcells l = l.map fun q => .str q.1 :: vcells q.2
  | [] => by simp [mcells]
  | (k, v) :: r => by simp [mcells, mcells_eq r]
theorem lcells_length (l : List JV) : (lcells l).length = l.length := by simp [lcells_eq]
theorem mcells_length (l : List (ByteArray × JV)) : (mcells l).length = l.length := by simp [mcells_eq]
theorem lcells_get {l : List JV} {i : Nat} {v : JV} (h : l[i]? = some v) : (lcells l)[i]? = some (vcells v) := by simp [lcells_eq, h]
theorem mcells_get {l : List (ByteArray × JV)} {i : Nat} {q : ByteArray × JV} (h : l[i]? = some q) : (mcells l)[i]? = some (.str q.1 :: vcells q.2) := by simp [mcells_eq, h]
mutual
theorem vcells_lt (n : Nat) : ∀ v : JV, AV.ltL n (vcells v)
  | .mk k b nn s l m => by
    simp only [vcells, AV.ltL, AV.lt, and_true, true_and]
    exact ⟨lcells_lt n l, mcells_lt n m⟩
theorem lcells_lt (n : Nat) : ∀ l : List JV, AV.ltLL n (lcells l)
  | [] => by simp [lcells, AV.ltLL]
  | v :: r => by simp only [lcells, AV.ltLL]; exact ⟨vcells_lt n v, lcells_lt n r⟩
theorem mcells_lt (n : Nat) : ∀ l : List (ByteArray × JV), AV.ltLL n (mcells l)
  | [] => by simp [mcells, AV.ltLL]
  | (k, v) :: r => by simp only [mcells, AV.ltLL, AV.ltL, AV.lt, true_and]; exact ⟨vcells_lt n v, mcells_lt n r⟩
end
attribute [simp] vcells_lt lcells_lt mcells_lt

/-! ### The walk's plain functions -/
mutual
def jsize : JV → Int
  | .mk _ _ _ _ l m => 1 + lsize l + msize m
def lsize : List JV → Int
  | [] => 0
  | v :: r => jsize v + lsize r
def msize : List (ByteArray × JV) → Int
  | [] => 0
  | (_, v) :: r => jsize v + msize r
end
theorem jsize_eq (v : JV) : jsize v = 1 + lsize v.l + msize v.m := by cases v; simp [jsize, JV.l, JV.m]
mutual
theorem jsize_pos : ∀ v : JV, 1 ≤ jsize v
  | .mk _ _ _ _ l m => by have := lsize_nn l; have := msize_nn m; simp only [jsize]; omega
theorem lsize_nn : ∀ l : List JV, 0 ≤ lsize l
  | [] => by simp [lsize]
  | v :: r => by have := jsize_pos v; have := lsize_nn r; simp only [lsize]; omega
theorem msize_nn : ∀ l : List (ByteArray × JV), 0 ≤ msize l
  | [] => by simp [msize]
  | (k, v) :: r => by have := jsize_pos v; have := msize_nn r; simp only [msize]; omega
end
end Lg
namespace Lg
open Go

noncomputable def pb (p : Prop) : Bool := @decide p (Classical.propDecidable p)
theorem pb_t {p : Prop} (h : p) : pb p = true := by unfold pb; exact @decide_eq_true p (Classical.propDecidable p) h
theorem pb_f {p : Prop} (h : ¬ p) : pb p = false := by unfold pb; exact @decide_eq_false p (Classical.propDecidable p) h
theorem pb_iff (p : Prop) : pb p = true ↔ p := by unfold pb; exact @decide_eq_true_iff p (Classical.propDecidable p)
theorem bool_t {p : Prop} (h : p) : AV.bool true = .bool (pb p) := by rw [pb_t h]
theorem bool_f {p : Prop} (h : ¬ p) : AV.bool false = .bool (pb p) := by rw [pb_f h]
theorem bool_of {b : Bool} {p : Prop} (h : b = true ↔ p) : AV.bool b = .bool (pb p) := by
  congr 1; cases b
  · symm; exact pb_f fun hp => by have := h.2 hp; cases this
  · exact (pb_t (h.1 rfl)).symm

/-! ### value.go, plainly -/
def JNum.z (n : JNum) : Bool := decide (n.neg = false) && (decide (n.digits = ⟨#[]⟩) && (decide (n.exp = 0) && true))
def jbare (v : JV) : Bool :=
  !(v.b && !decide (v.kind = 1) || !v.n.z && !decide (v.kind = 2) || !decide (v.s = ⟨#[]⟩) && !decide (v.kind = 3)) && ((decide (v.l.length = 0) || decide (v.kind = 4)) && (decide (v.m.length = 0) || decide (v.kind = 5)))
@[simp] theorem lcells_nil (l : List JV) : lcells l = [] ↔ l = [] := by cases l <;> simp [lcells]
@[simp] theorem mcells_nil (l : List (ByteArray × JV)) : mcells l = [] ↔ l = [] := by
  cases l with
  | nil => simp [mcells]
  | cons q r => obtain ⟨k, v⟩ := q; simp [mcells]
theorem ba_pos {b : ByteArray} (h : ¬ b = ⟨#[]⟩) : 0 < b.size := by
  rcases Nat.eq_zero_or_pos b.size with h0 | h0
  · exfalso; apply h
    obtain ⟨d⟩ := b
    have : d = #[] := Array.eq_empty_of_size_eq_zero h0
    rw [this]
  · exact h0
def dig (b : ByteArray) (i : Nat) : Prop := 48 ≤ (bat b i).toNat ∧ (bat b i).toNat ≤ 57
def digs (b : ByteArray) (i : Nat) : Prop := ∀ j, j < i → dig b j
theorem digs_succ {b : ByteArray} {i : Nat} : digs b (i + 1) ↔ digs b i ∧ dig b i := by
  constructor
  · exact fun h => ⟨fun j hj => h j (by omega), h i (by omega)⟩
  · intro ⟨h1, h2⟩ j hj
    by_cases e : j = i
    · subst e; exact h2
    · exact h1 j (by omega)
def NumMay (n : JNum) : Prop := (n.digits = ⟨#[]⟩ ∧ n.neg = false ∧ n.exp = 0) ∨
  (¬ n.digits = ⟨#[]⟩ ∧ digs n.digits n.digits.size ∧ n.digits.size ≤ 60 ∧ (bat n.digits 0).toNat ≠ 48 ∧ (bat n.digits (n.digits.size - 1)).toNat ≠ 48 ∧ -1000 ≤ n.exp ∧ n.exp ≤ 1000)
end Lg
namespace Lg
open Go
@[simp] theorem brows_lt (n : Nat) (b : ByteArray) : AV.ltLL n (brows b) := by
  unfold brows
  induction b.data.toList with
  | nil => simp [AV.ltLL]
  | cons x l ih => simp [AV.ltLL, AV.ltL, AV.lt, ih]
instance (b : ByteArray) (i : Nat) : Decidable (dig b i) := by unfold dig; exact inferInstance
/-- How many digits there are from a place on. -/
def runl (b : ByteArray) (i : Nat) : Nat := if h : i < b.size ∧ dig b i then runl b (i + 1) + 1 else 0
termination_by b.size - i
theorem runl_yes {b : ByteArray} {i : Nat} (h1 : i < b.size) (h2 : dig b i) : runl b i = runl b (i + 1) + 1 := by
  rw [runl]; simp [h1, h2]
theorem runl_no {b : ByteArray} {i : Nat} (h : ¬ (i < b.size ∧ dig b i)) : runl b i = 0 := by
  rw [runl]; simp only [h, dite_false]
theorem runl_le (b : ByteArray) (i : Nat) : runl b i ≤ b.size - i := by
  by_cases h : i < b.size ∧ dig b i
  · rw [runl_yes h.1 h.2]; have := runl_le b (i + 1); omega
  · rw [runl_no h]; omega
termination_by b.size - i
theorem runl_digs {b : ByteArray} (i : Nat) : ∀ j, i ≤ j → j < i + runl b i → dig b j := by
  by_cases h : i < b.size ∧ dig b i
  · intro j h1 h2
    rw [runl_yes h.1 h.2] at h2
    by_cases e : j = i
    · subst e; exact h.2
    · exact runl_digs (i + 1) j (by omega) (by omega)
  · intro j h1 h2; rw [runl_no h] at h2; omega
termination_by b.size - i
theorem runl_full {b : ByteArray} (i : Nat) (h : ∀ j, i ≤ j → j < b.size → dig b j) (hi : i ≤ b.size) : i + runl b i = b.size := by
  by_cases h1 : i < b.size
  · rw [runl_yes h1 (h i (Nat.le_refl _) h1)]
    have := runl_full (i + 1) (fun j h2 h3 => h j (by omega) h3) h1
    omega
  · rw [runl_no (by omega)]; omega
termination_by b.size - i
theorem runl0 (b : ByteArray) : runl b 0 = b.size ↔ digs b b.size := by
  constructor
  · intro h j hj; exact runl_digs 0 j (by omega) (by omega)
  · intro h; have := runl_full 0 (fun j _ hj => h j hj) (Nat.zero_le _); omega
end Lg
namespace Lg
open Go

theorem lsize_mem {l : List JV} {i : Nat} {x : JV} (h : l[i]? = some x) : jsize x ≤ lsize l := by
  induction l generalizing i with
  | nil => simp at h
  | cons a r ih =>
    have := jsize_pos a
    have := lsize_nn r
    cases i with
    | zero => simp at h; subst h; simp only [lsize]; omega
    | succ i => simp at h; have := ih h; simp only [lsize]; omega
theorem msize_mem {l : List (ByteArray × JV)} {i : Nat} {q : ByteArray × JV} (h : l[i]? = some q) : jsize q.2 ≤ msize l := by
  induction l generalizing i with
  | nil => simp at h
  | cons a r ih =>
    obtain ⟨k, a⟩ := a
    have := jsize_pos a
    have := msize_nn r
    cases i with
    | zero => simp at h; subst h; simp only [msize]; omega
    | succ i => simp at h; have := ih h; simp only [msize]; omega
/-! ### No part is too large -/
mutual
def jb : JV → Prop
  | .mk _ _ n s l m => n.digits.size ≤ 1000000 ∧ s.size ≤ 1000000 ∧ l.length ≤ 1000000 ∧ m.length ≤ 1000000 ∧ lb l ∧ mb m
def lb : List JV → Prop
  | [] => True
  | v :: r => jb v ∧ lb r
def mb : List (ByteArray × JV) → Prop
  | [] => True
  | (k, v) :: r => k.size ≤ 1000000 ∧ jb v ∧ mb r
end
theorem jb_eq (v : JV) : jb v ↔ v.n.digits.size ≤ 1000000 ∧ v.s.size ≤ 1000000 ∧ v.l.length ≤ 1000000 ∧ v.m.length ≤ 1000000 ∧ lb v.l ∧ mb v.m := by cases v; simp [jb, JV.n, JV.s, JV.l, JV.m]
theorem lb_get {l : List JV} {i : Nat} {x : JV} (h : lb l) (hx : l[i]? = some x) : jb x := by
  induction l generalizing i with
  | nil => simp at hx
  | cons a r ih =>
    cases i with
    | zero => simp at hx; subst hx; exact h.1
    | succ i => simp at hx; exact ih h.2 hx
theorem mb_get {l : List (ByteArray × JV)} {i : Nat} {q : ByteArray × JV} (h : mb l) (hx : l[i]? = some q) : q.1.size ≤ 1000000 ∧ jb q.2 := by
  induction l generalizing i with
  | nil => simp at hx
  | cons a r ih =>
    obtain ⟨k, a⟩ := a
    cases i with
    | zero => simp at hx; subst hx; exact ⟨h.1, h.2.1⟩
    | succ i => simp at hx; exact ih h.2.2 hx
/-! ### A value that may be -/
def Utf (s : ByteArray) : Prop := Go.Lib.validD s.data.toList = true
mutual
def jmay : JV → Prop
  | .mk k b n s l m => (0 ≤ k ∧ k ≤ 5 ∧ jbare (.mk k b n s l m) = true ∧ NumMay n ∧ Utf s) ∧ (∀ (i : Nat) (q : ByteArray × JV), m[i]? = some q → Utf q.1 ∧ ∀ q', i ≠ 0 → m[i - 1]? = some q' → blt q'.1 q.1 = true) ∧ lmay l ∧ mmay m
def lmay : List JV → Prop
  | [] => True
  | v :: r => jmay v ∧ lmay r
def mmay : List (ByteArray × JV) → Prop
  | [] => True
  | (k, v) :: r => jmay v ∧ mmay r
end
theorem lmay_iff (l : List JV) : lmay l ↔ ∀ (i : Nat) x, l[i]? = some x → jmay x := by
  induction l with
  | nil => simp [lmay]
  | cons a r ih =>
    simp only [lmay, ih]
    constructor
    · intro ⟨h1, h2⟩ i x hx
      cases i with
      | zero => simp at hx; subst hx; exact h1
      | succ i => simp at hx; exact h2 i x hx
    · intro h; exact ⟨h 0 a (by simp), fun i x hx => h (i + 1) x (by simpa using hx)⟩
theorem mmay_iff (l : List (ByteArray × JV)) : mmay l ↔ ∀ (i : Nat) (q : ByteArray × JV), l[i]? = some q → jmay q.2 := by
  induction l with
  | nil => simp [mmay]
  | cons a r ih =>
    obtain ⟨k, a⟩ := a
    simp only [mmay, ih]
    constructor
    · intro ⟨h1, h2⟩ i x hx
      cases i with
      | zero => simp at hx; subst hx; exact h1
      | succ i => simp at hx; exact h2 i x hx
    · intro h; exact ⟨h 0 (k, a) (by simp), fun i x hx => h (i + 1) x (by simpa using hx)⟩
/-- What is asked of the members ahead of i. -/
def mok (m : List (ByteArray × JV)) (i : Nat) : Prop := ∀ j q, j < i → m[j]? = some q → (Utf q.1 ∧ ∀ q', j ≠ 0 → m[j - 1]? = some q' → blt q'.1 q.1 = true) ∧ jmay q.2
theorem mok_succ {m : List (ByteArray × JV)} {i : Nat} {q : ByteArray × JV} (hq : m[i]? = some q) : mok m (i + 1) ↔ mok m i ∧ (Utf q.1 ∧ ∀ q', i ≠ 0 → m[i - 1]? = some q' → blt q'.1 q.1 = true) ∧ jmay q.2 := by
  constructor
  · intro h; exact ⟨fun j q' hj hq' => h j q' (by omega) hq', h i q (by omega) hq⟩
  · intro ⟨h1, h2⟩ j q' hj hq'
    by_cases e : j = i
    · subst e; rw [hq] at hq'; cases hq'; exact h2
    · exact h1 j q' (by omega) hq'
theorem jmay_eq (v : JV) : jmay v ↔ (0 ≤ v.kind ∧ v.kind ≤ 5 ∧ jbare v = true ∧ NumMay v.n ∧ Utf v.s) ∧ mok v.m v.m.length ∧ (∀ (i : Nat) x, v.l[i]? = some x → jmay x) := by
  cases v with
  | mk k b n s l m =>
    simp only [jmay, JV.kind, JV.n, JV.s, JV.l, JV.m, lmay_iff, mmay_iff, mok]
    constructor
    · intro ⟨h1, h2, h3, h4⟩
      exact ⟨h1, fun j q _ hq => ⟨h2 j q hq, h4 j q hq⟩, h3⟩
    · intro ⟨h1, h2, h3⟩
      exact ⟨h1, fun i q hq => (h2 i q (List.getElem?_eq_some_iff.1 hq).1 hq).1, h3, fun i q hq => (h2 i q (List.getElem?_eq_some_iff.1 hq).1 hq).2⟩
end Lg
namespace Lg
open Go
theorem bytesLess_asymm : ∀ (a b : List UInt8), Op.bytesLess a b = true → Op.bytesLess b a = false
  | [], [], h => by simp [Op.bytesLess] at h
  | [], _ :: _, _ => by simp [Op.bytesLess]
  | _ :: _, [], h => by simp [Op.bytesLess] at h
  | x :: a, y :: b, h => by
    simp only [Op.bytesLess] at h ⊢
    have ih := bytesLess_asymm a b
    rcases Nat.lt_trichotomy x.toNat y.toNat with h1 | h1 | h1
    · have : ¬ y < x := by simp only [UInt8.lt_iff_toNat_lt]; omega
      have : x < y := by simp only [UInt8.lt_iff_toNat_lt]; omega
      have : ¬ y = x := fun e => by subst e; omega
      simp_all
    · have : x = y := UInt8.toNat_inj.1 h1
      subst this
      simp_all
    · have h2 : ¬ x < y := by simp only [UInt8.lt_iff_toNat_lt]; omega
      have h3 : y < x := by simp only [UInt8.lt_iff_toNat_lt]; omega
      have : ¬ x = y := fun e => by subst e; omega
      simp_all
theorem bytesLess_total : ∀ (a b : List UInt8), Op.bytesLess a b = false → a ≠ b → Op.bytesLess b a = true
  | [], [], _, h => by simp at h
  | [], _ :: _, h, _ => by simp [Op.bytesLess] at h
  | _ :: _, [], _, _ => by simp [Op.bytesLess]
  | x :: a, y :: b, h, hne => by
    simp only [Op.bytesLess] at h ⊢
    have ih := bytesLess_total a b
    rcases Nat.lt_trichotomy x.toNat y.toNat with h1 | h1 | h1
    · have : x < y := by simp only [UInt8.lt_iff_toNat_lt]; omega
      simp_all
    · have : x = y := UInt8.toNat_inj.1 h1
      subst this
      simp_all
    · have h2 : ¬ x < y := by simp only [UInt8.lt_iff_toNat_lt]; omega
      have h3 : y < x := by simp only [UInt8.lt_iff_toNat_lt]; omega
      simp_all
theorem bytesLess_irrefl (a : List UInt8) : Op.bytesLess a a = false := by
  cases h : Op.bytesLess a a with
  | false => rfl
  | true => have := bytesLess_asymm a a h; rw [h] at this; cases this
variable [GLay]
theorem ba_toList_inj {a b : ByteArray} (h : a.toList = b.toList) : a = b := by
  have := ba_beq a b
  rw [h] at this; simpa using this
theorem blt_le {a b : ByteArray} (h : (blt a b || decide (a = b)) = true) : blt b a = false := by
  simp only [Bool.or_eq_true, decide_eq_true_eq] at h
  rcases h with h | h
  · exact bytesLess_asymm _ _ h
  · subst h; exact bytesLess_irrefl _
theorem blt_gt {a b : ByteArray} (h : (blt a b || decide (a = b)) = false) : blt b a = true := by
  simp only [Bool.or_eq_false_iff, decide_eq_false_iff_not] at h
  exact bytesLess_total _ _ h.1 fun e => h.2 (ba_toList_inj e)
end Lg
