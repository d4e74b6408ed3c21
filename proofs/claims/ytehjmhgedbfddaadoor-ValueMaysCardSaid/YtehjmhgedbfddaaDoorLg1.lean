import Derived.WalkKit
import Derived.Orders
import Derived.Below
set_option linter.unusedVariables false
set_option linter.unusedSimpArgs false
set_option linter.unusedSectionVars false
namespace Lg
open Go

/-! ### Abstract values -/
inductive AV where
  | any
  | bool (b : Bool)
  | int (k : IntKind) (n : Int)
  | str (s : ByteArray)
  | nilp
  | ptr (p off : Nat)
  | pel (p g i : Nat)
  | pp (cs : List AV)
  | nils
  | sl (full : Bool) (sz : Nat) (es : List (List AV))
  | arr (p g sz off len : Nat)
  | mapv (p : Nat)
  | nilm
  | func (fn : Fn) (first caps : List AV)
  | nilf
  | iface (T : TypeId) (a : AV)
  | nili
  | agg (cs : List AV)
  | tup (cs : List AV)

mutual
/-- All objects that a value names are below n. -/
def AV.lt (n : Nat) : AV → Prop
  | .ptr p _ | .pel p _ _ | .arr p _ _ _ _ | .mapv p => p < n
  | .pp cs | .agg cs | .tup cs => AV.ltL n cs
  | .sl _ _ es => AV.ltLL n es
  | .func _ f c => AV.ltL n f ∧ AV.ltL n c
  | .iface _ a => AV.lt n a
  | _ => True
def AV.ltL (n : Nat) : List AV → Prop
  | [] => True
  | a :: r => AV.lt n a ∧ AV.ltL n r
def AV.ltLL (n : Nat) : List (List AV) → Prop
  | [] => True
  | a :: r => AV.ltL n a ∧ AV.ltLL n r
end

theorem AV.ltL_iff (n : Nat) (l : List AV) : AV.ltL n l ↔ ∀ a ∈ l, AV.lt n a := by
  induction l with
  | nil => simp [AV.ltL]
  | cons a r ih => simp [AV.ltL, ih]
theorem AV.ltLL_iff (n : Nat) (l : List (List AV)) : AV.ltLL n l ↔ ∀ a ∈ l, AV.ltL n a := by
  induction l with
  | nil => simp [AV.ltLL]
  | cons a r ih => simp [AV.ltLL, ih]

mutual
theorem AV.lt_mono {m n : Nat} (h : m ≤ n) : ∀ a : AV, AV.lt m a → AV.lt n a
  | .ptr p _ | .pel p _ _ | .arr p _ _ _ _ | .mapv p => fun q => by simp only [AV.lt] at *; omega
  | .pp cs | .agg cs | .tup cs => fun q => by simp only [AV.lt] at *; exact AV.ltL_mono h cs q
  | .sl _ _ es => fun q => by simp only [AV.lt] at *; exact AV.ltLL_mono h es q
  | .func _ f c => fun q => by simp only [AV.lt] at *; exact ⟨AV.ltL_mono h f q.1, AV.ltL_mono h c q.2⟩
  | .iface _ a => fun q => by simp only [AV.lt] at *; exact AV.lt_mono h a q
  | .any | .bool _ | .int _ _ | .str _ | .nilp | .nils | .nilm | .nilf | .nili => fun _ => by simp only [AV.lt]
theorem AV.ltL_mono {m n : Nat} (h : m ≤ n) : ∀ l : List AV, AV.ltL m l → AV.ltL n l
  | [] => fun _ => trivial
  | a :: r => fun q => ⟨AV.lt_mono h a q.1, AV.ltL_mono h r q.2⟩
theorem AV.ltLL_mono {m n : Nat} (h : m ≤ n) : ∀ l : List (List AV), AV.ltLL m l → AV.ltLL n l
  | [] => fun _ => trivial
  | a :: r => fun q => ⟨AV.ltL_mono h a q.1, AV.ltLL_mono h r q.2⟩
end

/-! ### Abstract objects: the call's own mutable memory -/
inductive AO where
  | box (cs : List AV)
  | arr (sz g : Nat) (cs : List AV)
  | gone
  | dead

def AO.isBox : AO → Bool
  | .box _ | .gone => true
  | _ => false
def AO.cells : AO → List AV
  | .box cs | .arr _ _ cs => cs
  | _ => []

structure Pl where
  b : Nat
  base : Nat := 0
  tot : Nat := 0

/-- A state: the abstract heap, where its objects lie, which blocks are never written again, the world. -/
structure CS where
  σ : List AO
  μ : Nat → Pl
  ok : Nat → Prop
  w : World

def CS.live (s : CS) (p : Nat) : Prop :=
  match s.σ[p]? with
  | some (.box _) => True
  | some (.arr _ _ _) => (s.μ p).tot ≠ 0
  | _ => False

/-- What is known of a value that names an array object: only while the object's generation is the value's. -/
def ArrAt (s : CS) (p g : Nat) (R : Nat → Pl → Prop) : Prop :=
  match s.σ[p]? with
  | some (.arr sz g0 _) => g ≤ g0 ∧ (g = g0 → R sz (s.μ p))
  | some .dead => True
  | _ => False

inductive V (s : CS) : AV → Value → Prop
  | any (v) : V s .any v
  | bool (b) : V s (.bool b) (.bool b)
  | int (k n) : V s (.int k n) (.int k n)
  | str (x) : V s (.str x) (.string x)
  | nilp : V s .nilp (.pointer none)
  | ptr (p off o) (h : s.σ[p]? = some o) (hb : o.isBox = true) : V s (.ptr p off) (.pointer (some ⟨(s.μ p).b, off, none⟩))
  | pel (p g i v) (h1 : v.oneCell' = true) (h : ArrAt s p g fun _ m => v = .pointer (some ⟨m.b, m.base + i, none⟩)) : V s (.pel p g i) v
  | pp (cs : List AV) (b off : Nat) (vs : List Value) (hok : s.ok b) (hl : vs.length = cs.length) (hc : ∀ (i : Nat) (v : Value), vs[i]? = some v → s.w.cell? ⟨b, off + i, none⟩ = some v)
      (hv : ∀ (i : Nat) (c : AV) (v : Value), cs[i]? = some c → vs[i]? = some v → V s c v) : V s (.pp cs) (.pointer (some ⟨b, off, none⟩))
  | nils : V s .nils (.slice none 0 0)
  | sl (full : Bool) (sz : Nat) (es : List (List AV)) (b off cap : Nat) (vs : List Value) (hok : es = [] ∨ s.ok b) (hsz : ∀ e ∈ es, e.length = sz) (hl : vs.length = es.flatten.length)
      (hc : ∀ (i : Nat) (v : Value), vs[i]? = some v → s.w.cell? ⟨b, off + i, none⟩ = some v)
      (hv : ∀ (i : Nat) (c : AV) (v : Value), es.flatten[i]? = some c → vs[i]? = some v → V s c v) (hcap : es.length ≤ cap) (hf : full = true → cap = es.length) :
      V s (.sl full sz es) (.slice (some ⟨b, off, none⟩) es.length cap)
  | sl0 (full sz) (ad : Option Addr) : V s (.sl full sz []) (.slice ad 0 0)
  | arr (p g sz off len v) (h1 : v.oneCell' = true) (h : ArrAt s p g fun sz' m => sz' = sz ∧ ((∃ ad, v = .slice ad 0 0 ∧ len = 0) ∨
        ∃ cap, v = .slice (some ⟨m.b, m.base + off * sz, none⟩) len cap ∧ len ≤ cap ∧ m.base + (off + cap) * sz ≤ m.tot)) : V s (.arr p g sz off len) v
  | nilm : V s .nilm (.map none)
  | func (fn : Fn) (f c : List AV) (vf vc : List Value) (hf : vf.length = f.length) (hc : vc.length = c.length) (h1 : ∀ (i : Nat) (a : AV) (v : Value), f[i]? = some a → vf[i]? = some v → V s a v)
      (h2 : ∀ (i : Nat) (a : AV) (v : Value), c[i]? = some a → vc[i]? = some v → V s a v) : V s (.func fn f c) (.func fn vf.toArray vc.toArray)
  | nilf : V s .nilf .nilFunc
  | iface (T a v) (h : V s a v) : V s (.iface T a) (.iface T v)
  | nili : V s .nili .nilIface
  | agg (cs : List AV) (vs : List Value) (hl : vs.length = cs.length) (hv : ∀ (i : Nat) (c : AV) (v : Value), cs[i]? = some c → vs[i]? = some v → V s c v) : V s (.agg cs) (.agg vs.toArray)
  | tup (cs : List AV) (vs : List Value) (hl : vs.length = cs.length) (hv : ∀ (i : Nat) (c : AV) (v : Value), cs[i]? = some c → vs[i]? = some v → V s c v) : V s (.tup cs) (.tuple vs.toArray)

/-- Cell by cell. -/
def PW (s : CS) (cs : List AV) (vs : List Value) : Prop :=
  vs.length = cs.length ∧ ∀ (i : Nat) (c : AV) (v : Value), cs[i]? = some c → vs[i]? = some v → V s c v

def ORep (s : CS) (p : Nat) : AO → Prop
  | .box cs => ¬ s.ok (s.μ p).b ∧ ∃ vs T, s.w.heap[(s.μ p).b]? = some (.cells (List.toArray vs) T (0, 0)) ∧ PW s cs vs
  | .arr _ _ cs => ((s.μ p).tot = 0 ∧ cs = []) ∨ ((s.μ p).tot ≠ 0 ∧ ¬ s.ok (s.μ p).b ∧ ∃ vs T, s.w.heap[(s.μ p).b]? = some (.cells (List.toArray vs) T (0, 0)) ∧
      vs.length = (s.μ p).tot ∧ (s.μ p).base + cs.length ≤ (s.μ p).tot ∧ PW s cs ((vs.drop (s.μ p).base).take cs.length))
  | _ => True

/-- The blocks of package-level variables that are never written again. -/
class GLay where
  f : Nat → Option Obj
variable [GLay]

structure Good (s : CS) : Prop where
  okb : ∀ b, s.ok b → b < s.w.heap.size
  obj : ∀ p o, s.σ[p]? = some o → ORep s p o
  inj : ∀ p q, p ≠ q → s.live p → s.live q → (s.μ p).b ≠ (s.μ q).b
  glob : ∀ b o, GLay.f b = some o → s.ok b ∧ s.w.heap[b]? = some o

/-- How an object may turn. -/
inductive OLe : AO → AO → Prop
  | box (cs cs') (h : cs.length = cs'.length) : OLe (.box cs) (.box cs')
  | boxGone (cs) : OLe (.box cs) .gone
  | gone : OLe .gone .gone
  | arr (sz g cs g' cs') (h : g ≤ g') (hl : g = g' → cs.length = cs'.length) : OLe (.arr sz g cs) (.arr sz g' cs')
  | arrDead (sz g cs) : OLe (.arr sz g cs) .dead
  | dead : OLe .dead .dead

theorem OLe.refl (o : AO) : OLe o o := by
  cases o with
  | box cs => exact .box _ _ rfl
  | arr sz g cs => exact .arr _ _ _ _ _ (Nat.le_refl _) (fun _ => rfl)
  | gone => exact .gone
  | dead => exact .dead
theorem OLe.trans {a b c : AO} (h : OLe a b) (k : OLe b c) : OLe a c := by
  cases h with
  | box cs cs' h => cases k with
    | box _ cs'' h' => exact .box _ _ (h.trans h')
    | boxGone => exact .boxGone _
  | boxGone => cases k; exact .boxGone _
  | gone => cases k; exact .gone
  | arr sz g cs g' cs' h hl => cases k with
    | arr _ _ _ g'' cs'' h' hl' => exact .arr _ _ _ _ _ (Nat.le_trans h h') (fun e => by
        have e1 : g = g' := by omega
        have e2 : g' = g'' := by omega
        rw [hl e1, hl' e2])
    | arrDead => exact .arrDead _ _ _
  | arrDead => cases k; exact .arrDead _ _ _
  | dead => cases k; exact .dead

/-- Where an object that values may still name stays. -/
def Stay : AO → AO → Prop
  | .box _, _ | .gone, _ => True
  | .arr _ g _, .arr _ g' _ => g = g'
  | _, _ => False

structure Ext (s s' : CS) : Prop where
  objs : ∀ p o, s.σ[p]? = some o → ∃ o', s'.σ[p]? = some o' ∧ OLe o o' ∧ (Stay o o' → s'.μ p = s.μ p)
  ok : ∀ b, s.ok b → s'.ok b
  mun : ∀ p, s'.live p → (p < s.σ.length ∧ s.live p ∧ (s'.μ p).b = (s.μ p).b) ∨ s.w.heap.size ≤ (s'.μ p).b
  frame : ∀ b, b < s.w.heap.size → (∀ p, s.live p → (s.μ p).b ≠ b) → s'.w.heap[b]? = s.w.heap[b]?
  size : s.w.heap.size ≤ s'.w.heap.size
  tape : s'.w.tape = s.w.tape
  os : s'.w.os = s.w.os
  output : s'.w.output = s.w.output

theorem CS.live_lt {s : CS} {p : Nat} (h : s.live p) : p < s.σ.length := by
  unfold CS.live at h
  cases e : s.σ[p]? with
  | none => simp [e] at h
  | some o => exact (List.getElem?_eq_some_iff.1 e).1

theorem Good.live_lt {s : CS} (g : Good s) {p : Nat} (h : s.live p) : (s.μ p).b < s.w.heap.size ∧ ¬ s.ok (s.μ p).b := by
  unfold CS.live at h
  cases e : s.σ[p]? with
  | none => simp [e] at h
  | some o =>
    have ho := g.obj p o e
    cases o with
    | box cs =>
      obtain ⟨h1, vs, T, h2, _⟩ := ho
      exact ⟨(Array.getElem?_eq_some_iff.1 h2).1, h1⟩
    | arr sz gg cs =>
      simp [e] at h
      rcases ho with ⟨h0, _⟩ | ⟨_, h1, vs, T, h2, _⟩
      · exact absurd h0 h
      · exact ⟨(Array.getElem?_eq_some_iff.1 h2).1, h1⟩
    | gone => simp [e] at h
    | dead => simp [e] at h

theorem Good.ok_ne {s : CS} (g : Good s) {b : Nat} (h : s.ok b) : ∀ p, s.live p → (s.μ p).b ≠ b :=
  fun _ hp e => (g.live_lt hp).2 (e ▸ h)

/-- What may not be written again reads as before. -/
theorem Ext.keep {s s' : CS} (x : Ext s s') (g : Good s) {b : Nat} (h : s.ok b) : s'.w.heap[b]? = s.w.heap[b]? :=
  x.frame b (g.okb b h) (g.ok_ne h)

theorem cell_of_block {w w' : World} {b o : Nat} (h : w'.heap[b]? = w.heap[b]?) : w'.cell? ⟨b, o, none⟩ = w.cell? ⟨b, o, none⟩ := by
  unfold World.cell?; rw [h]

theorem Ext.refl (s : CS) : Ext s s where
  objs := fun _ o h => ⟨o, h, OLe.refl o, fun _ => rfl⟩
  ok := fun _ h => h
  mun := fun _ h => .inl ⟨CS.live_lt h, h, rfl⟩
  frame := fun _ _ _ => rfl
  size := Nat.le_refl _
  tape := rfl
  os := rfl
  output := rfl

theorem Ext.len {s s' : CS} (x : Ext s s') : s.σ.length ≤ s'.σ.length := by
  rcases Nat.lt_or_ge s'.σ.length s.σ.length with h | h
  · obtain ⟨o', h', _⟩ := x.objs s'.σ.length s.σ[s'.σ.length] (List.getElem?_eq_getElem h)
    have := (List.getElem?_eq_some_iff.1 h').1
    omega
  · exact h

theorem Ext.trans {a b c : CS} (x : Ext a b) (y : Ext b c) : Ext a c where
  objs := fun p o h => by
    obtain ⟨o1, h1, l1, m1⟩ := x.objs p o h
    obtain ⟨o2, h2, l2, m2⟩ := y.objs p o1 h1
    refine ⟨o2, h2, l1.trans l2, fun hs => ?_⟩
    have s1 : Stay o o1 ∧ Stay o1 o2 := by
      cases l1 with
      | box => exact ⟨trivial, trivial⟩
      | boxGone => exact ⟨trivial, trivial⟩
      | gone => exact ⟨trivial, trivial⟩
      | dead => exact hs.elim
      | arrDead => cases l2; exact hs.elim
      | arr sz g cs g' cs' hle _ => cases l2 with
        | arr _ _ _ g'' cs'' hle' _ => simp only [Stay] at *; omega
        | arrDead => exact hs.elim
    rw [m2 s1.2, m1 s1.1]
  ok := fun b h => y.ok b (x.ok b h)
  mun := fun p h => by
    rcases y.mun p h with ⟨h1, h2, h3⟩ | h1
    · rcases x.mun p h2 with ⟨k1, k2, k3⟩ | k1
      · exact .inl ⟨k1, k2, h3.trans k3⟩
      · exact .inr (h3 ▸ k1)
    · exact .inr (Nat.le_trans x.size h1)
  frame := fun n hn hp => by
    have e1 := x.frame n hn hp
    have e2 := y.frame n (Nat.lt_of_lt_of_le hn x.size) (fun p h => by
      rcases x.mun p h with ⟨_, k2, k3⟩ | k1
      · rw [k3]; exact hp p k2
      · omega)
    rw [e2, e1]
  size := Nat.le_trans x.size y.size
  tape := y.tape.trans x.tape
  os := y.os.trans x.os
  output := y.output.trans x.output

theorem ArrAt.mono {s s' : CS} {p g : Nat} {R : Nat → Pl → Prop} (h : ArrAt s p g R) (x : Ext s s') : ArrAt s' p g R := by
  unfold ArrAt at h
  split at h
  · rename_i sz g0 cs e
    obtain ⟨o', h', l, m⟩ := x.objs p _ e
    unfold ArrAt
    rw [h']
    cases l with
    | arr _ _ _ g' cs' hle hl =>
      refine ⟨Nat.le_trans h.1 hle, fun eg => ?_⟩
      have e0 : g = g0 := by omega
      rw [m (show g0 = g' by omega)]
      exact h.2 e0
    | arrDead => trivial
  · rename_i e
    obtain ⟨o', h', l, m⟩ := x.objs p _ e
    unfold ArrAt
    rw [h']
    cases l
    trivial
  · exact h.elim

theorem V.mono {s s' : CS} (g : Good s) (x : Ext s s') {a : AV} {v : Value} (h : V s a v) : V s' a v := by
  induction h with
  | any v => exact .any v
  | bool b => exact .bool b
  | int k n => exact .int k n
  | str x => exact .str x
  | nilp => exact .nilp
  | ptr p off o h hb =>
    obtain ⟨o', h', l, m⟩ := x.objs p o h
    have e : s'.μ p = s.μ p := m (by cases o <;> simp_all [AO.isBox, Stay])
    rw [← e]
    refine .ptr p off o' h' ?_
    cases l <;> simp_all [AO.isBox]
  | pel p gg i v h1 h => exact .pel p gg i v h1 (h.mono x)
  | pp cs b off vs hok hl hc hv ih =>
    exact .pp cs b off vs (x.ok b hok) hl (fun i v e => (cell_of_block (x.keep g hok)).trans (hc i v e)) ih
  | nils => exact .nils
  | sl full sz es b off cap vs hok hsz hl hc hv hcap hf ih =>
    refine .sl full sz es b off cap vs (hok.imp id (x.ok b)) hsz hl (fun i v e => ?_) ih hcap hf
    rcases hok with rfl | hok
    · have : vs = [] := List.eq_nil_of_length_eq_zero (by simpa using hl)
      subst this
      simp at e
    · exact (cell_of_block (x.keep g hok)).trans (hc i v e)
  | sl0 full sz ad => exact .sl0 full sz ad
  | arr p gg sz off len v h1 h => exact .arr p gg sz off len v h1 (h.mono x)
  | nilm => exact .nilm
  | func fn f c vf vc hf hc h1 h2 ih1 ih2 => exact .func fn f c vf vc hf hc ih1 ih2
  | nilf => exact .nilf
  | iface T a v h ih => exact .iface T a v ih
  | nili => exact .nili
  | agg cs vs hl hv ih => exact .agg cs vs hl ih
  | tup cs vs hl hv ih => exact .tup cs vs hl ih
end Lg
