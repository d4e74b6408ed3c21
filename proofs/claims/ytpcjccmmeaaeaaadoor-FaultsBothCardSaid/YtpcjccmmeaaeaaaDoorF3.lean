/- A part of the proof of Any faults, rising; any two lists of them, one; any, under any name: as the document has it.: Vg Lg24 Lg25 Lg26 Lg27 Lg28 Lv1 Lv2 Lv3 Lz1 Lz2 Lz2b Lz3 Ti Vb Lu1 Lv4 Lv5 Lv6 Lv7 Lp1 Lp2 Lp3 Ln1 Ln2 Ln3 Ln4 Ln5 Ln6 Lr1 Lr2 Lg29 Lg30 Lg31 Lg32 Lg33 Lg34 Lg43 Ln7 Ln8 Lq1 Lk1 Lk2 Lk3 Lp4 Lp5 Lp6 Lp7 Lk4 Lk5 Lg44 Lk6 Lk7 Lr3 Lw1 Lw2 Lg57 Lg45 Lg46 Lg47 Lg48 Lg49 Lg50 Lg51 Lg52 Lg56 Lr4. -/
import Derived.Test.YtpcjccmmeaaeaaaDoorF2
import Derived.WalkKit
import Derived.Lib.ValidU
import Derived.Test.YtpcjccmmeaaeaaaDoorProg
import Derived.Test.YtpcjccmmeaaeaaaDoorRows
import Derived.Lib.LaidU8
import Derived.Lib.LaidTab
import Derived.Lib.LaidIn
import Derived.LaidMore
import Derived.LaidSub
import Derived.Lib.ItoaNum
import Derived.Lay
import Derived.ProofKit
import Derived.OpenShut
import Derived.Stop.Joined
import Derived.Stop.LaidErr
import Derived.Deep.Strs
import Derived.Shelf.Unicode.DecodeSlow
import Derived.Lib.ValidLaws
import Derived.Lib.SplitLaws
import Derived.Lib.ReplaceLaws
import Derived.Lib.Builder
import Derived.Lib.UnsafeStr
import Derived.Laws.Externs
import Derived.Laws.Shifts
import Derived.Lib.Atoi
import Derived.MapKept
import Derived.SliceStrings
import Derived.HandedShaped
import Derived.Laws.CopyRow
set_option linter.unusedVariables false
set_option linter.unusedSimpArgs false
set_option linter.unusedSectionVars false
namespace Lg
open Go Go.Lib
theorem laid_heap [g : GLay] {W w : World} (hg : ∀ b, g.f b = W.heap[b]?) (hw : Laid w) {b : Nat} {o : Obj} (h : W.heap[b]? = some o) : w.heap[b]? = some o := hw b o ((hg b).trans h)
theorem cell_heap [g : GLay] {W w : World} (hg : ∀ b, g.f b = W.heap[b]?) (hw : Laid w) {b c : Nat} {v : Value} (h : W.cell? ⟨b, c, none⟩ = some v) : w.cell? ⟨b, c, none⟩ = some v := by
  cases hb : W.heap[b]? with
  | none => simp [World.cell?, hb] at h
  | some o => rw [← h]; simp only [World.cell?, hb, laid_heap hg hw hb]
theorem U8.of [g : GLay] {W : World} (hT : Utf8Tabs 0 1 W) (hg : ∀ b, g.f b = W.heap[b]?) : U8 := ⟨fun w hw =>
  ⟨fun c hc => cell_heap hg hw (hT.1 c hc), fun i hi => ⟨cell_heap hg hw (hT.2 i hi).1, cell_heap hg hw (hT.2 i hi).2⟩⟩⟩
end Lg
namespace Lg
open Go Go.RowKit
variable [GLay]
variable {P : Program} {N : Nat} {σ : List AO} {e : Env} {Q : QA}

inductive RK where
  | t (a : Nat)
  | c1 (a : Nat)
  | ck (a n : Nat)
def rkv (σ : List AO) (e : Env) : RK → Option AV
  | .t a => some (e.look a)
  | .c1 a => match ldv σ 1 (e.look a) with
    | some [c] => some c
    | _ => none
  | .ck a n => (ldv σ n (e.look a)).map .agg
def rkvs (σ : List AO) (e : Env) : List RK → Option (List AV)
  | [] => some []
  | k :: r => match rkv σ e k, rkvs σ e r with
    | some v, some l => some (v :: l)
    | _, _ => none
inductive RKs (P : Program) : List ResultVar → List RK → Prop
  | nil : RKs P [] []
  | t {a r k} (h : RKs P r k) : RKs P (.tmp a :: r) (.t a :: k)
  | c1 {a T r k} (ha : ∀ w, (isAgg T).run P w = .ok false w) (h : RKs P r k) : RKs P (.cell a T :: r) (.c1 a :: k)
  | ck {a T n r k} (ha : ∀ w, (isAgg T).run P w = .ok true w) (hz : ∀ w, (Go.sizeOf T).run P w = Result.ok n w) (h : RKs P r k) : RKs P (.cell a T :: r) (.ck a n :: k)
def rvRun (tmps : Array Value) : ResultVar → Sem Value
  | .tmp t => pure (tmps.getD t undef)
  | .cell a t => do loadVar t (← asAddr (tmps.getD a undef))
theorem RKs.run {rs : List ResultVar} {ks : List RK} (h : RKs P rs ks) {s : CS} {a : Act} (g : Good s) (he : EnvOK s N e a) : ∀ {l : List AV}, rkvs s.σ e ks = some l → ∃ vs : List Value, (rs.mapM (rvRun a.tmps)).run P s.w = .ok vs s.w ∧ PW s l vs := by
  induction h with
  | nil => intro l hl; simp [rkvs] at hl; subst hl; exact ⟨[], by simp, .nil⟩
  | @t b r k h ih =>
    intro l hl
    simp only [rkvs, rkv] at hl
    split at hl <;> try cases hl
    rename_i v l' e1 e2
    cases e1
    obtain ⟨vs, h1, h2⟩ := ih e2
    exact ⟨a.tmps.getD b undef :: vs, by simp [rvRun, h1], .cons (he.tmps b) h2⟩
  | @c1 b T r k ha h ih =>
    intro l hl
    simp only [rkvs, rkv] at hl
    split at hl <;> try cases hl
    rename_i v l' e1 e2
    split at e1 <;> try cases e1
    rename_i c hld
    obtain ⟨bb, off, vs, k1, k2, _, k4⟩ := (he.tmps b).load g hld
    obtain ⟨u, us, rfl, hv1, _⟩ := k2.inv_cons
    obtain ⟨ws, h1, h2⟩ := ih e2
    have k5 := k4 0 u rfl
    simp only [Nat.add_zero] at k5
    simp only [Act.eval] at k1
    exact ⟨u :: ws, by simp [rvRun, k1, asAddr, loadVar, ha, k5, h1], .cons hv1 h2⟩
  | @ck b T n r k ha hz h ih =>
    intro l hl
    simp only [rkvs, rkv] at hl
    split at hl <;> try cases hl
    rename_i v l' e1 e2
    simp only [Option.map_eq_some_iff] at e1
    obtain ⟨cs, hld, rfl⟩ := e1
    obtain ⟨bb, off, vs, k1, k2, k3, k4⟩ := (he.tmps b).load g hld
    obtain ⟨ws, h1, h2⟩ := ih e2
    have hr := run_loadCells_list (P := P) s.w ⟨bb, off, none⟩ vs (fun j v e => by rw [add_none]; exact k4 j v e)
    rw [k3] at hr
    simp only [Act.eval] at k1
    exact ⟨.agg vs.toArray :: ws, by simp [rvRun, k1, asAddr, loadVar, ha, hz, hr, h1], .cons (.agg _ _ k2.1 k2.2) h2⟩
end Lg
namespace Lg
open Go Go.RowKit
variable [GLay]
variable {P : Program} {σ : List AO}
theorem ACalls.weak {f : FuncId} {args : List AV} {R R' : Out → List AO → Prop} (h : ACalls P f args σ R) (hr : ∀ v σ', R (.ret v) σ' → ∃ v', AVle v v' ∧ R' (.ret v') σ') (hp : ∀ v σ', R (.pan v) σ' → R' (.pan v) σ') : ACalls P f args σ R' := fun s cargs hs g hpw =>
  (h s cargs hs g hpw).mono fun ed w' hc => by
    obtain ⟨s', h1, h2, h3, h4⟩ := hc
    refine ⟨s', h1, h2, h3, ?_⟩
    cases ed with
    | returned cv =>
      obtain ⟨v, h5, h6⟩ := h4
      obtain ⟨v', h7, h8⟩ := hr v _ h6
      exact ⟨v', h7 _ _ h5, h8⟩
    | outgrown => exact h4
    | panicked ch =>
      cases ch with
      | nil => exact h4
      | cons en r =>
        cases r with
        | nil => obtain ⟨h5, v, h6, h7⟩ := h4; exact ⟨h5, v, h6, hp _ _ h7⟩
        | cons => exact h4
end Lg
namespace Lg
open Go Go.RowKit
variable [GLay]
variable {P : Program} {N : Nat} {σ : List AO} {e : Env} {Q : QA} {ops : Array Oper} {o : Oper}

theorem AWp_heap {c : Code} {σ' : List AO} (h : σ' = σ) (k : AWp P N c e σ' Q) : AWp P N c e σ Q := h ▸ k
variable {p : Nat} {x : AO} {l : List AO}
theorem get_set (h : p < σ.length) : (σ.set p x)[p]? = some x := by rw [List.getElem?_set]; simp [h]
theorem get_setA (h : p < σ.length) : (σ.set p x ++ l)[p]? = some x := by rw [List.getElem?_append_left (by simpa using h)]; exact get_set h
theorem get_ownS (k : Nat) : (σ.set p x ++ l)[σ.length + k]? = l[k]? := by
  rw [List.getElem?_append_right (by simp)]; congr 1; simp
theorem ldv_set {off n : Nat} {cs r : List AV} (h : p < σ.length) (hr : tk n (cs.drop off) = some r) : ldv (σ.set p (.box cs)) n (.ptr p off) = some r := ldv_ptr (get_set h) hr
theorem ldv_setA {off n : Nat} {cs r : List AV} (h : p < σ.length) (hr : tk n (cs.drop off) = some r) : ldv (σ.set p (.box cs) ++ l) n (.ptr p off) = some r := ldv_ptr (get_setA h) hr
theorem ldv_ownS {k off n : Nat} {cs r : List AV} (h : l[k]? = some (.box cs)) (hr : tk n (cs.drop off) = some r) : ldv (σ.set p x ++ l) n (.ptr (σ.length + k) off) = some r := by
  simp only [ldv, get_ownS, h, hr]
theorem op_storeS {T : TypeId} {a b : Operand} {n off : Nat} {cs r : List AV} (ho : o.op = .store T a b) (hz : ∀ w, (Go.sizeOf T).run P w = Result.ok n w) (hn : (opv e b).cells.length = n)
    (h1 : ones (opv e b).cells = true) (hx : opv e a = .ptr p off) (hp : p < σ.length) (hr : spl off cs (opv e b).cells = some r) (hn0 : n ≠ 0) : AOp P (σ.set p (.box cs)) e o .any (σ.set p (.box r)) := by
  have := op_storeP (P := P) (σ := σ.set p (.box cs)) ho hz hn h1 hx (get_set hp) hr hn0
  rwa [List.set_set] at this
theorem op_storeSA {T : TypeId} {a b : Operand} {n off : Nat} {cs r : List AV} (ho : o.op = .store T a b) (hz : ∀ w, (Go.sizeOf T).run P w = Result.ok n w) (hn : (opv e b).cells.length = n)
    (h1 : ones (opv e b).cells = true) (hx : opv e a = .ptr p off) (hp : p < σ.length) (hr : spl off cs (opv e b).cells = some r) (hn0 : n ≠ 0) : AOp P (σ.set p (.box cs) ++ l) e o .any (σ.set p (.box r) ++ l) := by
  have := op_storeP (P := P) (σ := σ.set p (.box cs) ++ l) ho hz hn h1 hx (get_setA hp) hr hn0
  rwa [List.set_append_left _ _ (by simpa using hp), List.set_set] at this
theorem op_storeOS {T : TypeId} {a b : Operand} {n k off : Nat} {cs r : List AV} (ho : o.op = .store T a b) (hz : ∀ w, (Go.sizeOf T).run P w = Result.ok n w) (hn : (opv e b).cells.length = n)
    (h1 : ones (opv e b).cells = true) (hx : opv e a = .ptr (σ.length + k) off) (hl : l[k]? = some (.box cs)) (hr : spl off cs (opv e b).cells = some r) (hn0 : n ≠ 0) : AOp P (σ.set p x ++ l) e o .any (σ.set p x ++ l.set k (.box r)) := by
  have := op_storeP (P := P) (σ := σ.set p x ++ l) ho hz hn h1 hx (by rw [get_ownS]; exact hl) hr hn0
  rwa [List.set_append_right _ _ (by simp), List.length_set, Nat.add_sub_cancel_left] at this
theorem op_boxS {T : TypeId} {a : Operand} {cs : List AV} (n : Nat) (hn : l.length = n) (ho : o.op = .box T a) (hx : (opv e a).cells = cs) (h1 : ones cs = true) : AOp P (σ.set p x ++ l) e o (.ptr (σ.length + n) 0) (σ.set p x ++ (l ++ [.box cs])) := by
  have := op_box (P := P) (σ := σ.set p x ++ l) ho hx h1
  rwa [List.length_append, hn, List.append_assoc, List.length_set] at this
theorem op_boxS0 {T : TypeId} {a : Operand} {cs : List AV} (ho : o.op = .box T a) (hx : (opv e a).cells = cs) (h1 : ones cs = true) : AOp P (σ.set p x) e o (.ptr (σ.length + 0) 0) (σ.set p x ++ [.box cs]) := by
  have := op_box (P := P) (σ := σ.set p x) ho hx h1
  rwa [List.length_set] at this
theorem op_allocS {T : TypeId} {z : Value} {cs : List AV} (n : Nat) (hn : l.length = n) (ho : o.op = .alloc T) (hz : ∀ w, (zeroValue T).run P w = Result.ok z w) (hx : z.cells.toList.map ofConst1 = cs) : AOp P (σ.set p x ++ l) e o (.ptr (σ.length + n) 0) (σ.set p x ++ (l ++ [.box cs])) := by
  have := op_alloc (P := P) (σ := σ.set p x ++ l) (e := e) ho hz hx
  rwa [List.length_append, hn, List.append_assoc, List.length_set] at this
theorem op_allocS0 {T : TypeId} {z : Value} {cs : List AV} (ho : o.op = .alloc T) (hz : ∀ w, (zeroValue T).run P w = Result.ok z w) (hx : z.cells.toList.map ofConst1 = cs) : AOp P (σ.set p x) e o (.ptr (σ.length + 0) 0) (σ.set p x ++ [.box cs]) := by
  have := op_alloc (P := P) (σ := σ.set p x) (e := e) ho hz hx
  rwa [List.length_set] at this
end Lg
namespace Lg
open Go Go.RowKit
variable [GLay]
variable {σ l : List AO} {p : Nat} {x : AO} {el : List (Nat × AV)} {ts : List Nat} {v : AV} {R : Out → List AO → Prop}
theorem takeS : (σ.set p x ++ l).take σ.length = σ.set p x := by
  have : (σ.set p x).length = σ.length := List.length_set
  rw [← this, List.take_left']
  exact rfl
theorem closedS (hc : closed σ.length σ) (hx : AV.ltL σ.length x.cells) : closed σ.length (σ.set p x ++ l) := fun q o hq ho => by
  rw [List.getElem?_append_left (by simpa using hq)] at ho
  exact closed_set hc hx q o hq ho
theorem ResQ_S (h : resA ts ⟨[], el⟩ = v) (hc : closed σ.length σ) (hx : AV.ltL σ.length x.cells) (hv : v.lt σ.length) (hR : R (.ret v) (σ.set p x)) : ResQ σ.length ts R .ret ⟨[], el⟩ (σ.set p x ++ l) :=
  ⟨rfl, σ.length, Nat.le_refl _, closedS hc hx, by rw [h]; exact hv, by rw [h, takeS]; exact hR⟩
theorem ResQ_S0 (h : resA ts ⟨[], el⟩ = v) (hc : closed σ.length σ) (hx : AV.ltL σ.length x.cells) (hv : v.lt σ.length) (hR : R (.ret v) (σ.set p x)) : ResQ σ.length ts R .ret ⟨[], el⟩ (σ.set p x) := by
  have := ResQ_S (l := []) (p := p) h hc hx hv hR
  simpa using this
end Lg
namespace Lg
open Go Go.RowKit
variable [GLay]
variable {P : Program} {f : FuncId} {args : List AV} {σ l : List AO} {p : Nat} {x y : AO} {v : AV}
end Lg
namespace Lg
open Go Go.RowKit
variable [GLay]
variable {P : Program} {N : Nat} {σ l : List AO} {e : Env} {Q : QA} {p : Nat} {x : AO}
end Lg
namespace Lg
open Go Go.RowKit
variable [GLay]
variable {P : Program} {N : Nat} {σ l τ : List AO} {e : Env} {Q : QA} {p : Nat} {x : AO} {o : Oper}
theorem get_ownT {n : Nat} (h : τ.length = n) (k : Nat) : (τ ++ l)[n + k]? = l[k]? := by
  subst h
  rw [List.getElem?_append_right (by omega)]; congr 1; omega
theorem set_ownT {n : Nat} (h : τ.length = n) (k : Nat) (y : AO) : (τ ++ l).set (n + k) y = τ ++ l.set k y := by
  subst h
  rw [List.set_append_right _ _ (by omega)]; congr 2; omega
theorem op_appendArrT {n0 : Nat} (hτ : τ.length = n0) (k : Nat) {a b : Operand} {t u E : TypeId} {i : TypeInfo} {z : Value} {d : TypeDesc} {sz m gg len : Nat} {cs cs0 : List AV} (ho : o.op = .call { callee := .builtin .append, args := #[a, b], argTypes := #[t, u] })
    (hd : d = .string ∨ ∃ E', d = .slice E') (ht : P.underlying t = some (.slice E)) (hu : P.underlying u = some d) (hi : P.info? E = some i) (hz : i.zero = some z) (hsz : i.size = sz) (hzs : z.cells.size = sz) (hpos : sz ≠ 0)
    (hx : opv e a = .arr (n0 + k) gg sz 0 len) (hk : l[k]? = some (.arr sz gg cs0)) (hend : len * sz = cs0.length) (hy : srcv (τ ++ l) (opv e b) = some (cs, m)) (hys : szv (opv e b) sz) (h1 : ones cs = true)
    (hby : (len + m) * i.bytes ≤ 140737488355328) (h63 : len + m ≤ 9223372036854775807) (hlen : cs.length = m * sz) :
    AOp P (τ ++ l) e o (.arr (n0 + k) (gg + 1) sz 0 (len + m)) (τ ++ l.set k (.arr sz (gg + 1) (cs0 ++ cs))) := by
  have := op_appendArr (P := P) (σ := τ ++ l) ho hd ht hu hi hz hsz hzs hpos hx (by rw [get_ownT hτ]; exact hk) (by rw [Nat.zero_add]; exact hend) hy hys h1 hby h63 hlen
  rw [Nat.zero_mul, List.drop_zero, set_ownT hτ] at this
  exact this
theorem op_appendNewT {n0 n : Nat} (hτ : τ.length = n0) (hn : l.length = n) {a b : Operand} {t u E : TypeId} {i : TypeInfo} {z : Value} {d : TypeDesc} {sz m : Nat} {cs : List AV} (ho : o.op = .call { callee := .builtin .append, args := #[a, b], argTypes := #[t, u] })
    (hd : d = .string ∨ ∃ E', d = .slice E') (ht : P.underlying t = some (.slice E)) (hu : P.underlying u = some d) (hi : P.info? E = some i) (hz : i.zero = some z) (hsz : i.size = sz) (hzs : z.cells.size = sz) (hpos : sz ≠ 0)
    (hx : opv e a = .nils ∨ opv e a = .sl true sz []) (hy : srcv (τ ++ l) (opv e b) = some (cs, m)) (hys : szv (opv e b) sz) (h1 : ones cs = true) (hby : m * i.bytes ≤ 140737488355328) (h63 : m ≤ 9223372036854775807) (hlen : cs.length = m * sz) :
    AOp P (τ ++ l) e o (.arr (n0 + n) 0 sz 0 m) (τ ++ (l ++ [.arr sz 0 cs])) := by
  have := op_appendNew (P := P) (σ := τ ++ l) ho hd ht hu hi hz hsz hzs hpos hx hy hys h1 hby h63 hlen
  rw [List.length_append, hτ, hn, List.append_assoc] at this
  exact this
theorem op_buildSliceArrT {n0 n : Nat} (hτ : τ.length = n0) (hn : l.length = n) {T : TypeId} {len sz : Nat} {parts : Array (Nat × Operand)} {cs : List AV} (ho : o.op = .buildSlice T len parts) (h : AOp P (τ ++ l) e o (.arr (τ ++ l).length 0 sz 0 len) ((τ ++ l) ++ [.arr sz 0 cs])) :
    AOp P (τ ++ l) e o (.arr (n0 + n) 0 sz 0 len) (τ ++ (l ++ [.arr sz 0 cs])) := by
  rw [List.length_append, hτ, hn, List.append_assoc] at h
  exact h
theorem op_buildSlice0 {T E : TypeId} {sz : Nat} (ho : o.op = .buildSlice T 0 #[]) (hu : P.underlying T = some (.slice E)) (hsz : ∀ w, (Go.sizeOf E).run P w = Result.ok sz w) : AOp P σ e o (.sl true sz []) σ := by
  intro s a hs g hv K Q hk _
  subst hs
  obtain ⟨s', e1, e2, g', x', hok⟩ := g.row [] E
  refine wp_value (w' := s'.w) ?_ (hk _ (.slice (some ⟨s.w.heap.size, 0, none⟩) 0 0) s' ⟨rfl, e1⟩ g' x' (.sl0 true sz _))
  rw [e2]
  simp only [execOp, ho, Instr.buildSlice, Sem.run_bind, run_underlying hu, hsz, Result.andThen_ok, Sem.run_ite, Nat.zero_mul, if_true, Sem.run_pure]
  rw [if_neg (by omega)]
  simp [newRow, newObj, Sem.run, Instr.fill]
  congr 2
  exact Array.eq_empty_of_size_eq_zero (by simp)
end Lg
namespace Lg
open Go

structure JNum where
  neg : Bool := false
  digits : ByteArray := ⟨#[]⟩
  exp : Int := 0
inductive JV where
  | mk (kind : Int) (b : Bool) (n : JNum) (s : ByteArray) (l : List JV) (m : List (ByteArray × JV))
def JV.kind : JV → Int | .mk k _ _ _ _ _ => k
def JV.b : JV → Bool | .mk _ b _ _ _ _ => b
def JV.n : JV → JNum | .mk _ _ n _ _ _ => n
def JV.s : JV → ByteArray | .mk _ _ _ s _ _ => s
def JV.l : JV → List JV | .mk _ _ _ _ l _ => l
def JV.m : JV → List (ByteArray × JV) | .mk _ _ _ _ _ m => m

mutual
def vcells : JV → List AV
  | .mk k b n s l m => [.int .i64 k, .bool b, .bool n.neg, .str n.digits, .int .i64 n.exp, .str s, .sl false 8 (lcells l), .sl false 9 (mcells m)]
def lcells : List JV → List (List AV)
  | [] => []
  | v :: r => vcells v :: lcells r
def mcells : List (ByteArray × JV) → List (List AV)
  | [] => []
  | (k, v) :: r => (.str k :: vcells v) :: mcells r
end
theorem lcells_eq : ∀ l : List JV, lcells l = l.map vcells
  | [] => by simp [lcells]
  | v :: r => by simp [lcells, lcells_eq r]
theorem mcells_eq : ∀ l : List (ByteArray × JV), mcells l = l.map fun q => .str q.1 :: vcells q.2
  | [] => by simp [mcells]
  | (k, v) :: r => by simp [mcells, mcells_eq r]
theorem lcells_get {l : List JV} {i : Nat} {v : JV} (h : l[i]? = some v) : (lcells l)[i]? = some (vcells v) := by simp [lcells_eq, h]
theorem mcells_get {l : List (ByteArray × JV)} {i : Nat} {q : ByteArray × JV} (h : l[i]? = some q) : (mcells l)[i]? = some (.str q.1 :: vcells q.2) := by simp [mcells_eq, h]
mutual
theorem vcells_lt (n : Nat) : ∀ v : JV, AV.ltL n (vcells v)
  | .mk k b nn s l m => by
    simp only [vcells, AV.ltL, AV.lt, and_true, true_and]
    exact ⟨lcells_lt n l, mcells_lt n m⟩
theorem lcells_lt (n : Nat) : ∀ l : List JV, AV.ltLL n (lcells l)
  | [] => by simp [lcells, AV.ltLL]
  | v :: r => by simp only [lcells, AV.ltLL]; exact ⟨vcells_lt n v, lcells_lt n r⟩
theorem mcells_lt (n : Nat) : ∀ l : List (ByteArray × JV), AV.ltLL n (mcells l)
  | [] => by simp [mcells, AV.ltLL]
  | (k, v) :: r => by simp only [mcells, AV.ltLL, AV.ltL, AV.lt, true_and]; exact ⟨vcells_lt n v, mcells_lt n r⟩
end
attribute [simp] vcells_lt lcells_lt mcells_lt
mutual
def jsize : JV → Int
  | .mk _ _ _ _ l m => 1 + lsize l + msize m
def lsize : List JV → Int
  | [] => 0
  | v :: r => jsize v + lsize r
def msize : List (ByteArray × JV) → Int
  | [] => 0
  | (_, v) :: r => jsize v + msize r
end
mutual
theorem jsize_pos : ∀ v : JV, 1 ≤ jsize v
  | .mk _ _ _ _ l m => by have := lsize_nn l; have := msize_nn m; simp only [jsize]; omega
theorem lsize_nn : ∀ l : List JV, 0 ≤ lsize l
  | [] => by simp [lsize]
  | v :: r => by have := jsize_pos v; have := lsize_nn r; simp only [lsize]; omega
theorem msize_nn : ∀ l : List (ByteArray × JV), 0 ≤ msize l
  | [] => by simp [msize]
  | (k, v) :: r => by have := jsize_pos v; have := msize_nn r; simp only [msize]; omega
end
end Lg
namespace Lg
open Go

noncomputable def pb (p : Prop) : Bool := @decide p (Classical.propDecidable p)
theorem pb_t {p : Prop} (h : p) : pb p = true := by unfold pb; exact @decide_eq_true p (Classical.propDecidable p) h
theorem pb_f {p : Prop} (h : ¬ p) : pb p = false := by unfold pb; exact @decide_eq_false p (Classical.propDecidable p) h
def JNum.z (n : JNum) : Bool := decide (n.neg = false) && (decide (n.digits = ⟨#[]⟩) && (decide (n.exp = 0) && true))
def jbare (v : JV) : Bool :=
  !(v.b && !decide (v.kind = 1) || !v.n.z && !decide (v.kind = 2) || !decide (v.s = ⟨#[]⟩) && !decide (v.kind = 3)) && ((decide (v.l.length = 0) || decide (v.kind = 4)) && (decide (v.m.length = 0) || decide (v.kind = 5)))
@[simp] theorem lcells_nil (l : List JV) : lcells l = [] ↔ l = [] := by cases l <;> simp [lcells]
@[simp] theorem mcells_nil (l : List (ByteArray × JV)) : mcells l = [] ↔ l = [] := by
  cases l with
  | nil => simp [mcells]
  | cons q r => obtain ⟨k, v⟩ := q; simp [mcells]
def dig (b : ByteArray) (i : Nat) : Prop := 48 ≤ (bat b i).toNat ∧ (bat b i).toNat ≤ 57
def digs (b : ByteArray) (i : Nat) : Prop := ∀ j, j < i → dig b j
def NumMay (n : JNum) : Prop := (n.digits = ⟨#[]⟩ ∧ n.neg = false ∧ n.exp = 0) ∨
  (¬ n.digits = ⟨#[]⟩ ∧ digs n.digits n.digits.size ∧ n.digits.size ≤ 60 ∧ (bat n.digits 0).toNat ≠ 48 ∧ (bat n.digits (n.digits.size - 1)).toNat ≠ 48 ∧ -1000 ≤ n.exp ∧ n.exp ≤ 1000)
end Lg
namespace Lg
open Go
@[simp] theorem brows_lt (n : Nat) (b : ByteArray) : AV.ltLL n (brows b) := by
  unfold brows
  induction b.data.toList with
  | nil => simp [AV.ltLL]
  | cons x l ih => simp [AV.ltLL, AV.ltL, AV.lt, ih]
instance (b : ByteArray) (i : Nat) : Decidable (dig b i) := by unfold dig; exact inferInstance
end Lg
namespace Lg
open Go

mutual
def jb : JV → Prop
  | .mk _ _ n s l m => n.digits.size ≤ 1000000 ∧ s.size ≤ 1000000 ∧ l.length ≤ 1000000 ∧ m.length ≤ 1000000 ∧ lb l ∧ mb m
def lb : List JV → Prop
  | [] => True
  | v :: r => jb v ∧ lb r
def mb : List (ByteArray × JV) → Prop
  | [] => True
  | (k, v) :: r => k.size ≤ 1000000 ∧ jb v ∧ mb r
end
def Utf (s : ByteArray) : Prop := Go.Lib.validD s.data.toList = true
mutual
def jmay : JV → Prop
  | .mk k b n s l m => (0 ≤ k ∧ k ≤ 5 ∧ jbare (.mk k b n s l m) = true ∧ NumMay n ∧ Utf s) ∧ (∀ (i : Nat) (q : ByteArray × JV), m[i]? = some q → Utf q.1 ∧ ∀ q', i ≠ 0 → m[i - 1]? = some q' → blt q'.1 q.1 = true) ∧ lmay l ∧ mmay m
def lmay : List JV → Prop
  | [] => True
  | v :: r => jmay v ∧ lmay r
def mmay : List (ByteArray × JV) → Prop
  | [] => True
  | (k, v) :: r => jmay v ∧ mmay r
end
end Lg
namespace Lg
open Go
theorem bytesLess_asymm : ∀ (a b : List UInt8), Op.bytesLess a b = true → Op.bytesLess b a = false
  | [], [], h => by simp [Op.bytesLess] at h
  | [], _ :: _, _ => by simp [Op.bytesLess]
  | _ :: _, [], h => by simp [Op.bytesLess] at h
  | x :: a, y :: b, h => by
    simp only [Op.bytesLess] at h ⊢
    have ih := bytesLess_asymm a b
    rcases Nat.lt_trichotomy x.toNat y.toNat with h1 | h1 | h1
    · have : ¬ y < x := by simp only [UInt8.lt_iff_toNat_lt]; omega
      have : x < y := by simp only [UInt8.lt_iff_toNat_lt]; omega
      have : ¬ y = x := fun e => by subst e; omega
      simp_all
    · have : x = y := UInt8.toNat_inj.1 h1
      subst this
      simp_all
    · have h2 : ¬ x < y := by simp only [UInt8.lt_iff_toNat_lt]; omega
      have h3 : y < x := by simp only [UInt8.lt_iff_toNat_lt]; omega
      have : ¬ x = y := fun e => by subst e; omega
      simp_all
theorem bytesLess_total : ∀ (a b : List UInt8), Op.bytesLess a b = false → a ≠ b → Op.bytesLess b a = true
  | [], [], _, h => by simp at h
  | [], _ :: _, h, _ => by simp [Op.bytesLess] at h
  | _ :: _, [], _, _ => by simp [Op.bytesLess]
  | x :: a, y :: b, h, hne => by
    simp only [Op.bytesLess] at h ⊢
    have ih := bytesLess_total a b
    rcases Nat.lt_trichotomy x.toNat y.toNat with h1 | h1 | h1
    · have : x < y := by simp only [UInt8.lt_iff_toNat_lt]; omega
      simp_all
    · have : x = y := UInt8.toNat_inj.1 h1
      subst this
      simp_all
    · have h2 : ¬ x < y := by simp only [UInt8.lt_iff_toNat_lt]; omega
      have h3 : y < x := by simp only [UInt8.lt_iff_toNat_lt]; omega
      simp_all
theorem bytesLess_irrefl (a : List UInt8) : Op.bytesLess a a = false := by
  cases h : Op.bytesLess a a with
  | false => rfl
  | true => have := bytesLess_asymm a a h; rw [h] at this; cases this
variable [GLay]
theorem ba_toList_inj {a b : ByteArray} (h : a.toList = b.toList) : a = b := by
  have := ba_beq a b
  rw [h] at this; simpa using this
theorem blt_le {a b : ByteArray} (h : (blt a b || decide (a = b)) = true) : blt b a = false := by
  simp only [Bool.or_eq_true, decide_eq_true_eq] at h
  rcases h with h | h
  · exact bytesLess_asymm _ _ h
  · subst h; exact bytesLess_irrefl _
theorem blt_gt {a b : ByteArray} (h : (blt a b || decide (a = b)) = false) : blt b a = true := by
  simp only [Bool.or_eq_false_iff, decide_eq_false_iff_not] at h
  exact bytesLess_total _ _ h.1 fun e => h.2 (ba_toList_inj e)
end Lg
namespace Lg
open Go Go.RowKit
variable [GLay]
class TU (P : Program) (T : TypeId) (d : outParam TypeDesc) : Prop where
  h : P.underlying T = some d
class TA (P : Program) (T : TypeId) (b : outParam Bool) : Prop where
  h : ∀ w, (isAgg T).run P w = .ok b w
class TZ (P : Program) (T : TypeId) (n : outParam Nat) : Prop where
  h : ∀ w, (Go.sizeOf T).run P w = Result.ok n w
class TV (P : Program) (T : TypeId) (z : outParam Value) : Prop where
  h : ∀ w, (zeroValue T).run P w = Result.ok z w
class TF (P : Program) (k : FuncId) (f : outParam Func) : Prop where
  h : P.funcs[k]? = some f

def lstC {X : Type} : List AV → (List AV → Option X) → Option X
  | [], k => k []
  | c :: cs, k => lstC cs fun r => k (c :: r)
theorem lstC_eq {X : Type} : ∀ {cs : List AV} {k : List AV → Option X}, lstC cs k = k cs
  | [], _ => rfl
  | c :: cs, k => by simp only [lstC]; exact lstC_eq
def tkC {X : Type} : Nat → List AV → (List AV → Option X) → Option X
  | 0, _, k => k []
  | n + 1, c :: cs, k => tkC n cs fun r => k (c :: r)
  | _ + 1, [], _ => none
theorem tkC_eq {X : Type} : ∀ {n : Nat} {cs : List AV} {k : List AV → Option X} {x : X}, tkC n cs k = some x → ∃ ds, tk n cs = some ds ∧ k ds = some x
  | 0, _, k, x, h => ⟨[], rfl, h⟩
  | n + 1, c :: cs, k, x, h => by
    obtain ⟨ds, h1, h2⟩ := tkC_eq (n := n) (cs := cs) h
    exact ⟨c :: ds, by simp [tk, h1], h2⟩
  | n + 1, [], k, x, h => by simp [tkC] at h
def putC {X : Type} : List AV → List AV → (List AV → Option X) → Option X
  | cs, [], k => lstC cs k
  | _ :: cs, n :: ns, k => putC cs ns fun r => k (n :: r)
  | [], _ :: _, _ => none
theorem putC_eq {X : Type} : ∀ {cs ns : List AV} {k : List AV → Option X} {x : X}, putC cs ns k = some x → ∃ ds, putAt cs ns = some ds ∧ k ds = some x
  | cs, [], k, x, h => ⟨cs, by simp [putAt], by simp only [putC, lstC_eq] at h; exact h⟩
  | _ :: cs, n :: ns, k, x, h => by
    obtain ⟨ds, h1, h2⟩ := putC_eq (cs := cs) (ns := ns) h
    exact ⟨n :: ds, by simp [putAt, h1], h2⟩
  | [], _ :: _, k, x, h => by simp [putC] at h
def splC {X : Type} : Nat → List AV → List AV → (List AV → Option X) → Option X
  | 0, cs, ns, k => putC cs ns k
  | j + 1, c :: cs, ns, k => splC j cs ns fun r => k (c :: r)
  | _ + 1, [], _, _ => none
theorem splC_eq {X : Type} : ∀ {j : Nat} {cs ns : List AV} {k : List AV → Option X} {x : X}, splC j cs ns k = some x → ∃ ds, spl j cs ns = some ds ∧ k ds = some x
  | 0, cs, ns, k, x, h => by simp only [splC] at h; obtain ⟨ds, h1, h2⟩ := putC_eq h; exact ⟨ds, by simp only [spl]; exact h1, h2⟩
  | j + 1, c :: cs, ns, k, x, h => by
    obtain ⟨ds, h1, h2⟩ := splC_eq (j := j) (cs := cs) (ns := ns) h
    exact ⟨c :: ds, by simp [spl, h1], h2⟩
  | _ + 1, [], _, k, x, h => by simp [splC] at h
def cstC {X : Type} : List Value → (List AV → Option X) → Option X
  | [], k => k []
  | .bool b :: r, k => cstC r fun l => k (.bool b :: l)
  | .int q n :: r, k => cstC r fun l => k (.int q n :: l)
  | .string s :: r, k => cstC r fun l => k (.str s :: l)
  | .pointer none :: r, k => cstC r fun l => k (.nilp :: l)
  | .slice none 0 0 :: r, k => cstC r fun l => k (.nils :: l)
  | .map none :: r, k => cstC r fun l => k (.nilm :: l)
  | .nilFunc :: r, k => cstC r fun l => k (.nilf :: l)
  | .nilIface :: r, k => cstC r fun l => k (.nili :: l)
  | _ :: _, _ => none
theorem cstC_eq {X : Type} : ∀ {l : List Value} {k : List AV → Option X} {x : X}, cstC l k = some x → k (l.map ofConst1) = some x := by
  intro l
  induction l with
  | nil => intro k x h; simpa [cstC] using h
  | cons a r ih =>
    intro k x h
    unfold cstC at h
    split at h <;> first | (rename_i e; simp at e; done) | (rename_i e; cases e; exact ih h) | (cases h) | skip
    all_goals (rename_i e; first | (obtain ⟨rfl, rfl⟩ := List.cons.inj e; exact ih h) | cases e)
variable {P : Program} {N : Nat} {σ l : List AO} {e : Env} {Q : QA} {ops : Array Oper} {o : Oper} {p : Nat} {x : AO}
theorem ldC_own {k off n : Nat} {cs r : List AV} (h : l[k]? = some (.box cs)) (hr : tkC n (cs.drop off) some = some r) : ldv (σ ++ l) n (.ptr (σ.length + k) off) = some r := by
  obtain ⟨ds, h1, h2⟩ := tkC_eq hr; cases h2; exact ldv_own h h1
theorem ldC_pp {n : Nat} {cs r : List AV} (hr : tkC n cs some = some r) : ldv σ n (.pp cs) = some r := by
  obtain ⟨ds, h1, h2⟩ := tkC_eq hr; cases h2; exact ldv_pp h1
theorem ldC_old {p off n : Nat} {cs r : List AV} (h : σ[p]? = some (.box cs)) (hr : tkC n (cs.drop off) some = some r) : ldv (σ ++ l) n (.ptr p off) = some r := by
  obtain ⟨ds, h1, h2⟩ := tkC_eq hr; cases h2; exact ldv_old h h1
theorem ldC_ptr {p off n : Nat} {cs r : List AV} (h : σ[p]? = some (.box cs)) (hr : tkC n (cs.drop off) some = some r) : ldv σ n (.ptr p off) = some r := by
  obtain ⟨ds, h1, h2⟩ := tkC_eq hr; cases h2; exact ldv_ptr h h1
theorem ldC_set {off n : Nat} {cs r : List AV} (h : p < σ.length) (hr : tkC n (cs.drop off) some = some r) : ldv (σ.set p (.box cs)) n (.ptr p off) = some r := by
  obtain ⟨ds, h1, h2⟩ := tkC_eq hr; cases h2; exact ldv_set h h1
theorem ldC_setA {off n : Nat} {cs r : List AV} (h : p < σ.length) (hr : tkC n (cs.drop off) some = some r) : ldv (σ.set p (.box cs) ++ l) n (.ptr p off) = some r := by
  obtain ⟨ds, h1, h2⟩ := tkC_eq hr; cases h2; exact ldv_setA h h1
theorem ldC_ownS {k off n : Nat} {cs r : List AV} (h : l[k]? = some (.box cs)) (hr : tkC n (cs.drop off) some = some r) : ldv (σ.set p x ++ l) n (.ptr (σ.length + k) off) = some r := by
  obtain ⟨ds, h1, h2⟩ := tkC_eq hr; cases h2; exact ldv_ownS h h1
def fldO : List Field → Nat → Option (TypeId × Nat)
  | [], _ => none
  | f :: _, 0 => match f with | { type := t, offset := o, .. } => some (t, o)
  | _ :: fs, n + 1 => fldO fs n
theorem fldO_eq : ∀ {fs : List Field} {n : Nat} {t : TypeId} {fo : Nat}, fldO fs n = some (t, fo) → ∃ fd, fs[n]? = some fd ∧ fd.type = t ∧ fd.offset = fo
  | [], _, _, _, h => by simp [fldO] at h
  | f :: _, 0, t, fo, h => by
    obtain ⟨⟩ := f
    simp only [fldO, Option.some.injEq, Prod.mk.injEq] at h
    exact ⟨_, rfl, h.1, h.2⟩
  | _ :: fs, n + 1, t, fo, h => by
    obtain ⟨fd, h1, h2⟩ := fldO_eq (fs := fs) (n := n) (by simpa [fldO] using h)
    exact ⟨fd, by simpa using h1, h2⟩
def getC : List AV → Nat → Option AV
  | [], _ => none
  | c :: _, 0 => some c
  | _ :: cs, n + 1 => getC cs n
theorem getC_eq : ∀ {cs : List AV} {n : Nat} {v : AV}, getC cs n = some v → cs[n]? = some v
  | [], _, _, h => by simp [getC] at h
  | c :: _, 0, v, h => by simpa [getC] using h
  | _ :: cs, n + 1, v, h => by simpa using getC_eq (cs := cs) (n := n) (by simpa [getC] using h)
section
variable {T : TypeId} {a b : Operand}
theorem z_fa {f n fo t : Nat} {fs : Array Field} {u v : AV} (ho : o.op = .fieldAddr T a f) (hu : P.underlying T = some (.struct fs)) (hf : fldO fs.toList f = some (t, fo)) (hz : ∀ w, (Go.sizeOf t).run P w = Result.ok n w)
    (hn : Nat.beq n 0 = false) (hu' : opO e a = some u) (hx : offv fo u = some v) (hfr : fresh σ u) : AOp P σ e o v σ := by
  have := opO_eq hu'; subst this
  obtain ⟨fd, h1, h2, h3⟩ := fldO_eq hf
  exact op_fieldAddrO ho hu (by rw [← h1]; simp) h3 (by rw [h2]; exact hz) (Nat.ne_of_beq_eq_false hn) hx hfr
theorem z_f1 {f t fo : Nat} {fs : Array Field} {cs : List AV} {v : AV} (ho : o.op = .field T a f) (hu : P.underlying T = some (.struct fs)) (hf : fldO fs.toList f = some (t, fo)) (ha : ∀ w, (isAgg t).run P w = .ok false w)
    (hx : opO e a = some (.agg cs)) (hv : getC cs fo = some v) : AOp P σ e o v σ := by
  obtain ⟨fd, h1, h2, h3⟩ := fldO_eq hf
  exact op_field1 ho hu (by rw [← h1]; simp) (by rw [h2]; exact ha) (opO_eq hx) (by rw [h3]; exact getC_eq hv)
theorem z_fK {f t n fo : Nat} {fs : Array Field} {cs r : List AV} (ho : o.op = .field T a f) (hu : P.underlying T = some (.struct fs)) (hf : fldO fs.toList f = some (t, fo)) (ha : ∀ w, (isAgg t).run P w = .ok true w) (hz : ∀ w, (Go.sizeOf t).run P w = Result.ok n w)
    (hx : opO e a = some (.agg cs)) (hr : tkC n (cs.drop fo) some = some r) : AOp P σ e o (.agg r) σ := by
  obtain ⟨fd, h1, h2, h3⟩ := fldO_eq hf
  obtain ⟨ds, h4, h5⟩ := tkC_eq hr; cases h5
  have := (tk_eq h4).1; subst this
  have := op_fieldK (P := P) (σ := σ) ho hu (by rw [← h1]; simp) (by rw [h2]; exact ha) (by rw [h2]; exact hz) (opO_eq hx)
  rwa [h3] at this
theorem z_ls {c : Array TypeId} {b : ByteArray} (ho : o.op = .call { callee := .builtin .len, args := #[a], argTypes := c }) (hc : c.toList = [T]) (hu : P.underlying T = some .string) (hx : opO e a = some (.str b)) : AOp P σ e o (.int .i64 b.size) σ :=
  op_lenStr ho (by rw [← Array.getElem?_toList, hc]; rfl) hu (opO_eq hx)
theorem z_le {c : Array TypeId} {E : TypeId} {u : AV} {n : Int} (ho : o.op = .call { callee := .builtin .len, args := #[a], argTypes := c }) (hc : c.toList = [T]) (hu : P.underlying T = some (.slice E)) (hv : opO e a = some u) (hx : lenv u = some n) (hns : isStr u = false) (hfr : fresh σ u) : AOp P σ e o (.int .i64 n) σ := by
  have := opO_eq hv; subst this
  exact op_lenS ho (by rw [← Array.getElem?_toList, hc]; rfl) hu hx hns hfr
theorem z_so {n k off : Nat} {v : AV} {cs r : List AV} (ho : o.op = .store T a b) (hz : ∀ w, (Go.sizeOf T).run P w = Result.ok n w) (hv : opO e b = some v) (hn : Nat.beq v.cells.length n = true) (h1 : ones v.cells = true)
    (hx : opO e a = some (.ptr (σ.length + k) off)) (hl : l[k]? = some (.box cs)) (hr : splC off cs v.cells some = some r) (hn0 : Nat.beq n 0 = false) : AOp P (σ ++ l) e o .any (σ ++ l.set k (.box r)) := by
  have := opO_eq hv; subst this
  obtain ⟨ds, h2, h3⟩ := splC_eq hr; cases h3
  exact op_storeO ho hz (Nat.eq_of_beq_eq_true hn) h1 (opO_eq hx) hl h2 (Nat.ne_of_beq_eq_false hn0)
theorem z_sp {n q off : Nat} {v : AV} {cs r : List AV} (ho : o.op = .store T a b) (hz : ∀ w, (Go.sizeOf T).run P w = Result.ok n w) (hv : opO e b = some v) (hn : Nat.beq v.cells.length n = true) (h1 : ones v.cells = true)
    (hx : opO e a = some (.ptr q off)) (hl : σ[q]? = some (.box cs)) (hr : splC off cs v.cells some = some r) (hn0 : Nat.beq n 0 = false) : AOp P σ e o .any (σ.set q (.box r)) := by
  have := opO_eq hv; subst this
  obtain ⟨ds, h2, h3⟩ := splC_eq hr; cases h3
  exact op_storeP ho hz (Nat.eq_of_beq_eq_true hn) h1 (opO_eq hx) hl h2 (Nat.ne_of_beq_eq_false hn0)
theorem z_ss {n off : Nat} {v : AV} {cs r : List AV} (ho : o.op = .store T a b) (hz : ∀ w, (Go.sizeOf T).run P w = Result.ok n w) (hv : opO e b = some v) (hn : Nat.beq v.cells.length n = true) (h1 : ones v.cells = true)
    (hx : opO e a = some (.ptr p off)) (hp : p < σ.length) (hr : splC off cs v.cells some = some r) (hn0 : Nat.beq n 0 = false) : AOp P (σ.set p (.box cs)) e o .any (σ.set p (.box r)) := by
  have := opO_eq hv; subst this
  obtain ⟨ds, h2, h3⟩ := splC_eq hr; cases h3
  exact op_storeS ho hz (Nat.eq_of_beq_eq_true hn) h1 (opO_eq hx) hp h2 (Nat.ne_of_beq_eq_false hn0)
theorem z_ssA {n off : Nat} {v : AV} {cs r : List AV} (ho : o.op = .store T a b) (hz : ∀ w, (Go.sizeOf T).run P w = Result.ok n w) (hv : opO e b = some v) (hn : Nat.beq v.cells.length n = true) (h1 : ones v.cells = true)
    (hx : opO e a = some (.ptr p off)) (hp : p < σ.length) (hr : splC off cs v.cells some = some r) (hn0 : Nat.beq n 0 = false) : AOp P (σ.set p (.box cs) ++ l) e o .any (σ.set p (.box r) ++ l) := by
  have := opO_eq hv; subst this
  obtain ⟨ds, h2, h3⟩ := splC_eq hr; cases h3
  exact op_storeSA ho hz (Nat.eq_of_beq_eq_true hn) h1 (opO_eq hx) hp h2 (Nat.ne_of_beq_eq_false hn0)
theorem z_sos {n k off : Nat} {v : AV} {cs r : List AV} (ho : o.op = .store T a b) (hz : ∀ w, (Go.sizeOf T).run P w = Result.ok n w) (hv : opO e b = some v) (hn : Nat.beq v.cells.length n = true) (h1 : ones v.cells = true)
    (hx : opO e a = some (.ptr (σ.length + k) off)) (hl : l[k]? = some (.box cs)) (hr : splC off cs v.cells some = some r) (hn0 : Nat.beq n 0 = false) : AOp P (σ.set p x ++ l) e o .any (σ.set p x ++ l.set k (.box r)) := by
  have := opO_eq hv; subst this
  obtain ⟨ds, h2, h3⟩ := splC_eq hr; cases h3
  exact op_storeOS ho hz (Nat.eq_of_beq_eq_true hn) h1 (opO_eq hx) hl h2 (Nat.ne_of_beq_eq_false hn0)
theorem z_b0 {v : AV} {cs : List AV} (ho : o.op = .box T a) (hv : opO e a = some v) (hc : lstC v.cells some = some cs) (h1 : ones cs = true) : AOp P σ e o (.ptr (σ.length + 0) 0) (σ ++ [.box cs]) := by
  have := opO_eq hv; subst this
  rw [lstC_eq] at hc; cases hc; exact op_box0 ho rfl h1
theorem z_bO {n : Nat} {v : AV} {cs : List AV} (ho : o.op = .box T a) (hv : opO e a = some v) (hc : lstC v.cells some = some cs) (h1 : ones cs = true) (hn : l.length = n) : AOp P (σ ++ l) e o (.ptr (σ.length + n) 0) (σ ++ (l ++ [.box cs])) := by
  have := opO_eq hv; subst this
  rw [lstC_eq] at hc; cases hc; exact op_boxO n hn ho rfl h1
theorem z_a0 {z : Value} {cs : List AV} (ho : o.op = .alloc T) (hz : ∀ w, (zeroValue T).run P w = Result.ok z w) (hc : cstC z.cells.toList some = some cs) : AOp P σ e o (.ptr (σ.length + 0) 0) (σ ++ [.box cs]) := by
  have := cstC_eq hc; cases this; exact op_alloc0 ho hz rfl
theorem z_aO {n : Nat} {z : Value} {cs : List AV} (ho : o.op = .alloc T) (hz : ∀ w, (zeroValue T).run P w = Result.ok z w) (hc : cstC z.cells.toList some = some cs) (hn : l.length = n) : AOp P (σ ++ l) e o (.ptr (σ.length + n) 0) (σ ++ (l ++ [.box cs])) := by
  have := cstC_eq hc; cases this; exact op_allocO n hn ho hz rfl
theorem z_bS0 {v : AV} {cs : List AV} (ho : o.op = .box T a) (hv : opO e a = some v) (hc : lstC v.cells some = some cs) (h1 : ones cs = true) : AOp P (σ.set p x) e o (.ptr (σ.length + 0) 0) (σ.set p x ++ [.box cs]) := by
  have := opO_eq hv; subst this
  rw [lstC_eq] at hc; cases hc; exact op_boxS0 ho rfl h1
theorem z_bS {n : Nat} {v : AV} {cs : List AV} (ho : o.op = .box T a) (hv : opO e a = some v) (hc : lstC v.cells some = some cs) (h1 : ones cs = true) (hn : l.length = n) : AOp P (σ.set p x ++ l) e o (.ptr (σ.length + n) 0) (σ.set p x ++ (l ++ [.box cs])) := by
  have := opO_eq hv; subst this
  rw [lstC_eq] at hc; cases hc; exact op_boxS n hn ho rfl h1
theorem z_aS0 {z : Value} {cs : List AV} (ho : o.op = .alloc T) (hz : ∀ w, (zeroValue T).run P w = Result.ok z w) (hc : cstC z.cells.toList some = some cs) : AOp P (σ.set p x) e o (.ptr (σ.length + 0) 0) (σ.set p x ++ [.box cs]) := by
  have := cstC_eq hc; cases this; exact op_allocS0 ho hz rfl
theorem z_aS {n : Nat} {z : Value} {cs : List AV} (ho : o.op = .alloc T) (hz : ∀ w, (zeroValue T).run P w = Result.ok z w) (hc : cstC z.cells.toList some = some cs) (hn : l.length = n) : AOp P (σ.set p x ++ l) e o (.ptr (σ.length + n) 0) (σ.set p x ++ (l ++ [.box cs])) := by
  have := cstC_eq hc; cases this; exact op_allocS n hn ho hz rfl
end
end Lg
namespace Lg
open Go Go.RowKit
variable [GLay]
class TN (P : Program) (k : FuncId) : Prop where
  h : ∃ fn, P.funcs[k]? = some fn ∧ (fn.name == "runtime.NumGoroutine") = false ∧ fn.body.isNone = false
class TB (P : Program) (T : TypeId) (z : outParam Value) (pls : outParam (List (Nat × Nat))) : Prop where
  h : ∃ fs, P.underlying T = some (.struct fs) ∧ (∀ w, (zeroValue T).run P w = Result.ok z w) ∧ Places P fs.toList pls
variable {P : Program} {N : Nat} {σ l : List AO} {e : Env} {Q : QA} {ops : Array Oper} {o : Oper} {p : Nat} {x : AO}
def stO (N : Nat) (o : Oper) : Option Nat :=
  match o.guard with
  | none => o.dst.bind fun d => bif Nat.blt d N then some d else none
  | some _ => none
theorem stO_eq {d : Nat} (h : stO N o = some d) : o.guard = none ∧ o.dst = some d ∧ Nat.blt d N = true := by
  unfold stO at h
  split at h
  · rename_i hg
    cases hd : o.dst with
    | none => rw [hd] at h; cases h
    | some t =>
      rw [hd] at h
      cases hb : Nat.blt t N with
      | false => simp [hb] at h
      | true => simp [hb] at h; subst h; exact ⟨hg, rfl, hb⟩
  · cases h
def gO (N : Nat) (ops : Array Oper) (el : List (Nat × AV)) (o : Oper) : Option (AV × Bool × Nat) :=
  match o.guard with
  | some (j, want) => (ops[j]?).bind fun oj => oj.dst.bind fun d => bif Nat.blt d N then (lookO el d).bind fun v => o.dst.bind fun t => bif Nat.blt t N then some (v, want, t) else none else none
  | none => none
theorem gO_eq {el : List (Nat × AV)} {v : AV} {want : Bool} {t : Nat} (h : gO N ops el o = some (v, want, t)) :
    ∃ j d, o.guard = some (j, want) ∧ (ops[j]?).bind (·.dst) = some d ∧ Nat.blt d N = true ∧ lookO el d = some v ∧ o.dst = some t ∧ Nat.blt t N = true := by
  unfold gO at h
  split at h
  · rename_i j w hg
    cases h1 : ops[j]? with
    | none => rw [h1] at h; cases h
    | some oj =>
      rw [h1] at h; simp only [Option.bind_some] at h
      cases h2 : oj.dst with
      | none => rw [h2] at h; cases h
      | some d =>
        rw [h2] at h; simp only [Option.bind_some] at h
        cases h3 : Nat.blt d N with
        | false => simp [h3] at h
        | true =>
          simp only [h3, cond_true] at h
          cases h4 : lookO el d with
          | none => rw [h4] at h; cases h
          | some u =>
            rw [h4] at h; simp only [Option.bind_some] at h
            cases h5 : o.dst with
            | none => rw [h5] at h; cases h
            | some t' =>
              rw [h5] at h; simp only [Option.bind_some] at h
              cases h6 : Nat.blt t' N with
              | false => simp [h6] at h
              | true =>
                simp only [h6, cond_true, Option.some.injEq, Prod.mk.injEq] at h
                obtain ⟨rfl, rfl, rfl⟩ := h
                exact ⟨j, d, hg, by rw [h1]; exact h2, h3, h4, rfl, h6⟩
  · cases h
def onO (want : Bool) : AV → Bool
  | .bool b => b == want
  | _ => false
def offO (want : Bool) : AV → Bool
  | .bool b => b == !want
  | .tup [] => true
  | _ => false
theorem onO_eq {want : Bool} {v : AV} (h : onO want v = true) : v = .bool want := by
  cases v <;> simp_all [onO]
theorem offO_eq {want : Bool} {v : AV} (h : offO want v = true) : v = .bool (!want) ∨ v = .tup [] := by
  unfold offO at h; split at h <;> simp_all
variable {D : List (FuncId × List AV)} {el : List (Nat × AV)} {rest : List Oper}
theorem zt {v : AV} {σ' : List AO} {d : Nat} (h0 : stO N o = some d) (h : AOp P σ ⟨D, el⟩ o v σ') (k : AOps P N ops rest ⟨D, (d, v) :: el⟩ σ' Q) : AOps P N ops (o :: rest) ⟨D, el⟩ σ Q :=
  have ⟨h1, h2, h3⟩ := stO_eq h0
  st h1 h2 h3 h k
theorem ztN {v : AV} {σ' : List AO} (hg : o.guard = none) (hd : o.dst = none) (h : AOp P σ e o v σ') (k : AOps P N ops rest e σ' Q) : AOps P N ops (o :: rest) e σ Q := stN hg hd h k
theorem ztG {v u : AV} {σ' : List AO} {d : Nat} {want : Bool} (h0 : gO N ops el o = some (u, want, d)) (h1 : onO want u = true) (h : AOp P σ ⟨D, el⟩ o v σ') (k : AOps P N ops rest ⟨D, (d, v) :: el⟩ σ' Q) : AOps P N ops (o :: rest) ⟨D, el⟩ σ Q := by
  obtain ⟨j, d', a1, a2, a3, a4, a5, a6⟩ := gO_eq h0
  have := onO_eq h1; subst this
  exact stG a1 a2 a3 a4 a5 a6 h k
theorem ztS {u : AV} {d : Nat} {want : Bool} (h0 : gO N ops el o = some (u, want, d)) (h1 : offO want u = true) (k : AOps P N ops rest ⟨D, (d, .tup []) :: el⟩ σ Q) : AOps P N ops (o :: rest) ⟨D, el⟩ σ Q := by
  obtain ⟨j, d', a1, a2, a3, a4, a5, a6⟩ := gO_eq h0
  exact stS a1 a2 a3 (by rcases offO_eq h1 with e | e <;> subst e; exact .inl a4; exact .inr a4) a5 a6 k
section drawn
def nthO : List Oper → Nat → Option Oper
  | [], _ => none
  | o :: _, 0 => some o
  | _ :: r, n + 1 => nthO r n
theorem nthO_eq : ∀ {l : List Oper} {n : Nat} {o : Oper}, nthO l n = some o → l[n]? = some o
  | [], _, _, h => by simp [nthO] at h
  | c :: _, 0, v, h => by simpa [nthO] using h
  | _ :: cs, n + 1, v, h => by simpa using nthO_eq (l := cs) (n := n) (by simpa [nthO] using h)
theorem nthA {ops : Array Oper} {n : Nat} {o : Oper} (h : nthO ops.toList n = some o) : ops[n]? = some o := by rw [← nthO_eq h]; simp
variable {tb : Array Nat} {QR : Env → List AO → Prop} {X : AV → List AO → Prop} {i : Nat} {past : List (Nat × List AO)} {held : List (Nat × (List AO → Prop))}
theorem yA {v : AV} {d : Nat} (ho : nthO ops.toList i = some o) (h0 : stO N o = some d) (h : ∀ σ, AOp P σ ⟨D, el⟩ o v σ) (k : RP P N ops tb QR X (i + 1) ⟨D, (d, v) :: el⟩ σ past held) : RP P N ops tb QR X i ⟨D, el⟩ σ past held :=
  have ⟨h1, h2, h3⟩ := stO_eq h0
  rA (nthA ho) h1 h2 h3 h k
theorem yAG {v u : AV} {d : Nat} {want : Bool} (ho : nthO ops.toList i = some o) (h0 : gO N ops el o = some (u, want, d)) (h1 : onO want u = true) (h : ∀ σ, AOp P σ ⟨D, el⟩ o v σ) (k : RP P N ops tb QR X (i + 1) ⟨D, (d, v) :: el⟩ σ past held) : RP P N ops tb QR X i ⟨D, el⟩ σ past held := by
  obtain ⟨j, d', a1, a2, a3, a4, a5, a6⟩ := gO_eq h0
  have := onO_eq h1; subst this
  exact rAG (nthA ho) a1 a2 a3 a4 a5 a6 h k
theorem yS {u : AV} {d : Nat} {want : Bool} (ho : nthO ops.toList i = some o) (h0 : gO N ops el o = some (u, want, d)) (h1 : offO want u = true) (k : RP P N ops tb QR X (i + 1) ⟨D, (d, .tup []) :: el⟩ σ past held) : RP P N ops tb QR X i ⟨D, el⟩ σ past held := by
  obtain ⟨j, d', a1, a2, a3, a4, a5, a6⟩ := gO_eq h0
  exact rS (nthA ho) a1 a2 a3 (by rcases offO_eq h1 with e | e <;> subst e; exact .inl a4; exact .inr a4) a5 a6 k
theorem yP {v : AV} {d : Nat} (ho : nthO ops.toList i = some o) (h0 : stO N o = some d) (h : AOp P σ ⟨D, el⟩ o v σ) (hp : PastOK P tb i ⟨D, el⟩ o v past) (k : RP P N ops tb QR X (i + 1) ⟨D, (d, v) :: el⟩ σ past ((i, fun σ' => AOp P σ' ⟨D, el⟩ o v σ') :: held)) : RP P N ops tb QR X i ⟨D, el⟩ σ past held :=
  have ⟨h1, h2, h3⟩ := stO_eq h0
  rP (nthA ho) h1 h2 h3 h hp k
theorem yPG {v u : AV} {d : Nat} {want : Bool} (ho : nthO ops.toList i = some o) (h0 : gO N ops el o = some (u, want, d)) (h1 : onO want u = true) (h : AOp P σ ⟨D, el⟩ o v σ) (hp : PastOK P tb i ⟨D, el⟩ o v past) (k : RP P N ops tb QR X (i + 1) ⟨D, (d, v) :: el⟩ σ past ((i, fun σ' => AOp P σ' ⟨D, el⟩ o v σ') :: held)) : RP P N ops tb QR X i ⟨D, el⟩ σ past held := by
  obtain ⟨j, d', a1, a2, a3, a4, a5, a6⟩ := gO_eq h0
  have := onO_eq h1; subst this
  exact rPG (nthA ho) a1 a2 a3 a4 a5 a6 h hp k
theorem yE {v : AV} {d : Nat} {σ' : List AO} (ho : nthO ops.toList i = some o) (h0 : stO N o = some d) (h : AOp P σ ⟨D, el⟩ o v σ') (hh : HeldOK tb i σ' held) (hc : ChainOK tb i past) (k : RP P N ops tb QR X (i + 1) ⟨D, (d, v) :: el⟩ σ' ((i, σ) :: past) held) : RP P N ops tb QR X i ⟨D, el⟩ σ past held :=
  have ⟨h1, h2, h3⟩ := stO_eq h0
  rE (nthA ho) h1 h2 h3 h hh hc k
end drawn
def mapO {X : Type} (e : Env) : List Operand → (List AV → Option X) → Option X
  | [], k => k []
  | a :: r, k => (opO e a).bind fun v => mapO e r fun l => k (v :: l)
theorem mapO_eq {X : Type} : ∀ {l : List Operand} {k : List AV → Option X} {y : X}, mapO e l k = some y → k (l.map (opv e)) = some y
  | [], k, y, h => h
  | a :: r, k, y, h => by
    simp only [mapO] at h
    cases ha : opO e a with
    | none => rw [ha] at h; cases h
    | some v =>
      rw [ha] at h; simp only [Option.bind_some] at h
      have := mapO_eq (l := r) h
      simp only [List.map_cons, opO_eq ha]; exact this
def callK (e : Env) (args : List Operand) : AV → Option (FuncId × List AV)
  | .func (.func k) fs cs => mapO e args fun avs => some (k, fs ++ avs ++ cs)
  | _ => none
def caO (e : Env) (o : Oper) : Option (FuncId × List AV) :=
  match o.op with
  | .call c => match c.callee with
    | .value f => (opO e f).bind fun fv => callK e c.args.toList fv
    | _ => none
  | _ => none
theorem caO_eq {k : FuncId} {avs : List AV} (h : caO e o = some (k, avs)) :
    ∃ c : Operand, ∃ ar T fs cs, o.op = .call { callee := .value c, args := ar, argTypes := T } ∧ opv e c = .func (.func k) fs cs ∧ avs = fs ++ ar.toList.map (opv e) ++ cs := by
  unfold caO at h
  split at h
  · rename_i c hc
    split at h
    · rename_i f hf
      cases hv : opO e f with
      | none => rw [hv] at h; cases h
      | some fv =>
        rw [hv] at h; simp only [Option.bind_some] at h
        unfold callK at h
        split at h
        · rename_i k' fs cs
          have := mapO_eq h
          simp only [Option.some.injEq, Prod.mk.injEq] at this
          obtain ⟨rfl, rfl⟩ := this
          obtain ⟨ce, ar, T⟩ := c
          simp only at hf; subst hf
          exact ⟨f, ar, T, fs, cs, hc, opO_eq hv, rfl⟩
        · cases h
    · cases h
  · cases h
theorem zc {k : FuncId} {avs : List AV} {v : AV} {σ' : List AO} [hn : TN P k] (h0 : caO e o = some (k, avs)) (h : ACalls P k avs σ (Ret v σ')) : AOp P σ e o v σ' := by
  obtain ⟨c, ar, T, fs, cs, h1, h2, h3⟩ := caO_eq h0
  subst h3
  obtain ⟨fn, a1, a2, a3⟩ := hn.h
  exact op_callF h1 h2 rfl a1 a2 a3 h
theorem ztR {Nn X : AV → List AO → Prop} {d : Nat} (h0 : stO N o = some d) (h : AOpR P σ ⟨D, el⟩ o Nn X)
    (k : ∀ v σ', Nn v σ' → AOps P N ops rest ⟨D, (d, v) :: el⟩ σ' Q) (kx : ∀ v σ', X v σ' → Q (.pan v) ⟨D, el⟩ σ') : AOps P N ops (o :: rest) ⟨D, el⟩ σ Q :=
  have ⟨h1, h2, h3⟩ := stO_eq h0
  stR h1 h2 h3 h k kx
def bldC {X : Type} (pls : List (Nat × Nat)) (cs : List AV) (e : Env) : List (Nat × Operand) → (List AV → Option X) → Option X
  | [], k => lstC cs k
  | (i, a) :: r, k => (pls[i]?).bind fun q => (opO e a).bind fun v => bif ones v.cells && Nat.beq v.cells.length q.2 then splC q.1 cs v.cells fun ds => bldC pls ds e r k else none
theorem bldC_eq {X : Type} {pls : List (Nat × Nat)} : ∀ {parts : List (Nat × Operand)} {cs : List AV} {k : List AV → Option X} {y : X}, bldC pls cs e parts k = some y →
    ∃ ds, bld (fun i : Nat => (pls[i]?).map (·.1)) cs e parts = some ds ∧ k ds = some y ∧ (parts.all fun q => ones (opv e q.2).cells && (opv e q.2).cells.length == ((pls[q.1]?).map (·.2)).getD 0) = true
  | [], cs, k, y, h => ⟨cs, rfl, by simp only [bldC, lstC_eq] at h; exact h, rfl⟩
  | (i, a) :: r, cs, k, y, h => by
    simp only [bldC] at h
    cases h1 : pls[i]? with
    | none => rw [h1] at h; cases h
    | some q =>
      rw [h1] at h; simp only [Option.bind_some] at h
      cases h2 : opO e a with
      | none => rw [h2] at h; cases h
      | some v =>
        rw [h2] at h; simp only [Option.bind_some] at h
        have hv := opO_eq h2; subst hv
        cases h3 : (ones (opv e a).cells && Nat.beq (opv e a).cells.length q.2) with
        | false => rw [h3] at h; cases h
        | true =>
          rw [h3] at h; simp only [cond_true] at h
          obtain ⟨ds, h4, h5⟩ := splC_eq h
          obtain ⟨ds', h6, h7, h8⟩ := bldC_eq (parts := r) h5
          simp only [Bool.and_eq_true] at h3
          refine ⟨ds', ?_, h7, ?_⟩
          · simp only [bld, h1, Option.map_some, h4]; exact h6
          · simp only [List.all_cons, h1, Option.map_some, Option.getD_some, h3.1, Nat.eq_of_beq_eq_true h3.2, Bool.true_and, beq_self_eq_true]; exact h8
theorem z_bu {T : TypeId} {parts : Array (Nat × Operand)} {z : Value} {pls : List (Nat × Nat)} {zs cs : List AV} (ho : o.op = .build T parts) (hT : ∃ fs, P.underlying T = some (.struct fs) ∧ (∀ w, (zeroValue T).run P w = Result.ok z w) ∧ Places P fs.toList pls) (hz : cstC z.cells.toList some = some zs)
    (hb : bldC pls zs e parts.toList some = some cs) : AOp P σ e o (.agg cs) σ := by
  obtain ⟨fs, h1, h2, h3⟩ := hT
  have := cstC_eq hz; cases this
  obtain ⟨ds, h4, h5, h6⟩ := bldC_eq hb
  cases h5
  exact op_buildP pls ho h1 h2 h3 h6 h4
section
variable {S T E : TypeId} {a b : Operand}
theorem z_ci {dS : TypeDesc} {k k' : IntKind} {n : Int} (ho : o.op = .convert S T a) (hS : P.underlying S = some dS) (hT : P.underlying T = some (.int k')) (hx : opO e a = some (.int k n)) (hn : k'.wrap n = n) : AOp P σ e o (.int k' n) σ :=
  op_convIn ho (by rw [hS]; rfl) hT (opO_eq hx) hn
theorem z_mi {v : AV} {d : TypeDesc} (ho : o.op = .makeInterface T a) (hT : P.underlying T = some d) (hd : ∀ ms, d ≠ .interface ms) (hx : opO e a = some v) : AOp P σ e o (.iface T v) σ := op_makeInterface ho hT hd (opO_eq hx)
end
end Lg
namespace Lg
open Go Go.RowKit
variable [GLay]
variable {P : Program} {N : Nat} {σ l : List AO} {e : Env} {Q : QA} {ops : Array Oper} {o : Oper} {rest : List Oper} {D : List (FuncId × List AV)} {el : List (Nat × AV)}
def mkv : Bool → List AV → Option AV
  | true, cs => some (.agg cs)
  | false, [c] => some c
  | false, _ => none
theorem ldv_len {n : Nat} {a : AV} {cs : List AV} (h : ldv σ n a = some cs) : cs.length = n := by
  unfold ldv at h
  split at h
  · split at h
    · have := tk_eq h; rw [this.1, List.length_take]; omega
    · cases h
  · split at h
    · split at h
      · have := tk_eq h; rw [this.1, List.length_take]; omega
      · cases h
    · cases h
  · have := tk_eq h; rw [this.1, List.length_take]; omega
  · cases h
theorem z_l {T : TypeId} {a : Operand} {b : Bool} {n : Nat} {cs : List AV} {v : AV} (ho : o.op = .load T a) (ha : ∀ w, (isAgg T).run P w = .ok b w) (hz : ∀ w, (Go.sizeOf T).run P w = Result.ok n w) (hx : ldv σ n (opv e a) = some cs) (hv : mkv b cs = some v) : AOp P σ e o v σ := by
  cases b with
  | true => cases hv; exact op_loadK ho ha hz hx
  | false =>
    obtain ⟨c, rfl⟩ : ∃ c, cs = [c] := by
      unfold mkv at hv; split at hv <;> first | (cases ‹false = true›) | exact ⟨_, rfl⟩ | cases hv
    cases hv
    have h1 : n = 1 := (ldv_len hx).symm
    subst h1
    exact op_load1 ho ha hx
section
variable {d : Option Tmp} {ty : TypeId} {pos : String} {af : Array Edge} {g : Option (Nat × Bool)} {v : AV} {σ' : List AO}
theorem zk0 {x : Operand} (h : AOp P σ e ⟨d, .move x, ty, pos, af, g⟩ v σ') : AOp P σ e ⟨d, .move x, ty, pos, af, g⟩ v σ' := h
theorem zk1 {x : Operand} (h : AOp P σ e ⟨d, .assign x, ty, pos, af, g⟩ v σ') : AOp P σ e ⟨d, .assign x, ty, pos, af, g⟩ v σ' := h
theorem zk2 {x y z : Operand} (h : AOp P σ e ⟨d, .pick x y z, ty, pos, af, g⟩ v σ') : AOp P σ e ⟨d, .pick x y z, ty, pos, af, g⟩ v σ' := h
theorem zk3 {T : TypeId} {x : Operand} {n : Nat} (h : AOp P σ e ⟨d, .fieldAddr T x n, ty, pos, af, g⟩ v σ') : AOp P σ e ⟨d, .fieldAddr T x n, ty, pos, af, g⟩ v σ' := h
theorem zk4 {T : TypeId} {x : Operand} (h : AOp P σ e ⟨d, .load T x, ty, pos, af, g⟩ v σ') : AOp P σ e ⟨d, .load T x, ty, pos, af, g⟩ v σ' := h
theorem zk5 {T : TypeId} {x y : Operand} (h : AOp P σ e ⟨d, .store T x y, ty, pos, af, g⟩ v σ') : AOp P σ e ⟨d, .store T x y, ty, pos, af, g⟩ v σ' := h
theorem zk6 {T : TypeId} {x : Operand} {n : Nat} (h : AOp P σ e ⟨d, .field T x n, ty, pos, af, g⟩ v σ') : AOp P σ e ⟨d, .field T x n, ty, pos, af, g⟩ v σ' := h
theorem zk7 {x : Operand} {n : Nat} (h : AOp P σ e ⟨d, .extract x n, ty, pos, af, g⟩ v σ') : AOp P σ e ⟨d, .extract x n, ty, pos, af, g⟩ v σ' := h
theorem zk8 {x : Operand} (h : AOp P σ e ⟨d, .nilCheck x, ty, pos, af, g⟩ v σ') : AOp P σ e ⟨d, .nilCheck x, ty, pos, af, g⟩ v σ' := h
theorem zk9 {b : UnOp} {T : TypeId} {x : Operand} (h : AOp P σ e ⟨d, .unOp b T x, ty, pos, af, g⟩ v σ') : AOp P σ e ⟨d, .unOp b T x, ty, pos, af, g⟩ v σ' := h
theorem zk10 {c : Call} (h : AOp P σ e ⟨d, .call c, ty, pos, af, g⟩ v σ') : AOp P σ e ⟨d, .call c, ty, pos, af, g⟩ v σ' := h
theorem zk11 {T : TypeId} {x : Operand} (h : AOp P σ e ⟨d, .box T x, ty, pos, af, g⟩ v σ') : AOp P σ e ⟨d, .box T x, ty, pos, af, g⟩ v σ' := h
theorem zk12 {T : TypeId} (h : AOp P σ e ⟨d, .alloc T, ty, pos, af, g⟩ v σ') : AOp P σ e ⟨d, .alloc T, ty, pos, af, g⟩ v σ' := h
theorem zk13 {T : TypeId} {ps : Array (Nat × Operand)} (h : AOp P σ e ⟨d, .build T ps, ty, pos, af, g⟩ v σ') : AOp P σ e ⟨d, .build T ps, ty, pos, af, g⟩ v σ' := h
theorem zk14 {T : TypeId} {x y : Operand} (h : AOp P σ e ⟨d, .index T x y, ty, pos, af, g⟩ v σ') : AOp P σ e ⟨d, .index T x y, ty, pos, af, g⟩ v σ' := h
theorem zk15 {T : TypeId} {x y : Operand} (h : AOp P σ e ⟨d, .indexAddr T x y, ty, pos, af, g⟩ v σ') : AOp P σ e ⟨d, .indexAddr T x y, ty, pos, af, g⟩ v σ' := h
theorem zk16 {T : TypeId} {x : Operand} {lo hi mx : Option Operand} (h : AOp P σ e ⟨d, .slice T x lo hi mx, ty, pos, af, g⟩ v σ') : AOp P σ e ⟨d, .slice T x lo hi mx, ty, pos, af, g⟩ v σ' := h
theorem zk17 {T U : TypeId} {x : Operand} (h : AOp P σ e ⟨d, .convert T U x, ty, pos, af, g⟩ v σ') : AOp P σ e ⟨d, .convert T U x, ty, pos, af, g⟩ v σ' := h
theorem zk18 {T : TypeId} {x : Operand} (h : AOp P σ e ⟨d, .makeInterface T x, ty, pos, af, g⟩ v σ') : AOp P σ e ⟨d, .makeInterface T x, ty, pos, af, g⟩ v σ' := h
theorem zk19 {f : Fn} {a1 a2 : Array Operand} (h : AOp P σ e ⟨d, .makeFunc f a1 a2, ty, pos, af, g⟩ v σ') : AOp P σ e ⟨d, .makeFunc f a1 a2, ty, pos, af, g⟩ v σ' := h
theorem zk20 {T U : TypeId} {x y : Operand} (h : AOp P σ e ⟨d, .binOp .add T x y U, ty, pos, af, g⟩ v σ') : AOp P σ e ⟨d, .binOp .add T x y U, ty, pos, af, g⟩ v σ' := h
theorem zk21 {T U : TypeId} {x y : Operand} (h : AOp P σ e ⟨d, .binOp .sub T x y U, ty, pos, af, g⟩ v σ') : AOp P σ e ⟨d, .binOp .sub T x y U, ty, pos, af, g⟩ v σ' := h
theorem zk22 {T U : TypeId} {x y : Operand} (h : AOp P σ e ⟨d, .binOp .mul T x y U, ty, pos, af, g⟩ v σ') : AOp P σ e ⟨d, .binOp .mul T x y U, ty, pos, af, g⟩ v σ' := h
theorem zk23 {T U : TypeId} {x y : Operand} (h : AOp P σ e ⟨d, .binOp .eql T x y U, ty, pos, af, g⟩ v σ') : AOp P σ e ⟨d, .binOp .eql T x y U, ty, pos, af, g⟩ v σ' := h
theorem zk24 {T U : TypeId} {x y : Operand} (h : AOp P σ e ⟨d, .binOp .neq T x y U, ty, pos, af, g⟩ v σ') : AOp P σ e ⟨d, .binOp .neq T x y U, ty, pos, af, g⟩ v σ' := h
theorem zk25 {T U : TypeId} {x y : Operand} (h : AOp P σ e ⟨d, .binOp .lss T x y U, ty, pos, af, g⟩ v σ') : AOp P σ e ⟨d, .binOp .lss T x y U, ty, pos, af, g⟩ v σ' := h
theorem zk26 {T U : TypeId} {x y : Operand} (h : AOp P σ e ⟨d, .binOp .leq T x y U, ty, pos, af, g⟩ v σ') : AOp P σ e ⟨d, .binOp .leq T x y U, ty, pos, af, g⟩ v σ' := h
theorem zk27 {T U : TypeId} {x y : Operand} (h : AOp P σ e ⟨d, .binOp .gtr T x y U, ty, pos, af, g⟩ v σ') : AOp P σ e ⟨d, .binOp .gtr T x y U, ty, pos, af, g⟩ v σ' := h
theorem zk28 {T U : TypeId} {x y : Operand} (h : AOp P σ e ⟨d, .binOp .geq T x y U, ty, pos, af, g⟩ v σ') : AOp P σ e ⟨d, .binOp .geq T x y U, ty, pos, af, g⟩ v σ' := h
variable {op : Op} {dd : Tmp} {gg : Nat × Bool}
theorem zs0 (h : AOps P N ops (⟨some dd, op, ty, pos, af, none⟩ :: rest) e σ Q) : AOps P N ops (⟨some dd, op, ty, pos, af, none⟩ :: rest) e σ Q := h
theorem zs1 (h : AOps P N ops (⟨none, op, ty, pos, af, none⟩ :: rest) e σ Q) : AOps P N ops (⟨none, op, ty, pos, af, none⟩ :: rest) e σ Q := h
end
end Lg
namespace Lg
open Go Go.RowKit
variable [GLay]
theorem zcl {p q : Prop} (h : p) (e : p = q := by (try simp only [decide_eq_true_eq, decide_eq_false_iff_not, Bool.not_eq_true', Bool.not_eq_false', Int.not_lt, Int.not_le, Bool.not_true, Bool.not_false, Int.toNat_natCast, bne_iff_ne, beq_iff_eq, beq_eq_false_iff_ne, ne_eq, Decidable.not_not]) <;> exact rfl) : q := e ▸ h
variable {P : Program} {σ : List AO} {e : Env} {o : Oper}
theorem zoa {v : AV} {σ' : List AO} (h : AOp P σ e o v σ' := by first
  | ((with_reducible apply zk0); exact op_moveO rfl rfl)
  | ((with_reducible apply zk1); exact op_assignO rfl rfl)
  | ((with_reducible apply zk2); first | exact op_pickTO rfl rfl rfl | exact op_pickFO rfl rfl rfl)
  | ((with_reducible apply zk3); exact z_fa rfl TU.h rfl TZ.h rfl rfl rfl trivial)
  | ((with_reducible apply zk4); exact z_l rfl TA.h TZ.h (by first | exact ldC_own rfl rfl | exact ldC_pp rfl | exact ldC_ownS rfl rfl | exact ldC_set (by assumption) rfl | exact ldC_setA (by assumption) rfl | exact ldC_old (by assumption) rfl | exact ldC_ptr (by assumption) rfl) (by exact rfl))
  | ((with_reducible apply zk5); first | exact z_so rfl TZ.h rfl rfl rfl rfl rfl rfl rfl | exact z_ss rfl TZ.h rfl rfl rfl rfl (by assumption) rfl rfl | exact z_ssA rfl TZ.h rfl rfl rfl rfl (by assumption) rfl rfl | exact z_sos rfl TZ.h rfl rfl rfl rfl rfl rfl rfl | exact z_sp rfl TZ.h rfl rfl rfl rfl (by assumption) rfl rfl)
  | ((with_reducible apply zk23); first | exact op_eql rfl rfl rfl | exact op_seql rfl rfl rfl | exact op_beql rfl TU.h rfl rfl | exact op_eqPN rfl TU.h rfl rfl rfl | exact op_eqNN rfl TU.h rfl rfl | exact op_eqIN rfl TU.h rfl | exact op_eqINil rfl TU.h rfl)
  | ((with_reducible apply zk24); first | exact op_neq rfl rfl rfl | exact op_sneq rfl rfl rfl | exact op_bneq rfl TU.h rfl rfl | exact op_nePN rfl TU.h rfl rfl rfl | exact op_neNN rfl TU.h rfl rfl | exact op_neIN rfl TU.h rfl | exact op_neINil rfl TU.h rfl)
  | ((with_reducible apply zk25); first | exact op_lss rfl rfl rfl | exact op_slss rfl rfl rfl)
  | ((with_reducible apply zk26); first | exact op_leq rfl rfl rfl | exact op_sleq rfl rfl rfl)
  | ((with_reducible apply zk27); first | exact op_gtr rfl rfl rfl | exact op_sgtr rfl rfl rfl)
  | ((with_reducible apply zk28); first | exact op_geq rfl rfl rfl | exact op_sgeq rfl rfl rfl)
  | ((with_reducible apply zk20); first | exact op_add64 rfl rfl rfl (by omega) (by omega) | exact op_cat rfl rfl rfl (by first | omega | (simp only [ByteArray.size_append]; omega)))
  | ((with_reducible apply zk21); exact op_sub64 rfl rfl rfl (by omega) (by omega))
  | ((with_reducible apply zk22); exact op_mul64 rfl rfl rfl (by omega) (by omega))
  | ((with_reducible apply zk10); first | exact z_ls rfl rfl TU.h rfl | exact z_le rfl rfl TU.h rfl rfl rfl trivial | exact op_max2 rfl rfl rfl | exact op_min2 rfl rfl rfl)
  | ((with_reducible apply zk7); exact op_extract rfl rfl rfl)
  | ((with_reducible apply zk9); exact op_not rfl rfl)
  | ((with_reducible apply zk6); first | exact z_f1 rfl TU.h rfl TA.h rfl rfl | exact z_fK rfl TU.h rfl TA.h TZ.h rfl rfl)
  | ((with_reducible apply zk8); exact op_nilCheck rfl rfl rfl)
  | ((with_reducible apply zk11); first | exact z_bS rfl rfl rfl rfl rfl | exact z_bS0 rfl rfl rfl rfl | exact z_bO rfl rfl rfl rfl rfl | exact z_b0 rfl rfl rfl rfl)
  | ((with_reducible apply zk12); first | exact z_aS rfl TV.h rfl rfl | exact z_aS0 rfl TV.h rfl | exact z_aO rfl TV.h rfl rfl | exact z_a0 rfl TV.h rfl)
  | ((with_reducible apply zk13); exact z_bu rfl TB.h rfl rfl)
  | ((with_reducible apply zk14); exact op_index_strB rfl TU.h rfl rfl (by omega) (by omega))
  | ((with_reducible apply zk15); exact op_indexAddr rfl TU.h TZ.h rfl rfl (by omega) (by first | exact lcells_get (by assumption) | exact mcells_get (by assumption) | exact brows_at (by omega) | assumption))
  | ((with_reducible apply zk16); exact op_slice_str _ _ rfl TU.h rfl (by first | exact ⟨_, rfl⟩ | rfl) (by first | exact ⟨_, rfl⟩ | rfl) (by omega) (by omega) (by omega))
  | ((with_reducible apply zk17); first | exact z_ci rfl TU.h TU.h rfl (by first | rfl | exact wrap64_in (by omega) (by omega) | exact wrapu8_in (by omega) (by omega) | (simp only [IntKind.wrap]; omega)) | exact op_strBytes rfl TU.h TU.h TU.h rfl | exact op_bytesStr rfl TU.h TU.h TU.h (by rfl) rfl rfl | exact op_convStr rfl TU.h TU.h rfl)
  | ((with_reducible apply zk18); exact z_mi rfl TU.h (by intro ms h; cases h) rfl)
  | ((with_reducible apply zk19); exact op_makeFunc rfl rfl rfl)) : AOp P σ e o v σ' := h
structure Hid (R : Prop) : Type where
  h : R
theorem zsp {D : List (FuncId × List AV)} {l : List (Nat × AV)} {N : Nat} {Q : QA} {ops : Array Oper} {rest : List Oper} {b : Bool} (d : Nat) (hb : lookO l d = some (.bool b)) (kt : b = true → AOps P N ops rest ⟨D, l⟩ σ Q) (kf : b = false → AOps P N ops rest ⟨D, l⟩ σ Q) : AOps P N ops rest ⟨D, l⟩ σ Q := AOps_split d hb kt kf
theorem zg1 {G R : Prop} (k : R) (h : Hid R → G := by
  intro kk
  iterate 1 (first | ((with_reducible apply zs0); refine zt rfl zoa ?_) | refine ztS rfl rfl ?_ | refine ztG rfl rfl zoa ?_ | ((with_reducible apply zs1); refine ztN rfl rfl zoa ?_))
  exact kk.h) : G := h ⟨k⟩
theorem zd1 {G R : Prop} (k : R) (h : Hid R → G := by
  intro kk
  iterate 1 (first | refine yS rfl rfl rfl ?_ | refine yAG rfl rfl rfl (fun _ => zoa) ?_ | refine yA rfl rfl (fun _ => zoa) ?_)
  exact kk.h) : G := h ⟨k⟩
theorem zp1 {G R : Prop} (k : R) (h : Hid R → G := by
  intro kk
  iterate 1 (first | refine yP rfl rfl zoa (by repeat (first | exact trivial | refine ⟨.inl rfl, ?_⟩)) ?_ | refine yPG rfl rfl rfl zoa (by repeat (first | exact trivial | refine ⟨.inl rfl, ?_⟩)) ?_)
  exact kk.h) : G := h ⟨k⟩
theorem zg2 {G R : Prop} (k : R) (h : Hid R → G := by
  intro kk
  iterate 2 (first | ((with_reducible apply zs0); refine zt rfl zoa ?_) | refine ztS rfl rfl ?_ | refine ztG rfl rfl zoa ?_ | ((with_reducible apply zs1); refine ztN rfl rfl zoa ?_))
  exact kk.h) : G := h ⟨k⟩
theorem zd2 {G R : Prop} (k : R) (h : Hid R → G := by
  intro kk
  iterate 2 (first | refine yS rfl rfl rfl ?_ | refine yAG rfl rfl rfl (fun _ => zoa) ?_ | refine yA rfl rfl (fun _ => zoa) ?_)
  exact kk.h) : G := h ⟨k⟩
theorem zg3 {G R : Prop} (k : R) (h : Hid R → G := by
  intro kk
  iterate 3 (first | ((with_reducible apply zs0); refine zt rfl zoa ?_) | refine ztS rfl rfl ?_ | refine ztG rfl rfl zoa ?_ | ((with_reducible apply zs1); refine ztN rfl rfl zoa ?_))
  exact kk.h) : G := h ⟨k⟩
theorem zd3 {G R : Prop} (k : R) (h : Hid R → G := by
  intro kk
  iterate 3 (first | refine yS rfl rfl rfl ?_ | refine yAG rfl rfl rfl (fun _ => zoa) ?_ | refine yA rfl rfl (fun _ => zoa) ?_)
  exact kk.h) : G := h ⟨k⟩
theorem zg4 {G R : Prop} (k : R) (h : Hid R → G := by
  intro kk
  iterate 4 (first | ((with_reducible apply zs0); refine zt rfl zoa ?_) | refine ztS rfl rfl ?_ | refine ztG rfl rfl zoa ?_ | ((with_reducible apply zs1); refine ztN rfl rfl zoa ?_))
  exact kk.h) : G := h ⟨k⟩
theorem zg5 {G R : Prop} (k : R) (h : Hid R → G := by
  intro kk
  iterate 5 (first | ((with_reducible apply zs0); refine zt rfl zoa ?_) | refine ztS rfl rfl ?_ | refine ztG rfl rfl zoa ?_ | ((with_reducible apply zs1); refine ztN rfl rfl zoa ?_))
  exact kk.h) : G := h ⟨k⟩
theorem zsr {G R : Prop} (k : R) (h : Hid R → G := by
  intro kk
  refine AWp_seq ?_
  refine AWp_regL ?_
  exact kk.h) : G := h ⟨k⟩
theorem zon {G R : Prop} (k : R) (h : Hid R → G := by
  intro kk
  refine AOps_nil ?_
  exact kk.h) : G := h ⟨k⟩
theorem zrt {G R : Prop} (k : R) (h : Hid R → G := by
  intro kk
  refine AWp_ret ?_
  (try simp only [blockQ, thenQ])
  exact kk.h) : G := h ⟨k⟩
theorem zw1 {G R : Prop} (k : R) (h : Hid R → G := by
  intro kk
  refine AWp_seq ?_
  refine AWp_regL ?_
  iterate 1 (first | ((with_reducible apply zs0); refine zt rfl zoa ?_) | refine ztS rfl rfl ?_ | refine ztG rfl rfl zoa ?_ | ((with_reducible apply zs1); refine ztN rfl rfl zoa ?_))
  refine AOps_nil ?_
  exact kk.h) : G := h ⟨k⟩
theorem zu1 {G R : Prop} (k : R) (h : Hid R → G := by
  intro kk
  refine AWp_seq ?_
  refine AWp_regL ?_
  iterate 1 (first | ((with_reducible apply zs0); refine zt rfl zoa ?_) | refine ztS rfl rfl ?_ | refine ztG rfl rfl zoa ?_ | ((with_reducible apply zs1); refine ztN rfl rfl zoa ?_))
  exact kk.h) : G := h ⟨k⟩
theorem zv1 {G R : Prop} (k : R) (h : Hid R → G := by
  intro kk
  iterate 1 (first | ((with_reducible apply zs0); refine zt rfl zoa ?_) | refine ztS rfl rfl ?_ | refine ztG rfl rfl zoa ?_ | ((with_reducible apply zs1); refine ztN rfl rfl zoa ?_))
  refine AOps_nil ?_
  exact kk.h) : G := h ⟨k⟩
theorem zw2 {G R : Prop} (k : R) (h : Hid R → G := by
  intro kk
  refine AWp_seq ?_
  refine AWp_regL ?_
  iterate 2 (first | ((with_reducible apply zs0); refine zt rfl zoa ?_) | refine ztS rfl rfl ?_ | refine ztG rfl rfl zoa ?_ | ((with_reducible apply zs1); refine ztN rfl rfl zoa ?_))
  refine AOps_nil ?_
  exact kk.h) : G := h ⟨k⟩
theorem zu2 {G R : Prop} (k : R) (h : Hid R → G := by
  intro kk
  refine AWp_seq ?_
  refine AWp_regL ?_
  iterate 2 (first | ((with_reducible apply zs0); refine zt rfl zoa ?_) | refine ztS rfl rfl ?_ | refine ztG rfl rfl zoa ?_ | ((with_reducible apply zs1); refine ztN rfl rfl zoa ?_))
  exact kk.h) : G := h ⟨k⟩
theorem zv2 {G R : Prop} (k : R) (h : Hid R → G := by
  intro kk
  iterate 2 (first | ((with_reducible apply zs0); refine zt rfl zoa ?_) | refine ztS rfl rfl ?_ | refine ztG rfl rfl zoa ?_ | ((with_reducible apply zs1); refine ztN rfl rfl zoa ?_))
  refine AOps_nil ?_
  exact kk.h) : G := h ⟨k⟩
theorem zw3 {G R : Prop} (k : R) (h : Hid R → G := by
  intro kk
  refine AWp_seq ?_
  refine AWp_regL ?_
  iterate 3 (first | ((with_reducible apply zs0); refine zt rfl zoa ?_) | refine ztS rfl rfl ?_ | refine ztG rfl rfl zoa ?_ | ((with_reducible apply zs1); refine ztN rfl rfl zoa ?_))
  refine AOps_nil ?_
  exact kk.h) : G := h ⟨k⟩
theorem zu3 {G R : Prop} (k : R) (h : Hid R → G := by
  intro kk
  refine AWp_seq ?_
  refine AWp_regL ?_
  iterate 3 (first | ((with_reducible apply zs0); refine zt rfl zoa ?_) | refine ztS rfl rfl ?_ | refine ztG rfl rfl zoa ?_ | ((with_reducible apply zs1); refine ztN rfl rfl zoa ?_))
  exact kk.h) : G := h ⟨k⟩
theorem zv3 {G R : Prop} (k : R) (h : Hid R → G := by
  intro kk
  iterate 3 (first | ((with_reducible apply zs0); refine zt rfl zoa ?_) | refine ztS rfl rfl ?_ | refine ztG rfl rfl zoa ?_ | ((with_reducible apply zs1); refine ztN rfl rfl zoa ?_))
  refine AOps_nil ?_
  exact kk.h) : G := h ⟨k⟩
theorem zw4 {G R : Prop} (k : R) (h : Hid R → G := by
  intro kk
  refine AWp_seq ?_
  refine AWp_regL ?_
  iterate 4 (first | ((with_reducible apply zs0); refine zt rfl zoa ?_) | refine ztS rfl rfl ?_ | refine ztG rfl rfl zoa ?_ | ((with_reducible apply zs1); refine ztN rfl rfl zoa ?_))
  refine AOps_nil ?_
  exact kk.h) : G := h ⟨k⟩
theorem zu4 {G R : Prop} (k : R) (h : Hid R → G := by
  intro kk
  refine AWp_seq ?_
  refine AWp_regL ?_
  iterate 4 (first | ((with_reducible apply zs0); refine zt rfl zoa ?_) | refine ztS rfl rfl ?_ | refine ztG rfl rfl zoa ?_ | ((with_reducible apply zs1); refine ztN rfl rfl zoa ?_))
  exact kk.h) : G := h ⟨k⟩
theorem zv4 {G R : Prop} (k : R) (h : Hid R → G := by
  intro kk
  iterate 4 (first | ((with_reducible apply zs0); refine zt rfl zoa ?_) | refine ztS rfl rfl ?_ | refine ztG rfl rfl zoa ?_ | ((with_reducible apply zs1); refine ztN rfl rfl zoa ?_))
  refine AOps_nil ?_
  exact kk.h) : G := h ⟨k⟩
theorem zw5 {G R : Prop} (k : R) (h : Hid R → G := by
  intro kk
  refine AWp_seq ?_
  refine AWp_regL ?_
  iterate 5 (first | ((with_reducible apply zs0); refine zt rfl zoa ?_) | refine ztS rfl rfl ?_ | refine ztG rfl rfl zoa ?_ | ((with_reducible apply zs1); refine ztN rfl rfl zoa ?_))
  refine AOps_nil ?_
  exact kk.h) : G := h ⟨k⟩
theorem zu5 {G R : Prop} (k : R) (h : Hid R → G := by
  intro kk
  refine AWp_seq ?_
  refine AWp_regL ?_
  iterate 5 (first | ((with_reducible apply zs0); refine zt rfl zoa ?_) | refine ztS rfl rfl ?_ | refine ztG rfl rfl zoa ?_ | ((with_reducible apply zs1); refine ztN rfl rfl zoa ?_))
  exact kk.h) : G := h ⟨k⟩
theorem zw6 {G R : Prop} (k : R) (h : Hid R → G := by
  intro kk
  refine AWp_seq ?_
  refine AWp_regL ?_
  iterate 6 (first | ((with_reducible apply zs0); refine zt rfl zoa ?_) | refine ztS rfl rfl ?_ | refine ztG rfl rfl zoa ?_ | ((with_reducible apply zs1); refine ztN rfl rfl zoa ?_))
  refine AOps_nil ?_
  exact kk.h) : G := h ⟨k⟩
theorem zv9 {G R : Prop} (k : R) (h : Hid R → G := by
  intro kk
  iterate 9 (first | ((with_reducible apply zs0); refine zt rfl zoa ?_) | refine ztS rfl rfl ?_ | refine ztG rfl rfl zoa ?_ | ((with_reducible apply zs1); refine ztN rfl rfl zoa ?_))
  refine AOps_nil ?_
  exact kk.h) : G := h ⟨k⟩
end Lg
namespace Lg
open Go Go.Proofs
instance : TU Tryd.prog 3 (.int .i64) := ⟨Tryd.underlying3⟩
instance : TA Tryd.prog 3 false := ⟨Tryd.isAgg3⟩
instance : TZ Tryd.prog 3 1 := ⟨Tryd.sizeOf3⟩
instance : TV Tryd.prog 3 (.int .i64 0) := ⟨Tryd.zeroValue3⟩
instance : TU Tryd.prog 5 (.int .u8) := ⟨Tryd.underlying5⟩
instance : TA Tryd.prog 5 false := ⟨Tryd.isAgg5⟩
instance : TZ Tryd.prog 5 1 := ⟨Tryd.sizeOf5⟩
instance : TV Tryd.prog 5 (.int .u8 0) := ⟨Tryd.zeroValue5⟩
instance : TU Tryd.prog 9 (.string) := ⟨Tryd.underlying9⟩
instance : TA Tryd.prog 9 false := ⟨Tryd.isAgg9⟩
instance : TZ Tryd.prog 9 1 := ⟨Tryd.sizeOf9⟩
instance : TV Tryd.prog 9 (.string { data := #[] }) := ⟨Tryd.zeroValue9⟩
instance : TU Tryd.prog 21 (.int .i32) := ⟨Tryd.underlying21⟩
instance : TA Tryd.prog 21 false := ⟨Tryd.isAgg21⟩
instance : TZ Tryd.prog 21 1 := ⟨Tryd.sizeOf21⟩
instance : TV Tryd.prog 21 (.int .i32 0) := ⟨Tryd.zeroValue21⟩
instance : TU Tryd.prog 22 (.slice 28) := ⟨Tryd.underlying22⟩
instance : TA Tryd.prog 22 false := ⟨Tryd.isAgg22⟩
instance : TZ Tryd.prog 22 1 := ⟨Tryd.sizeOf22⟩
instance : TV Tryd.prog 22 (.slice none 0 0) := ⟨Tryd.zeroValue22⟩
instance : TU Tryd.prog 26 (.slice 9) := ⟨Tryd.underlying26⟩
instance : TA Tryd.prog 26 false := ⟨Tryd.isAgg26⟩
instance : TZ Tryd.prog 26 1 := ⟨Tryd.sizeOf26⟩
instance : TV Tryd.prog 26 (.slice none 0 0) := ⟨Tryd.zeroValue26⟩
instance : TU Tryd.prog 28 (.struct #[{ name := "Instance", type := 9, offset := 0, embedded := false, tag := "", pkgPath := "", byteOffset := 0 }, { name := "Schema", type := 9, offset := 1, embedded := false, tag := "", pkgPath := "", byteOffset := 16 }, { name := "Keyword", type := 9, offset := 2, embedded := false, tag := "", pkgPath := "", byteOffset := 32 }]) := ⟨Tryd.underlying28⟩
instance : TA Tryd.prog 28 true := ⟨Tryd.isAgg28⟩
instance : TZ Tryd.prog 28 3 := ⟨Tryd.sizeOf28⟩
instance : TV Tryd.prog 28 (.agg #[.string { data := #[] }, .string { data := #[] }, .string { data := #[] }]) := ⟨Tryd.zeroValue28⟩
instance : TB Tryd.prog 28 (.agg #[.string { data := #[] }, .string { data := #[] }, .string { data := #[] }]) [(0, 1), (1, 1), (2, 1)] := ⟨_, Tryd.underlying28, Tryd.zeroValue28, ⟨rfl, Tryd.sizeOf9, ⟨rfl, Tryd.sizeOf9, ⟨rfl, Tryd.sizeOf9, trivial⟩⟩⟩⟩
instance : TU Tryd.prog 34 (.slice 5) := ⟨Tryd.underlying34⟩
instance : TA Tryd.prog 34 false := ⟨Tryd.isAgg34⟩
instance : TZ Tryd.prog 34 1 := ⟨Tryd.sizeOf34⟩
instance : TV Tryd.prog 34 (.slice none 0 0) := ⟨Tryd.zeroValue34⟩
instance : TU Tryd.prog 36 (.func #[28, 28] #[3] false) := ⟨Tryd.underlying36⟩
instance : TA Tryd.prog 36 false := ⟨Tryd.isAgg36⟩
instance : TZ Tryd.prog 36 1 := ⟨Tryd.sizeOf36⟩
instance : TV Tryd.prog 36 (.nilFunc) := ⟨Tryd.zeroValue36⟩
instance : TU Tryd.prog 39 (.int .u64) := ⟨Tryd.underlying39⟩
instance : TA Tryd.prog 39 false := ⟨Tryd.isAgg39⟩
instance : TZ Tryd.prog 39 1 := ⟨Tryd.sizeOf39⟩
instance : TV Tryd.prog 39 (.int .u64 0) := ⟨Tryd.zeroValue39⟩
instance : TU Tryd.prog 44 (.int .i64) := ⟨Tryd.underlying44⟩
instance : TA Tryd.prog 44 false := ⟨Tryd.isAgg44⟩
instance : TZ Tryd.prog 44 1 := ⟨Tryd.sizeOf44⟩
instance : TV Tryd.prog 44 (.int .i64 0) := ⟨Tryd.zeroValue44⟩
instance : TU Tryd.prog 52 (.int .u32) := ⟨Tryd.underlying52⟩
instance : TA Tryd.prog 52 false := ⟨Tryd.isAgg52⟩
instance : TZ Tryd.prog 52 1 := ⟨Tryd.sizeOf52⟩
instance : TV Tryd.prog 52 (.int .u32 0) := ⟨Tryd.zeroValue52⟩
instance : TU Tryd.prog 54 (.int .u64) := ⟨Tryd.underlying54⟩
instance : TA Tryd.prog 54 false := ⟨Tryd.isAgg54⟩
instance : TZ Tryd.prog 54 1 := ⟨Tryd.sizeOf54⟩
instance : TV Tryd.prog 54 (.int .u64 0) := ⟨Tryd.zeroValue54⟩
instance : TU Tryd.prog 55 (.slice 3) := ⟨Tryd.underlying55⟩
instance : TA Tryd.prog 55 false := ⟨Tryd.isAgg55⟩
instance : TZ Tryd.prog 55 1 := ⟨Tryd.sizeOf55⟩
instance : TV Tryd.prog 55 (.slice none 0 0) := ⟨Tryd.zeroValue55⟩
instance : TU Tryd.prog 58 (.int .u64) := ⟨Tryd.underlying58⟩
instance : TA Tryd.prog 58 false := ⟨Tryd.isAgg58⟩
instance : TZ Tryd.prog 58 1 := ⟨Tryd.sizeOf58⟩
instance : TV Tryd.prog 58 (.int .u64 0) := ⟨Tryd.zeroValue58⟩
instance : TU Tryd.prog 62 (.pointer 3) := ⟨Tryd.underlying62⟩
instance : TA Tryd.prog 62 false := ⟨Tryd.isAgg62⟩
instance : TZ Tryd.prog 62 1 := ⟨Tryd.sizeOf62⟩
instance : TV Tryd.prog 62 (.pointer none) := ⟨Tryd.zeroValue62⟩
instance : TU Tryd.prog 64 (.pointer 66) := ⟨Tryd.underlying64⟩
instance : TA Tryd.prog 64 false := ⟨Tryd.isAgg64⟩
instance : TZ Tryd.prog 64 1 := ⟨Tryd.sizeOf64⟩
instance : TV Tryd.prog 64 (.pointer none) := ⟨Tryd.zeroValue64⟩
instance : TU Tryd.prog 66 (.struct #[{ name := "addr", type := 64, offset := 0, embedded := false, tag := "", pkgPath := "strings", byteOffset := 0 }, { name := "buf", type := 34, offset := 1, embedded := false, tag := "", pkgPath := "strings", byteOffset := 8 }]) := ⟨Tryd.underlying66⟩
instance : TA Tryd.prog 66 true := ⟨Tryd.isAgg66⟩
instance : TZ Tryd.prog 66 2 := ⟨Tryd.sizeOf66⟩
instance : TV Tryd.prog 66 (.agg #[.pointer none, .slice none 0 0]) := ⟨Tryd.zeroValue66⟩
instance : TB Tryd.prog 66 (.agg #[.pointer none, .slice none 0 0]) [(0, 1), (1, 1)] := ⟨_, Tryd.underlying66, Tryd.zeroValue66, ⟨rfl, Tryd.sizeOf64, ⟨rfl, Tryd.sizeOf34, trivial⟩⟩⟩
instance : TU Tryd.prog 80 (.pointer 5) := ⟨Tryd.underlying80⟩
instance : TA Tryd.prog 80 false := ⟨Tryd.isAgg80⟩
instance : TZ Tryd.prog 80 1 := ⟨Tryd.sizeOf80⟩
instance : TV Tryd.prog 80 (.pointer none) := ⟨Tryd.zeroValue80⟩
instance : TU Tryd.prog 81 (.unsafePointer) := ⟨Tryd.underlying81⟩
instance : TA Tryd.prog 81 false := ⟨Tryd.isAgg81⟩
instance : TZ Tryd.prog 81 1 := ⟨Tryd.sizeOf81⟩
instance : TV Tryd.prog 81 (.pointer none) := ⟨Tryd.zeroValue81⟩
instance : TU Tryd.prog 85 (.array 256 5) := ⟨Tryd.underlying85⟩
instance : TA Tryd.prog 85 true := ⟨Tryd.isAgg85⟩
instance : TZ Tryd.prog 85 256 := ⟨Tryd.sizeOf85⟩
instance : TV Tryd.prog 85 (.agg Tryd.zeroCells85) := ⟨Tryd.zeroValue85⟩
instance : TU Tryd.prog 87 (.struct #[{ name := "lo", type := 5, offset := 0, embedded := false, tag := "", pkgPath := "unicode/utf8", byteOffset := 0 }, { name := "hi", type := 5, offset := 1, embedded := false, tag := "", pkgPath := "unicode/utf8", byteOffset := 1 }]) := ⟨Tryd.underlying87⟩
instance : TA Tryd.prog 87 true := ⟨Tryd.isAgg87⟩
instance : TZ Tryd.prog 87 2 := ⟨Tryd.sizeOf87⟩
instance : TV Tryd.prog 87 (.agg #[.int .u8 0, .int .u8 0]) := ⟨Tryd.zeroValue87⟩
instance : TB Tryd.prog 87 (.agg #[.int .u8 0, .int .u8 0]) [(0, 1), (1, 1)] := ⟨_, Tryd.underlying87, Tryd.zeroValue87, ⟨rfl, Tryd.sizeOf5, ⟨rfl, Tryd.sizeOf5, trivial⟩⟩⟩
instance : TU Tryd.prog 88 (.array 16 87) := ⟨Tryd.underlying88⟩
instance : TA Tryd.prog 88 true := ⟨Tryd.isAgg88⟩
instance : TZ Tryd.prog 88 32 := ⟨Tryd.sizeOf88⟩
instance : TV Tryd.prog 88 (.agg #[.int .u8 0, .int .u8 0, .int .u8 0, .int .u8 0, .int .u8 0, .int .u8 0, .int .u8 0, .int .u8 0, .int .u8 0, .int .u8 0, .int .u8 0, .int .u8 0, .int .u8 0, .int .u8 0, .int .u8 0, .int .u8 0, .int .u8 0, .int .u8 0, .int .u8 0, .int .u8 0, .int .u8 0, .int .u8 0, .int .u8 0, .int .u8 0, .int .u8 0, .int .u8 0, .int .u8 0, .int .u8 0, .int .u8 0, .int .u8 0, .int .u8 0, .int .u8 0]) := ⟨Tryd.zeroValue88⟩
instance : TN Tryd.prog 2 := ⟨_, Tryd.func2, rfl, rfl⟩
instance : TN Tryd.prog 3 := ⟨_, Tryd.func3, rfl, rfl⟩
instance : TN Tryd.prog 4 := ⟨_, Tryd.func4, rfl, rfl⟩
instance : TN Tryd.prog 5 := ⟨_, Tryd.func5, rfl, rfl⟩
instance : TN Tryd.prog 6 := ⟨_, Tryd.func6, rfl, rfl⟩
instance : TN Tryd.prog 7 := ⟨_, Tryd.func7, rfl, rfl⟩
instance : TN Tryd.prog 8 := ⟨_, Tryd.func8, rfl, rfl⟩
instance : TN Tryd.prog 9 := ⟨_, Tryd.func9, rfl, rfl⟩
instance : TN Tryd.prog 10 := ⟨_, Tryd.func10, rfl, rfl⟩
instance : TN Tryd.prog 11 := ⟨_, Tryd.func11, rfl, rfl⟩
instance : TN Tryd.prog 12 := ⟨_, Tryd.func12, rfl, rfl⟩
instance : TN Tryd.prog 13 := ⟨_, Tryd.func13, rfl, rfl⟩
instance : TN Tryd.prog 14 := ⟨_, Tryd.func14, rfl, rfl⟩
instance : TN Tryd.prog 15 := ⟨_, Tryd.func15, rfl, rfl⟩
instance : TN Tryd.prog 16 := ⟨_, Tryd.func16, rfl, rfl⟩
instance : TN Tryd.prog 17 := ⟨_, Tryd.func17, rfl, rfl⟩
instance : TN Tryd.prog 18 := ⟨_, Tryd.func18, rfl, rfl⟩
instance : TN Tryd.prog 19 := ⟨_, Tryd.func19, rfl, rfl⟩
instance : TN Tryd.prog 20 := ⟨_, Tryd.func20, rfl, rfl⟩
instance : TN Tryd.prog 21 := ⟨_, Tryd.func21, rfl, rfl⟩
instance : TN Tryd.prog 22 := ⟨_, Tryd.func22, rfl, rfl⟩
instance : TN Tryd.prog 23 := ⟨_, Tryd.func23, rfl, rfl⟩
instance : TN Tryd.prog 24 := ⟨_, Tryd.func24, rfl, rfl⟩
instance : TN Tryd.prog 25 := ⟨_, Tryd.func25, rfl, rfl⟩
instance : TN Tryd.prog 26 := ⟨_, Tryd.func26, rfl, rfl⟩
instance : TN Tryd.prog 27 := ⟨_, Tryd.func27, rfl, rfl⟩
instance : TN Tryd.prog 28 := ⟨_, Tryd.func28, rfl, rfl⟩
instance : TN Tryd.prog 29 := ⟨_, Tryd.func29, rfl, rfl⟩
instance : TN Tryd.prog 30 := ⟨_, Tryd.func30, rfl, rfl⟩
instance : TN Tryd.prog 31 := ⟨_, Tryd.func31, rfl, rfl⟩
instance : TN Tryd.prog 32 := ⟨_, Tryd.func32, rfl, rfl⟩
instance : TN Tryd.prog 33 := ⟨_, Tryd.func33, rfl, rfl⟩
instance : TN Tryd.prog 34 := ⟨_, Tryd.func34, rfl, rfl⟩
instance : TN Tryd.prog 35 := ⟨_, Tryd.func35, rfl, rfl⟩
instance : TN Tryd.prog 36 := ⟨_, Tryd.func36, rfl, rfl⟩
instance : TN Tryd.prog 37 := ⟨_, Tryd.func37, rfl, rfl⟩
instance : TN Tryd.prog 38 := ⟨_, Tryd.func38, rfl, rfl⟩
instance : TN Tryd.prog 39 := ⟨_, Tryd.func39, rfl, rfl⟩
instance : TN Tryd.prog 40 := ⟨_, Tryd.func40, rfl, rfl⟩
instance : TN Tryd.prog 41 := ⟨_, Tryd.func41, rfl, rfl⟩
instance : TN Tryd.prog 42 := ⟨_, Tryd.func42, rfl, rfl⟩
instance : TN Tryd.prog 43 := ⟨_, Tryd.func43, rfl, rfl⟩
instance : TN Tryd.prog 44 := ⟨_, Tryd.func44, rfl, rfl⟩
instance : TN Tryd.prog 45 := ⟨_, Tryd.func45, rfl, rfl⟩
instance : TN Tryd.prog 46 := ⟨_, Tryd.func46, rfl, rfl⟩
instance : TN Tryd.prog 47 := ⟨_, Tryd.func47, rfl, rfl⟩
instance : TN Tryd.prog 49 := ⟨_, Tryd.func49, rfl, rfl⟩
instance : TN Tryd.prog 50 := ⟨_, Tryd.func50, rfl, rfl⟩
instance : TN Tryd.prog 51 := ⟨_, Tryd.func51, rfl, rfl⟩
instance : TN Tryd.prog 52 := ⟨_, Tryd.func52, rfl, rfl⟩
instance : TN Tryd.prog 55 := ⟨_, Tryd.func55, rfl, rfl⟩
instance : TN Tryd.prog 57 := ⟨_, Tryd.func57, rfl, rfl⟩
instance : TN Tryd.prog 58 := ⟨_, Tryd.func58, rfl, rfl⟩
instance : TN Tryd.prog 60 := ⟨_, Tryd.func60, rfl, rfl⟩
theorem Tryd.mixed : Tryd.prog.follows .mixedOrders = true := by kernel_rfl
end Lg
set_option maxRecDepth 100000
set_option maxHeartbeats 4000000
namespace Go.Proofs.YtpcjccmmeaaeaaaDoor
open Go Go.ChangeShapes Go.WideShapes Go.ChangeAt Go.RowKit Go.Lib
theorem own : ownKnob Tryd.prog.godebug = none := by kernel_rfl
end Go.Proofs.YtpcjccmmeaaeaaaDoor
namespace Lg
open Go Go.Lib

def u8N (n b0 b1 b2 b3 : Nat) : Nat := if (decodeN n b0 b1 b2 b3).1 = 65533 ∧ (decodeN n b0 b1 b2 b3).2 = 1 then 0 else (decodeN n b0 b1 b2 b3).2
theorem u8N_1 {n b0 b1 b2 b3 : Nat} (h : b0 < 128) : u8N n b0 b1 b2 b3 = 1 := by
  have : decodeN n b0 b1 b2 b3 = (b0, 1) := by unfold decodeN; rw [if_pos h]
  simp only [u8N, this]; split <;> omega
theorem u8N_2 {n b0 b1 b2 b3 : Nat} (h : 192 ≤ b0) (h' : b0 < 224) : u8N n b0 b1 b2 b3 = if 1 < n ∧ (128 ≤ b1 ∧ b1 < 192) ∧ 128 ≤ 64 * (b0 - 192) + (b1 - 128) then 2 else 0 := by
  by_cases hc : 1 < n ∧ (128 ≤ b1 ∧ b1 < 192) ∧ 128 ≤ 64 * (b0 - 192) + (b1 - 128)
  · rw [if_pos hc]
    have : decodeN n b0 b1 b2 b3 = (b0 % 32 * 64 + b1 % 64, 2) := by
      unfold decodeN; rw [if_neg (by omega), if_pos (by omega), if_pos (by omega)]
    simp only [u8N, this]; split <;> omega
  · rw [if_neg hc]
    have : decodeN n b0 b1 b2 b3 = (65533, 1) := by
      unfold decodeN; rw [if_neg (by omega)]
      by_cases h1 : 1 < n ∧ b1 / 64 = 2
      · rw [if_pos (by omega), if_neg (by omega)]
      · rw [if_neg (by omega), if_neg (by omega), if_neg (by omega)]
    simp [u8N, this]
theorem u8N_3 {n b0 b1 b2 b3 v : Nat} (h : 224 ≤ b0) (h' : b0 < 240) (hv : v = 64 * (64 * (b0 - 224) + (b1 - 128)) + (b2 - 128)) :
    u8N n b0 b1 b2 b3 = if 2 < n ∧ (128 ≤ b1 ∧ b1 < 192) ∧ (128 ≤ b2 ∧ b2 < 192) ∧ 2048 ≤ v ∧ ¬ (55296 ≤ v ∧ v < 57344) then 3 else 0 := by
  by_cases hc : 2 < n ∧ (128 ≤ b1 ∧ b1 < 192) ∧ (128 ≤ b2 ∧ b2 < 192) ∧ 2048 ≤ v ∧ ¬ (55296 ≤ v ∧ v < 57344)
  · rw [if_pos hc]
    have e : b0 % 16 * 4096 + b1 % 64 * 64 + b2 % 64 = v := by omega
    have : decodeN n b0 b1 b2 b3 = (v, 3) := by
      unfold decodeN; rw [if_neg (by omega), if_neg (by omega), if_pos (by omega), e, if_pos (by omega)]
    simp only [u8N, this]; split <;> omega
  · rw [if_neg hc]
    have : decodeN n b0 b1 b2 b3 = (65533, 1) := by
      unfold decodeN; rw [if_neg (by omega), if_neg (by omega)]
      by_cases h1 : (1 < n ∧ b1 / 64 = 2) ∧ (2 < n ∧ b2 / 64 = 2)
      · have e : b0 % 16 * 4096 + b1 % 64 * 64 + b2 % 64 = v := by omega
        rw [if_pos (by omega), e, if_neg (by omega)]
      · rw [if_neg (by omega), if_neg (by omega)]
    simp [u8N, this]
theorem u8N_4 {n b0 b1 b2 b3 v : Nat} (h : 240 ≤ b0) (h' : b0 < 248) (hv : v = 64 * (64 * (64 * (b0 - 240) + (b1 - 128)) + (b2 - 128)) + (b3 - 128)) :
    u8N n b0 b1 b2 b3 = if 3 < n ∧ (128 ≤ b1 ∧ b1 < 192) ∧ (128 ≤ b2 ∧ b2 < 192) ∧ (128 ≤ b3 ∧ b3 < 192) ∧ 65536 ≤ v ∧ v ≤ 1114111 then 4 else 0 := by
  by_cases hc : 3 < n ∧ (128 ≤ b1 ∧ b1 < 192) ∧ (128 ≤ b2 ∧ b2 < 192) ∧ (128 ≤ b3 ∧ b3 < 192) ∧ 65536 ≤ v ∧ v ≤ 1114111
  · rw [if_pos hc]
    have e : b0 % 8 * 262144 + b1 % 64 * 4096 + b2 % 64 * 64 + b3 % 64 = v := by omega
    have : decodeN n b0 b1 b2 b3 = (v, 4) := by
      unfold decodeN; rw [if_neg (by omega), if_neg (by omega), if_neg (by omega), if_pos (by omega), e, if_pos (by omega)]
    simp only [u8N, this]; split <;> omega
  · rw [if_neg hc]
    have : decodeN n b0 b1 b2 b3 = (65533, 1) := by
      unfold decodeN; rw [if_neg (by omega), if_neg (by omega), if_neg (by omega)]
      by_cases h1 : (1 < n ∧ b1 / 64 = 2) ∧ (2 < n ∧ b2 / 64 = 2) ∧ (3 < n ∧ b3 / 64 = 2)
      · have e : b0 % 8 * 262144 + b1 % 64 * 4096 + b2 % 64 * 64 + b3 % 64 = v := by omega
        rw [if_pos (by omega), e, if_neg (by omega)]
      · rw [if_neg (by omega)]
    simp [u8N, this]
theorem u8N_0 {n b0 b1 b2 b3 : Nat} (h : (128 ≤ b0 ∧ b0 < 192) ∨ 248 ≤ b0) (h' : b0 < 256) : u8N n b0 b1 b2 b3 = 0 := by
  have : decodeN n b0 b1 b2 b3 = (65533, 1) := decodeN_bad n b0 b1 b2 b3 (by omega)
  simp [u8N, this]
def u8 (s : ByteArray) (a : Nat) : Nat := u8N (s.size - a) (bat s a).toNat (bat s (a + 1)).toNat (bat s (a + 2)).toNat (bat s (a + 3)).toNat
theorem u8_le {s : ByteArray} {a : Nat} (h : a < s.size) : a + u8 s a ≤ s.size := by
  unfold u8
  by_cases h0 : (bat s a).toNat < 128
  · rw [u8N_1 h0]; omega
  by_cases h1 : (bat s a).toNat < 192 ∨ 248 ≤ (bat s a).toNat
  · rw [u8N_0 (by omega) (bat s a).toNat_lt]; omega
  by_cases h2 : (bat s a).toNat < 224
  · rw [u8N_2 (by omega) h2]; split <;> omega
  by_cases h3 : (bat s a).toNat < 240
  · rw [u8N_3 (by omega) h3 rfl]; split <;> omega
  · rw [u8N_4 (by omega) (by omega) rfl]; split <;> omega
end Lg
namespace Lg
open Go
end Lg
namespace Lg
open Go

mutual
def jdepth : JV → Int
  | .mk k _ _ _ l m => if k = 4 ∨ k = 5 then max (ldep l) (mdep m) + 1 else 0
def ldep : List JV → Int
  | [] => 0
  | v :: r => max (ldep r) (jdepth v)
def mdep : List (ByteArray × JV) → Int
  | [] => 0
  | (_, v) :: r => max (mdep r) (jdepth v)
end
section
variable [GLay] {P : Program}
end
end Lg
namespace Lg
open Go

variable [GLay]
def vz : JV := .mk 0 false {} ⟨#[]⟩ [] []
def v4 : JV := .mk 4 false {} ⟨#[]⟩ [] []
theorem AVleL.append {a a' b b' : List AV} (h : AVleL a a') (k : AVleL b b') : AVleL (a ++ b) (a' ++ b') := by
  induction a generalizing a' with
  | nil => cases a' with
    | nil => exact k
    | cons => exact h.elim
  | cons x a ih => cases a' with
    | nil => exact h.elim
    | cons y a' => exact ⟨h.1, ih h.2⟩
section
variable {P : Program}
end
end Lg
namespace Lg
open Go
@[simp] theorem zsize : (ByteArray.mk #[]).size = 0 := rfl
section
variable [GLay] {P : Program} {σ : List AO} {e : Env} {o : Oper}
end
end Lg
namespace Lg
open Go
def jfind (v : JV) (key : ByteArray) : Option JV := if v.kind = 5 then (v.m.find? fun q => decide (q.1 = key)).map (·.2) else none
section
variable [GLay]
def FindR (v : JV) (key : ByteArray) (σ : List AO) : Out → List AO → Prop := fun o σ' => σ' = σ ∧ ∃ r b, o = .ret (.tup [.agg r, .bool b]) ∧ AVleL r (vcells ((jfind v key).getD vz)) ∧ b = (jfind v key).isSome
theorem FindR.ret {P : Program} {f : FuncId} {args : List AV} {v : JV} {key : ByteArray} {σ : List AO} (h : ACalls P f args σ (FindR v key σ)) : ACalls P f args σ (Ret (.tup [.agg (vcells ((jfind v key).getD vz)), .bool (jfind v key).isSome]) σ) :=
  h.weak (fun w σ' hr => by
    obtain ⟨rfl, r, b, h1, h2, rfl⟩ := hr
    injection h1 with h1
    subst h1
    exact ⟨_, AVle.tup (r := [.agg (vcells ((jfind v key).getD vz)), .bool _]) ⟨AVle.agg h2, AVle.refl _, trivial⟩, rfl, rfl⟩) (fun w σ' hr => by obtain ⟨_, r, b, h1, _⟩ := hr; cases h1)
end
end Lg
namespace Lg
open Go
end Lg
namespace Lg
open Go
def isbl (c : UInt8) : Prop := c.toNat = 32 ∨ c.toNat = 9 ∨ c.toNat = 10 ∨ c.toNat = 13
instance (c : UInt8) : Decidable (isbl c) := by unfold isbl; exact inferInstance
def blk (s : ByteArray) (a : Nat) : Nat := if h : a < s.size ∧ isbl (bat s a) then blk s (a + 1) else a
termination_by s.size - a
end Lg
namespace Lg
open Go
end Lg
namespace Lg
open Go
theorem wrapu8_in {n : Int} (h0 : 0 ≤ n) (h1 : n < 256) : IntKind.u8.wrap n = n := by
  simp only [IntKind.wrap, IntKind.bits, IntKind.signed]
  have : (2 : Int) ^ 8 = 256 := by decide
  simp only [this]
  first | omega | (simp; omega)
def e0 : ByteArray := ⟨#[]⟩
def hd1 (c : Nat) : Int := if 48 ≤ c ∧ c ≤ 57 then (c : Int) - 48 else -1
def hd2 (c : Nat) : Int := if 65 ≤ c ∧ c ≤ 70 then (c : Int) - 55 else hd1 c
section
variable [GLay] {σ : List AO}
end
structure UR where
  s : ByteArray
  n : Int
  bad : Int
  at_ : Int
end Lg
namespace Lg
open Go
section
variable {s : ByteArray} {a i : Nat} {out : ByteArray}
end
end Lg
namespace Lg
open Go
structure NSt where
  neg : Bool
  down : Bool
  point : Bool
  power : Bool
  digits : ByteArray
  behind : Int
  exp : Int
section
variable {s : ByteArray} {i : Nat} {ng dn pt pw : Bool} {d : ByteArray} {b x : Int}
end
section
variable [GLay] {P : Program} {σ : List AO} {e : Env} {o : Oper}
end
theorem NumMay.size {n : JNum} (h : NumMay n) : n.digits.size ≤ 60 := by
  rcases h with ⟨h, _⟩ | ⟨_, _, h, _⟩
  · rw [h]; exact Nat.zero_le _
  · exact h
end Lg
namespace Lg
open Go
abbrev BL := List UInt8
def isD (b : UInt8) : Bool := decide (48 ≤ b.toNat) && decide (b.toNat ≤ 57)
end Lg
namespace Lg
open Go
end Lg
namespace Lg
open Go
def ba (l : BL) : ByteArray := ⟨l.toArray⟩
theorem ba_toList (l : BL) : (ba l).data.toList = l := by simp [ba]
theorem ba_size (l : BL) : (ba l).size = l.length := by
  have : (ba l).data.toList.length = (ba l).size := Array.length_toList
  rw [← this, ba_toList]
theorem ba_ext {a b : ByteArray} (h : a.data.toList = b.data.toList) : a = b := by
  cases a; cases b; congr 1; exact Array.ext' h
theorem ba_eta (d : ByteArray) : d = ba d.data.toList := ba_ext (by rw [ba_toList])
def aD (l : BL) : Prop := ∀ b ∈ l, isD b = true
end Lg
namespace Lg
open Go
end Lg
namespace Lg
open Go
theorem bat_getD (d : ByteArray) (i : Nat) : bat d i = d.data.toList.getD i 0 := rfl
theorem bat_ba (l : BL) (i : Nat) : bat (ba l) i = l.getD i 0 := by rw [bat_getD, ba_toList]
end Lg
namespace Lg
open Go
theorem ba_inj {a b : BL} : ba a = ba b ↔ a = b := ⟨fun h => by rw [← ba_toList a, h, ba_toList], fun h => by rw [h]⟩
theorem ba_nil {a : BL} : ba a = ⟨#[]⟩ ↔ a = [] := ba_inj (b := [])
theorem ba_app (a b : BL) : ba a ++ ba b = ba (a ++ b) := ba_ext (by simp [ba])
end Lg
namespace Lg
open Go
theorem ix_pre {l old : BL} (h : old.isPrefixOf l = true) : Lib.index l old = 0 := by
  cases l with
  | nil => cases old with
    | nil => simp [Lib.index]
    | cons a r => simp [List.isPrefixOf] at h
  | cons b l => unfold Lib.index; rw [if_pos h]
theorem ix_cons {b : UInt8} {l old : BL} (h : old.isPrefixOf (b :: l) = false) : Lib.index (b :: l) old = if Lib.index l old = -1 then -1 else Lib.index l old + 1 := by
  rw [Lib.index, h]; simp
theorem ix_nil {old : BL} (h : old ≠ []) : Lib.index [] old = -1 := by
  cases old with
  | nil => exact absurd rfl h
  | cons a r => simp [Lib.index]
theorem cnt_cons {b : UInt8} {l old : BL} (h0 : old ≠ []) (h : old.isPrefixOf (b :: l) = false) : Lib.count (b :: l) old = Lib.count l old := by
  have hix := ix_cons h
  by_cases hm : Lib.index l old = -1
  · rw [Lib.count_miss hm, Lib.count_miss (by rw [hix, if_pos hm])]
  · have hge := Lib.index_ge l old
    obtain ⟨j, hj⟩ : ∃ j : Nat, Lib.index l old = j := ⟨(Lib.index l old).toNat, by omega⟩
    have hix' : Lib.index (b :: l) old = ((j + 1 : Nat) : Int) := by rw [hix, if_neg hm, hj]; omega
    rw [Lib.count_hit h0 hj, Lib.count_hit h0 hix', show j + 1 + old.length = (j + old.length) + 1 by omega, List.drop_succ_cons]
theorem pre_app (old r : BL) : old.isPrefixOf (old ++ r) = true := by simp
theorem cnt_pre {old : BL} (h0 : old ≠ []) (r : BL) : Lib.count (old ++ r) old = 1 + Lib.count r old := by
  rw [Lib.count_hit h0 (i := 0) (ix_pre (pre_app old r)), Nat.zero_add, List.drop_left]
theorem rk_cons {b : UInt8} {l old nw : BL} (h : old.isPrefixOf (b :: l) = false) (k : Nat) : Lib.replaceK old nw k (b :: l) = b :: Lib.replaceK old nw k l := by
  cases k with
  | zero => rfl
  | succ k =>
    have hix := ix_cons h
    by_cases hm : Lib.index l old = -1
    · rw [Lib.replaceK, Lib.replaceK, hix, if_pos hm, if_pos (by decide), hm, if_pos (by decide)]
    · have hge := Lib.index_ge l old
      obtain ⟨j, hj⟩ : ∃ j : Nat, Lib.index l old = j := ⟨(Lib.index l old).toNat, by omega⟩
      have hix' : Lib.index (b :: l) old = ((j + 1 : Nat) : Int) := by rw [hix, if_neg hm, hj]; omega
      rw [Lib.replaceK_hit old nw k l j hj, Lib.replaceK_hit old nw k (b :: l) (j + 1) hix', show j + 1 + old.length = (j + old.length) + 1 by omega, List.drop_succ_cons, List.take_succ_cons]
      rfl
theorem rk_pre (old nw r : BL) (k : Nat) : Lib.replaceK old nw (k + 1) (old ++ r) = nw ++ Lib.replaceK old nw k r := by
  rw [Lib.replaceK_hit old nw k _ 0 (ix_pre (pre_app old r)), Nat.zero_add, List.drop_left]
  rfl
def ra (old nw s : BL) : BL := Lib.replaceK old nw (Lib.count s old) s
theorem ra_all {old nw : BL} (h : old ≠ nw) (s : BL) : Lib.replaceAll s old nw = ra old nw s := by
  unfold Lib.replaceAll Lib.replace Lib.replaceNum ra
  rw [if_neg (by simpa using h), if_pos (.inl (by decide))]
theorem ra_nil {old nw : BL} (h : old ≠ []) : ra old nw [] = [] := by
  unfold ra; rw [Lib.count_miss (ix_nil h)]; rfl
theorem ra_cons {b : UInt8} {l old nw : BL} (h0 : old ≠ []) (h : old.isPrefixOf (b :: l) = false) : ra old nw (b :: l) = b :: ra old nw l := by
  unfold ra; rw [cnt_cons h0 h, rk_cons h]
theorem ra_pre {old : BL} (h0 : old ≠ []) (nw r : BL) : ra old nw (old ++ r) = nw ++ ra old nw r := by
  unfold ra; rw [cnt_pre h0, Nat.add_comm, rk_pre]
theorem ra_one (c : UInt8) (nw : BL) : ∀ s : BL, ra [c] nw s = s.flatMap fun b => if b = c then nw else [b]
  | [] => ra_nil (by simp)
  | b :: l => by
    rw [List.flatMap_cons, ← ra_one c nw l]
    by_cases h : b = c
    · subst h; rw [if_pos rfl]; exact ra_pre (old := [b]) (by simp) nw l
    · rw [if_neg h, ra_cons (by simp) (by simp [List.isPrefixOf, Ne.symm h])]; rfl
def pcs (c : UInt8) : BL → List BL
  | [] => [[]]
  | b :: l => if b = c then [] :: pcs c l else match pcs c l with
    | [] => [[b]]
    | p :: r => (b :: p) :: r
theorem pcs_no {c : UInt8} : ∀ {l : BL}, c ∉ l → pcs c l = [l]
  | [], _ => rfl
  | b :: l, h => by
    have hb : ¬ b = c := fun e => h (by simp [e])
    rw [pcs, if_neg hb, pcs_no (fun e => h (by simp [e]))]
theorem pcs_hit {c : UInt8} : ∀ {p : BL} (r : BL), c ∉ p → pcs c (p ++ c :: r) = p :: pcs c r
  | [], r, _ => by simp [pcs]
  | b :: p, r, h => by
    have hb : ¬ b = c := fun e => h (by simp [e])
    rw [List.cons_append, pcs, if_neg hb, pcs_hit r (fun e => h (by simp [e]))]
theorem first_of (c : UInt8) : ∀ l : BL, c ∉ l ∨ ∃ p r, l = p ++ c :: r ∧ c ∉ p
  | [] => .inl (by simp)
  | b :: l => by
    by_cases h : b = c
    · subst h; exact .inr ⟨[], l, rfl, by simp⟩
    · rcases first_of c l with h1 | ⟨p, r, rfl, h1⟩
      · exact .inl (by simp [Ne.symm h, h1])
      · exact .inr ⟨b :: p, r, rfl, by simp [Ne.symm h, h1]⟩
end Lg
namespace Lg
open Go
def pesc1 (b : UInt8) : BL := if b = 126 then [126, 48] else if b = 47 then [126, 49] else [b]
def pesc (s : BL) : BL := s.flatMap pesc1
def pune : BL → BL
  | 126 :: 48 :: r => 126 :: pune r
  | 126 :: 49 :: r => 47 :: pune r
  | b :: r => b :: pune r
  | [] => []
def okP (s : BL) : Prop := ∀ i : Nat, s[i]? = some 126 → s[i + 1]? = some 48 ∨ s[i + 1]? = some 49
theorem esc_ra (s : BL) : ra [47] [126, 49] (ra [126] [126, 48] s) = pesc s := by
  rw [ra_one, ra_one, List.flatMap_assoc]
  unfold pesc
  congr 1
  funext b
  unfold pesc1
  by_cases h : b = 126
  · subst h; rfl
  · rw [if_neg h, if_neg h]
    by_cases h2 : b = 47
    · subst h2; rfl
    · simp [h2]
theorem okP_tl {b : UInt8} {l : BL} (h : okP (b :: l)) : okP l := fun i hi => h (i + 1) hi
theorem okP_hd {l : BL} (h : okP (126 :: l)) : ∃ r, l = 48 :: r ∨ l = 49 :: r := by
  have := h 0 rfl
  cases l with
  | nil => simp at this
  | cons c r => simp at this; rcases this with rfl | rfl; exact ⟨r, .inl rfl⟩; exact ⟨r, .inr rfl⟩
theorem okP_nil : okP [] := fun i hi => by simp at hi
theorem une_c {b : UInt8} (hb : ¬ b = 126) (l : BL) : pune (b :: l) = b :: pune l := by
  rw [pune.eq_def]; split
  · rename_i heq; exact absurd (List.cons.inj heq).1 hb
  · rename_i heq; exact absurd (List.cons.inj heq).1 hb
  · rename_i b' r' h1 h2 heq; obtain ⟨rfl, rfl⟩ := List.cons.inj heq; rfl
  · rename_i heq; cases heq
theorem okP_ind {M : BL → Prop} (h0 : M []) (h1 : ∀ r, okP r → M r → M (126 :: 48 :: r)) (h2 : ∀ r, okP r → M r → M (126 :: 49 :: r)) (h3 : ∀ b r, ¬ b = 126 → okP r → M r → M (b :: r)) : ∀ (n : Nat) (l : BL), l.length ≤ n → okP l → M l := by
  intro n
  induction n with
  | zero => intro l hl _; obtain rfl : l = [] := List.eq_nil_of_length_eq_zero (by omega); exact h0
  | succ n ih =>
    intro l hl h
    cases l with
    | nil => exact h0
    | cons b r =>
      by_cases hb : b = 126
      · subst hb
        obtain ⟨t, rfl | rfl⟩ := okP_hd h
        · exact h1 t (okP_tl (okP_tl h)) (ih t (by simp at hl; omega) (okP_tl (okP_tl h)))
        · exact h2 t (okP_tl (okP_tl h)) (ih t (by simp at hl; omega) (okP_tl (okP_tl h)))
      · exact h3 b r hb (okP_tl h) (ih r (by simp at hl; omega) (okP_tl h))
theorem esc_cons (b : UInt8) (l : BL) : pesc (b :: l) = pesc1 b ++ pesc l := rfl
def shw (l : List BL) : BL := l.flatMap fun x => 47 :: pesc x
theorem shw_cons (x : BL) (l : List BL) : shw (x :: l) = 47 :: (pesc x ++ shw l) := by simp [shw]
theorem okP_sfx : ∀ {p l : BL}, okP (p ++ l) → okP l
  | [], _, h => h
  | _ :: p, l, h => okP_sfx (p := p) (okP_tl h)
theorem okP_pfx {p r : BL} (h : okP (p ++ 47 :: r)) : okP p := fun i hi => by
  have hlt := (List.getElem?_eq_some_iff.1 hi).1
  have h2 := h i (by rw [List.getElem?_append_left hlt]; exact hi)
  by_cases e : i + 1 < p.length
  · rw [List.getElem?_append_left e] at h2; exact h2
  · have e2 : i + 1 = p.length := by omega
    rw [e2, List.getElem?_append_right (Nat.le_refl _), Nat.sub_self] at h2
    simp at h2
theorem pcs_ok (n : Nat) : ∀ l : BL, l.length ≤ n → okP l → ∀ p ∈ pcs 47 l, okP p ∧ (47 : UInt8) ∉ p ∧ p.length ≤ l.length := by
  induction n with
  | zero => intro l h _ p hp; obtain rfl : l = [] := List.eq_nil_of_length_eq_zero (by omega); simp [pcs] at hp; subst hp; exact ⟨okP_nil, by simp, by simp⟩
  | succ n ih =>
    intro l h hk p hp
    rcases first_of 47 l with h1 | ⟨q, r, rfl, h1⟩
    · rw [pcs_no h1] at hp; simp at hp; subst hp; exact ⟨hk, h1, Nat.le_refl _⟩
    · rw [pcs_hit r h1] at hp
      rcases List.mem_cons.1 hp with rfl | hp
      · exact ⟨okP_pfx hk, h1, by simp⟩
      · obtain ⟨a, b, c⟩ := ih r (by simp at h; omega) (okP_tl (okP_sfx hk)) p hp
        exact ⟨a, b, by simp; omega⟩
theorem esc_len : ∀ l : BL, (pesc l).length ≤ 2 * l.length
  | [] => by simp [pesc]
  | b :: l => by
    have := esc_len l
    rw [esc_cons, List.length_append, List.length_cons]
    have : (pesc1 b).length ≤ 2 := by unfold pesc1; split <;> (try split) <;> simp
    omega
end Lg
namespace Lg
open Go Go.RowKit
variable [GLay] {P : Program} {σ : List AO} {e : Env} {o : Oper}
section ifaces
variable {T T' U : TypeId} {x y : Operand} {ms : Array (String × TypeId)} {k k' : IntKind}
end ifaces
section more
variable {T T' : TypeId} {x y : Operand}
theorem op_eqSR {fs : Array Field} {cs ds : List AV} {r r' : Bool} (ho : o.op = .binOp .eql T x y T') (hu : P.underlying T = some (.struct fs)) (hp : P.stoodInHeld T = false) (hm : P.eqGuardType P.depth T = false)
    (h : FEq P 0 fs.toList cs ds r) (hx : opv e x = .agg cs) (hy : opv e y = .agg ds) (hr : r = r') : AOp P σ e o (.bool r') σ := by
  have := op_eqS (P := P) (σ := σ) ho hu hp hm h hx hy; rwa [hr] at this
end more
end Lg
namespace Lg
open Go Go.RowKit
variable [GLay]
variable {P : Program} {N : Nat} {σ l : List AO} {e : Env} {Q : QA} {o : Oper}
theorem BAt.mk {s : CS} {p : Nat} {T : TypeId} {l : List UInt8} {R : Pl → Prop} (hσ : s.σ[p]? = some (.bytes T l)) (h : R (s.μ p)) : BAt s p l.length R := by
  unfold BAt; rw [hσ]; exact ⟨Nat.le_refl _, fun _ => h⟩
end Lg
namespace Lg
open Go Go.RowKit
variable [GLay]
variable {P : Program} {N : Nat} {σ l : List AO} {e : Env} {Q : QA} {o : Oper}
section ptrs
variable {T E T' : TypeId} {x y : Operand}
end ptrs
end Lg
namespace Lg
open Go Go.RowKit
variable [GLay]
variable {P : Program} {N : Nat} {σ l : List AO} {e : Env} {Q : QA} {o : Oper}
end Lg
namespace Lg
open Go Go.RowKit
variable [GLay]
variable {P : Program} {N : Nat} {σ l : List AO} {e : Env} {Q : QA} {o : Oper}
section res
variable {τ : List AO} {n t1 t2 : Nat} {el : List (Nat × AV)} {v1 v2 : AV} {R : Out → List AO → Prop}
end res
structure BldT (P : Program) (B E : TypeId) (σ : List AO) (p off q : Nat) (cs : List AV) (l : List UInt8) : Prop where
  box : σ[p]? = some (.box cs)
  adr : cs[off]? = some (.ptr p off) ∨ ∃ U n, cs[off]? = some (.nilT p U n) ∧ liesAt P P.depth U (n / P.cellsOf U) off B 1 = true
  buf : cs[off + 1]? = some (.bts q l.length)
  row : σ[q]? = some (.bytes E l)
theorem BldT.ne {B E : TypeId} {p off q : Nat} {cs : List AV} {l : List UInt8} (h : BldT P B E σ p off q cs l) : p ≠ q := fun e => by
  have h1 := h.box; have h2 := h.row
  rw [e, h2] at h1; cases h1
end Lg
namespace Lg
open Go Go.RowKit
variable [GLay]
variable {P : Program} {N : Nat} {σ l : List AO} {e : Env} {Q : QA} {o : Oper}
section bitops
variable {T T' : TypeId} {x y : Operand} {k yk : IntKind} {n m r : Int}
end bitops
end Lg
namespace Lg
open Go Go.RowKit
variable [GLay]
structure Agr (s s' : CS) : Prop where
  objs : ∀ p o, s.σ[p]? = some o → s'.σ[p]? = some o ∧ s'.μ p = s.μ p
  ok : ∀ b, s.ok b ↔ s'.ok b
  w : s'.w = s.w
section
variable {s s' : CS}
end
end Lg
namespace Lg
open Go
end Lg
namespace Lg
open Go
end Lg
namespace Lg
open Go
end Lg
namespace Lg
open Go
theorem ltake_succ {α : Type} {l : List α} {i : Nat} {x : α} (h : l[i]? = some x) : l.take (i + 1) = l.take i ++ [x] := by rw [List.take_add_one, h]; rfl
end Lg
namespace Lg
open Go Go.RowKit
variable [GLay] {P : Program} {τ ρ : List AO} {E : TypeId} {a a' : AV} {l l' : List UInt8}
end Lg
namespace Lg
open Go
end Lg
namespace Lg
open Go Go.Lib
def u8L (l : List UInt8) : Nat := u8N l.length (l.getD 0 0).toNat (l.getD 1 0).toNat (l.getD 2 0).toNat (l.getD 3 0).toNat
theorem validD_u8 (l : List UInt8) (hne : l ≠ []) : validD l = if u8L l = 0 then false else validD (l.drop (u8L l)) := by
  rw [validD_step _ hne]
  have hw := decodeL_width l
  rw [decodeL_N] at hw ⊢
  unfold u8L u8N
  by_cases hc : (decodeN l.length (l.getD 0 0).toNat (l.getD 1 0).toNat (l.getD 2 0).toNat (l.getD 3 0).toNat).1 = 65533 ∧ (decodeN l.length (l.getD 0 0).toNat (l.getD 1 0).toNat (l.getD 2 0).toNat (l.getD 3 0).toNat).2 = 1
  · rw [if_pos hc, if_pos hc, if_pos rfl]
  · rw [if_neg hc, if_neg hc, if_neg (by omega)]
theorem u8N_pre {n b0 b1 b2 b3 n' c0 c1 c2 c3 w : Nat} (hb0 : b0 < 256) (h : u8N n b0 b1 b2 b3 = w) (hw : w ≠ 0) (hl : w ≤ n') (h0 : c0 = b0) (h1 : 1 < w → c1 = b1) (h2 : 2 < w → c2 = b2) (h3 : 3 < w → c3 = b3) (hn : 1 ≤ n) :
    u8N n' c0 c1 c2 c3 = w ∧ w ≤ n := by
  subst h0
  by_cases k0 : c0 < 128
  · rw [u8N_1 k0] at h; subst h; exact ⟨u8N_1 k0, hn⟩
  by_cases k1 : c0 < 192 ∨ 248 ≤ c0
  · rw [u8N_0 (by omega) hb0] at h; exact absurd h.symm hw
  by_cases k2 : c0 < 224
  · rw [u8N_2 (by omega) k2] at h
    split at h
    · subst h
      have := h1 (by omega); subst this
      rw [u8N_2 (by omega) k2, if_pos (by omega)]; omega
    · exact absurd h.symm hw
  by_cases k3 : c0 < 240
  · rw [u8N_3 (by omega) k3 rfl] at h
    split at h
    · subst h
      have := h1 (by omega); subst this
      have := h2 (by omega); subst this
      rw [u8N_3 (by omega) k3 rfl, if_pos (by omega)]; omega
    · exact absurd h.symm hw
  · rw [u8N_4 (by omega) (by omega) rfl] at h
    split at h
    · subst h
      have := h1 (by omega); subst this
      have := h2 (by omega); subst this
      have := h3 (by omega); subst this
      rw [u8N_4 (by omega) (by omega) rfl, if_pos (by omega)]; omega
    · exact absurd h.symm hw
theorem u8L_pre {L L' : List UInt8} (hne : L ≠ []) (hw : u8L L ≠ 0) (hl : u8L L ≤ L'.length) (hp : ∀ k, k < u8L L → L'.getD k 0 = L.getD k 0) : u8L L' = u8L L ∧ u8L L ≤ L.length := by
  have hn : 1 ≤ L.length := by cases L with
    | nil => exact absurd rfl hne
    | cons => simp
  exact u8N_pre (L.getD 0 0).toNat_lt (rfl : u8L L = u8L L) hw hl (by rw [hp 0 (by omega)]) (fun h => by rw [hp 1 h]) (fun h => by rw [hp 2 h]) (fun h => by rw [hp 3 h]) hn
theorem u8L_bat (s : ByteArray) (i : Nat) : u8L (s.data.toList.drop i) = u8 s i := by
  have hg : ∀ k, (s.data.toList.drop i).getD k 0 = bat s (i + k) := fun k => by simp [bat, List.getD, List.getElem?_drop]
  unfold u8L u8
  rw [hg, hg, hg, hg, List.length_drop, Array.length_toList]; rfl
theorem Utf.ext {s : ByteArray} {i : Nat} (h : i < s.size) (hu : ¬ u8 s i = 0) : Utf (s.extract i (i + u8 s i)) := by
  have hne : s.data.toList.drop i ≠ [] := by
    intro e
    have := congrArg List.length e
    rw [List.length_drop, Array.length_toList] at this
    have h' : i < s.data.size := h
    simp at this; omega
  have hle := u8_le h
  have hsz : s.data.size = s.size := rfl
  have hlist : (s.extract i (i + u8 s i)).data.toList = (s.data.toList.drop i).take (u8 s i) := by
    simp [ByteArray.data_extract, List.extract_eq_take_drop]
  have hlen : ((s.data.toList.drop i).take (u8 s i)).length = u8 s i := by simp; omega
  unfold Utf
  rw [hlist]
  have he := (u8L_pre hne (by rw [u8L_bat]; exact hu) (L' := (s.data.toList.drop i).take (u8 s i)) (by rw [hlen, u8L_bat]; exact Nat.le_refl _) (fun k hk => by
    rw [u8L_bat] at hk
    simp only [List.getD_eq_getElem?_getD, List.getElem?_take, hk, if_true])).1
  rw [u8L_bat] at he
  rw [validD_u8 _ (fun e => by rw [e] at hlen; simp at hlen; omega), he, if_neg hu, List.drop_eq_nil_of_le (by omega)]
  rfl
end Lg
namespace Lg
open Go
structure RS where
  a : Nat
  deep : Int
  bad : Int
  spot : Int
section
variable (rv : RS → JV × RS) (s : ByteArray)
end
structure ROK (s : ByteArray) (r : RS) : Prop where
  a : r.a ≤ s.size + 1
  b : r.bad = 0 → r.a ≤ s.size
  d0 : 0 ≤ r.deep
  d1 : r.deep ≤ r.a
structure RTo (s : ByteArray) (r r' : RS) : Prop where
  a : r.a ≤ r'.a
  ok : ROK s r'
  b : r'.bad = 0 → r.bad = 0
theorem RTo.refl {s : ByteArray} {r : RS} (h : ROK s r) : RTo s r r := ⟨Nat.le_refl _, h, id⟩
theorem RTo.trans {s : ByteArray} {r r' r'' : RS} (h : RTo s r r') (k : RTo s r' r'') : RTo s r r'' := ⟨Nat.le_trans h.a k.a, k.ok, fun e => h.b (k.b e)⟩
end Lg
namespace Lg
open Go
variable [GLay]
theorem bytesLess_trans : ∀ (a b c : List UInt8), Op.bytesLess a b = true → Op.bytesLess b c = true → Op.bytesLess a c = true
  | [], [], _, h, _ => by simp [Op.bytesLess] at h
  | [], _ :: _, [], _, h => by simp [Op.bytesLess] at h
  | [], _ :: _, _ :: _, _, _ => by simp [Op.bytesLess]
  | _ :: _, [], _, h, _ => by simp [Op.bytesLess] at h
  | _ :: _, _ :: _, [], _, h => by simp [Op.bytesLess] at h
  | x :: a, y :: b, z :: c, h, k => by
    simp only [Op.bytesLess] at h k ⊢
    have ih := bytesLess_trans a b c
    have e1 : ∀ u v : UInt8, (u < v) = (u.toNat < v.toNat) := fun u v => by rw [UInt8.lt_iff_toNat_lt]
    have e2 : ∀ u v : UInt8, (u = v) = (u.toNat = v.toNat) := fun u v => by rw [UInt8.toNat_inj]
    simp only [e1, beq_iff_eq, e2, Bool.if_true_left, Bool.or_eq_true, decide_eq_true_eq, Bool.and_eq_true, Bool.if_false_right] at h k ⊢
    rcases h with h | h <;> rcases k with k | k
    · left; omega
    · left; omega
    · left; omega
    · right; exact ⟨by omega, ih h.2 k.2⟩
theorem blt_trans {a b c : ByteArray} (h : blt a b = true) (k : blt b c = true) : blt a c = true := bytesLess_trans _ _ _ h k
theorem ltL_append (n : Nat) (a b : List AV) : AV.ltL n (a ++ b) ↔ AV.ltL n a ∧ AV.ltL n b := by
  induction a with
  | nil => simp [AV.ltL]
  | cons x a ih => simp only [List.cons_append, AV.ltL, ih, and_assoc]
structure VR (s : ByteArray) (r : RS) (x : JV × RS) : Prop where
  fwd : RTo s r x.2
  deep : x.2.deep = r.deep
  jb : jb x.1
  size : jsize x.1 ≤ (x.2.a : Int) - r.a + 1
  may : x.2.bad = 0 → jmay x.1
section
variable {rv : RS → JV × RS} {s : ByteArray} (hs : s.size ≤ 100000) (hrv : ∀ r, ROK s r → VR s r (rv r))
include hrv
include hs
include hs
end
end Lg
namespace Lg
open Go
variable [GLay]
end Lg
namespace Lg
open Go
end Lg
namespace Lg
open Go
end Lg
namespace Lg
open Go Go.RowKit
variable [GLay]
variable {P : Program} {σ l : List AO} {e : Env} {o : Oper} {p : Nat} {x : AO}
theorem ba_eqq (a b : ByteArray) : (a == b) = decide (a = b) := by
  obtain ⟨a⟩ := a
  obtain ⟨b⟩ := b
  show (a == b) = _
  by_cases h : a = b
  · subst h; simp
  · have : ¬ (ByteArray.mk a = ByteArray.mk b) := fun e => h (by injection e)
    simp [h, this]
instance : LawfulBEq ByteArray where
  eq_of_beq {a b} h := by rw [ba_eqq] at h; exact of_decide_eq_true h
  rfl {a} := by rw [ba_eqq]; exact decide_eq_true rfl
section
variable {T K E : TypeId} {a b c : Operand} {m : List (ByteArray × AV)} {k : ByteArray} {z : Value}
end
end Lg
namespace Lg
open Go
end Lg
namespace Lg
open Go Go.RowKit
section
variable [GLay]
variable {P : Program} {N : Nat} {σ l : List AO} {e : Env} {Q : QA} {o : Oper}
theorem AWp_slotLe {c : Code} (t : Nat) {v w : AV} (hl : lookO e.l t = some v) (hle : AVle v w) (k : AWp P N c (e.put (some t) w) σ Q) (ht : t < N) : AWp P N c e σ Q := fun s0 s a hs g x he => by
  subst hs
  have hv := he.tmps t
  rw [show e.look t = v from lookO_eq hl] at hv
  exact k s0 s a rfl g x (by
    have h1 := he.put (some t) (hle _ _ hv) (fun d hd => by cases hd; exact ht)
    have h2 : a.put (some t) (a.eval (.tmp t)) = a := put_self (by rw [he.size]; exact ht)
    rwa [h2] at h1)
theorem AWp_ghostT {c : Code} (t sz : Nat) (hl : lookO e.l t = some .nils) (k : AWp P N c (e.put (some t) (.arr σ.length 0 sz 0 0)) (σ ++ [AO.arr sz 0 []]) Q) (ht : t < N) : AWp P N c e σ Q := fun s0 s a hs g x he => by
  subst hs
  obtain ⟨s1, e1, e2, g1, x1⟩ := g.ghost sz
  have hv := (he.mono g x1).tmps t
  rw [show e.look t = .nils from lookO_eq hl] at hv
  have hv0 := hv.inv_nils
  have hv' : V s1 (.arr s.σ.length 0 sz 0 0) (a.eval (.tmp t)) := by
    rw [hv0]; exact .arr _ _ _ _ _ _ rfl (.mk (cs := []) (by rw [e1]; simp) ⟨rfl, .inl ⟨none, rfl, rfl⟩⟩)
  have := k s0 s1 a e1 g1 (x.trans x1) (by
    have h1 := (he.mono g x1).put (some t) hv' (fun d hd => by cases hd; exact ht)
    have h2 : a.put (some t) (a.eval (.tmp t)) = a := put_self (by rw [he.size]; exact ht)
    rwa [h2] at h1)
  rwa [e2] at this
theorem AWp_ghostTO {c : Code} (t sz n : Nat) (hn : l.length = n) (hl : lookO e.l t = some .nils) (k : AWp P N c (e.put (some t) (.arr (σ.length + n) 0 sz 0 0)) (σ ++ (l ++ [AO.arr sz 0 []])) Q) (ht : t < N) : AWp P N c e (σ ++ l) Q :=
  AWp_ghostT t sz hl (by rw [List.length_append, hn, List.append_assoc]; exact k) ht
theorem op_eqSlR {T T' E : TypeId} {x : Operand} {f : Bool} {sz : Nat} {es : List (List AV)} (ho : o.op = .binOp .eql T x (.const (.slice none 0 0)) T') (hu : P.underlying T = some (.slice E)) (hx : opO e x = some (.sl f sz es)) :
    AOpR P σ e o (fun v σ' => σ' = σ ∧ ∃ b, v = .bool b ∧ (b = true → es = [])) (fun _ _ => False) := fun s a hs g hv K Q hk hq => by
  have h1 := opO_eq hx ▸ hv x (by simp [ho, Op.operands])
  obtain ⟨ad, len, cap, hc, hn⟩ : ∃ ad len cap, a.eval x = .slice ad len cap ∧ (ad = none → es = []) := by
    rcases h1.inv_sl with ⟨ad, h, he⟩ | ⟨b, off, cap, vs, h, _⟩
    · exact ⟨ad, 0, 0, h, fun _ => he⟩
    · exact ⟨_, _, _, h, fun h => by cases h⟩
  have he : ∀ d, (Go.Op.equalIn (d + 1) T (.slice ad len cap) (.slice none 0 0)).run P s.w = .ok ad.isNone s.w := fun d => by cases ad <;> simp [Go.Op.equalIn, run_underlying hu]
  have he' : (Go.Op.equal T (.slice ad len cap) (.slice none 0 0)).run P s.w = .ok ad.isNone s.w := he 9999
  have hb : (binOp .eql T (.slice ad len cap) (.slice none 0 0)).run P s.w = .ok (.bool ad.isNone) s.w := by
    simp only [binOp]; simp [he']
  have hg : (eqGuard .eql T x (.const (.slice none 0 0)) (.slice ad len cap) (.slice none 0 0)).run P s.w = .ok () s.w := by
    simp [eqGuard]
  have hrun : (execOp a.eval o).run P s.w = .ok (.value (.bool ad.isNone)) s.w := by
    have hc2 : a.eval (.const (.slice none 0 0)) = .slice none 0 0 := rfl
    simp [execOp, ho, hc, hc2, hb, hg]
  exact wp_value hrun (hk (.bool ad.isNone) _ s ⟨hs, _, rfl, fun h => hn (by simpa using h)⟩ g (Ext.refl s) (.bool _))
end
end Lg
namespace Lg
open Go Go.RowKit
section
variable [GLay] {P : Program} {N : Nat} {σ l : List AO} {e : Env} {Q : QA} {o : Oper}
theorem AWp_freezeAO {c : Code} (t k gg sz n : Nat) (es : List (List AV)) (hl : lookO e.l t = some (.arr (σ.length + k) gg sz 0 n)) (hk : l[k]? = some (.arr sz gg es.flatten)) (hel : ∀ r ∈ es, r.length = sz) (hn : es.length = n) (hsz : sz ≠ 0) (h : AWp P N c (e.put (some t) (.sl false sz es)) (σ ++ l.set k .dead) Q) (ht : t < N) : AWp P N c e (σ ++ l) Q := by
  have hf : es.flatten.length = n * sz := by rw [flatten_len hel, hn]
  exact AWp_freezeArr t (σ.length + k) gg sz 0 n hl (by rw [get_own]; exact hk) es (by rw [Nat.zero_mul, List.drop_zero, ← hf, List.take_length]) hel hn hsz (by rw [hf, Nat.zero_add]; exact Nat.le_refl _) (by rw [set_own]; exact h) ht
end
def srow (l : List BL) : List (List AV) := l.map fun x => [AV.str (ba x)]
theorem srow_len (l : List BL) : (srow l).length = l.length := by simp [srow]
theorem srow_get {l : List BL} {i : Nat} {x : BL} (h : l[i]? = some x) : (srow l)[i]? = some [AV.str (ba x)] := by simp [srow, h]
@[simp] theorem srow_lt (m : Nat) (l : List BL) : AV.ltLL m (srow l) := by
  induction l with
  | nil => simp [srow, AV.ltLL]
  | cons a r ih => simpa [srow, AV.ltLL, AV.ltL, AV.lt] using ih
@[simp] theorem smap_lt (m : Nat) (l : List BL) : AV.ltL m (l.map fun x => AV.str (ba x)) := by
  induction l with
  | nil => simp [AV.ltL]
  | cons a r ih => simpa [AV.ltL, AV.lt] using ih
theorem ra1_len (c : UInt8) (nw : BL) (h : nw.length ≤ 2) : ∀ s : BL, (ra [c] nw s).length ≤ 2 * s.length := by
  intro s
  rw [ra_one]
  induction s with
  | nil => simp
  | cons b r ih =>
    rw [List.flatMap_cons, List.length_append, List.length_cons]
    have : (if b = c then nw else [b]).length ≤ 2 := by split <;> simp [h]
    omega
theorem shw_snoc (l : List BL) (x : BL) : shw (l ++ [x]) = shw l ++ 47 :: pesc x := by simp [shw]
theorem shw_len (B : Nat) : ∀ l : List BL, (∀ x ∈ l, x.length ≤ B) → (shw l).length ≤ l.length * (2 * B + 1)
  | [], _ => by simp [shw]
  | x :: l, h => by
    have ih := shw_len B l (fun y hy => h y (by simp [hy]))
    have hx := h x (by simp)
    have he := esc_len x
    rw [shw_cons, List.length_cons, List.length_append, List.length_cons, Nat.add_mul]
    omega
def tbad (s : BL) (i : Nat) : Bool := decide (s[i]? = some 126) && !(decide (s[i + 1]? = some 48) || decide (s[i + 1]? = some 49))
def pE (s : BL) : Option Nat := if s = [] then none else if ¬ s[0]? = some 47 then some 0 else (List.range s.length).find? (tbad s)
def pN (s : BL) : List BL := if s = [] then [] else if (pE s).isSome then [] else (pcs 47 (s.drop 1)).map pune
theorem pE_none {s : BL} (h0 : ¬ s = []) (h1 : s[0]? = some 47) (h : ∀ i, i < s.length → tbad s i = false) : pE s = none := by
  unfold pE; rw [if_neg h0, if_neg (by simp [h1])]
  exact List.find?_eq_none.2 fun i hi => by simp [h i (List.mem_range.1 hi)]
end Lg
namespace Lg
open Go
end Lg
namespace Lg
open Go Go.Lib Go.ChangeShapes Go.WideShapes
theorem calls_of2 {P : Program} {f : FuncId} {args : List AV} {cargs : List Value} {W : World} (ha : ∀ [GLay] (s : CS), s.w = W → (∀ b, b < W.heap.size → s.ok b) → PW s args cargs)
    (h : ∀ [g : GLay], (∀ b, g.f b = W.heap[b]?) → ACalls P f args [] (Ret (.bool true) [])) : Calls P f cargs.toArray W fun e W' => e = .returned (.bool true) ∧ Go.RowKit.Below W.heap.size W W' := by
  letI : GLay := ⟨fun b => W.heap[b]?⟩
  let s0 : CS := { σ := [], μ := fun _ => ⟨0, 0, 0⟩, ok := fun b => b < W.heap.size, w := W }
  have g0 : Good s0 := ⟨fun b hb => hb, fun p o ho => by simp [s0] at ho, fun p q _ hp _ => by
      have : p < s0.σ.length := CS.live_lt hp
      simp [s0] at this, fun b o ho => ⟨(Array.getElem?_eq_some_iff.1 ho).1, ho⟩⟩
  refine (h (fun _ => rfl) s0 cargs rfl g0 (ha s0 rfl fun _ hb => hb)).mono fun e W' hc => ?_
  obtain ⟨s', rfl, g', x', hr⟩ := hc
  have hbel : Go.RowKit.Below W.heap.size W s'.w := ⟨x'.os, x'.tape, x'.output, x'.size, fun k hk => x'.frame k hk (fun p hp => by
    have : p < s0.σ.length := CS.live_lt hp
    simp [s0] at this)⟩
  cases e with
  | returned cv =>
    obtain ⟨v, hv, he, _⟩ := hr
    injection he with he
    subst he
    rw [hv.inv_bool]
    exact ⟨rfl, hbel⟩
  | outgrown => exact hr.elim
  | panicked ch =>
    cases ch with
    | nil => exact hr.elim
    | cons en r =>
      cases r with
      | nil => obtain ⟨_, v, _, he, _⟩ := hr; cases he
      | cons => exact hr.elim
end Lg
namespace Go
end Go
namespace Go
open Go.Lib Go.ChangeShapes Go.WideShapes
theorem Lg.returns_shaped_sized {H : Type} {enc : TypeId × Value → H} {a : Assume} {C : Checked} {os : Os} {f : FuncId} {fn : Func} {s : ChangeSpec} {conds : List PathCond} {apart fresh handsOn again : Bool} {X : World → Array Value → Prop}
    (hX : ∀ (w w' : World) (args : Array Value), w.heap = w'.heap → X w args → X w' args)
    (own : ownKnob C.prog.godebug = none) (started : os.Started) (noInit : C.prog.inits.idxOf? f = none) (hfn : C.prog.funcs[f]? = some fn)
    (witness : ∃ (w : World) (tape : Tape) (i : Input), w.os = os ∧ (w.forCall tape i).Shaped C.prog ∧ i.vars = [] ∧ Input.okWide C.prog (w.forCall tape i) .any w.heap.size f i ∧
      ((s.pre enc C.prog fn conds apart (w.forCall tape i).memory i.args ∧ X (w.forCall tape i).memory i.args) ∧ sizedMet enc C.prog fn (OpenSpec.ofChange s) apart (w.forCall tape i).memory i.args) ∧ a.holds C.prog (lone (Frame.enter C.prog f i.args .normal) [] (w.forCall tape i)))
    (contract : ∀ (W : World) (base : Nat) (args : Array Value) (ds gs : List (DataW H)) (before : List MemPlace),
      (∀ (j : Nat) t v, fn.params[j]? = some t → args[j]? = some v → Value.okWide C.prog W .any base t v) →
      DataW.Whole enc C.prog fn.params.toList s.vars apart W args.toList ds gs before →
      (DataW.weightsEach C.prog (fn.params.toList ++ s.plain.varTypes C.prog) (ds ++ gs)).all (· ≤ reachBytes) = true →
      X W args → W.ShapedOpen C.prog →
      Calls C.prog f args W fun e W' => ∃ v, e = .returned v ∧ s.post enc C.prog fn apart fresh handsOn again W args v W') :
    ReturnsInHanded a C os f .any (fun w args => (s.pre enc C.prog fn conds apart w args ∧ X w args) ∧ sizedMet enc C.prog fn (OpenSpec.ofChange s) apart w args) (s.post enc C.prog fn apart fresh handsOn again) := by
  refine returnsInHanded_of_calls own started noInit witness ?_
  intro w tape i _ hsh _ hok hpre _
  obtain ⟨_, _, _, fn', hfn', _, _, _, _, hval⟩ := hok
  obtain rfl : fn' = fn := Option.some.inj (hfn'.symm.trans hfn)
  obtain ⟨⟨⟨ds, gs, before, hw, _⟩, hx⟩, hz⟩ := hpre
  refine (contract (w.forCall tape i) w.heap.size i.args ds gs before hval (DataW.Whole.of_heap (w' := w.forCall tape i) (by rfl) hw) (hz.weights hw) (hX _ _ _ (by rfl) hx) hsh).mono fun e W' ⟨v, he, hp⟩ => ?_
  subst he
  exact ChangeSpec.post_blind hp
end Go
namespace Lg
open Go Go.RowKit
variable [GLay]
section
variable {P : Program} {N : Nat} {ops : Array Oper} {tb : Array Nat} {QR : Env → List AO → Prop} {X : AV → List AO → Prop} {i : Nat} {e : Env} {o : Oper} {σ : List AO} {past : List (Nat × List AO)} {held : List (Nat × (List AO → Prop))}
end
end Lg
namespace Lg
open Go Go.RowKit
variable [GLay]
end Lg
namespace Lg
open Go Go.RowKit
variable [GLay]
def imap (m : List (Int × AV)) : List (AV × AV) := m.map fun q => (.int .i64 q.1, q.2)
def iget : List (Int × AV) → Int → Option (Nat × AV)
  | [], _ => none
  | (x, v) :: r, k => if k = x then some (0, v) else (iget r k).map fun z => (z.1 + 1, z.2)
theorem iget_none {m : List (Int × AV)} {k : Int} (h : ∀ q ∈ m, ¬ q.1 = k) : iget m k = none := by
  induction m with
  | nil => rfl
  | cons q r ih => obtain ⟨x, v⟩ := q; rw [iget, if_neg (fun e => h (x, v) (by simp) e.symm), ih (fun q hq => h q (by simp [hq]))]; rfl
variable {P : Program} {N : Nat} {σ : List AO} {e : Env} {o : Oper} {p : Nat}
section
variable {T K E : TypeId} {a b c : Operand} {m : List (Int × AV)} {k : Int} {z : Value}
end
end Lg
namespace Lg
open Go Go.RowKit
variable [GLay]
variable {P : Program} {N : Nat} {e : Env} {σ l : List AO} {Q : QA} {ops : Array Oper} {o : Oper}
theorem AOps_freezeAO {D : List (FuncId × List AV)} {el : List (Nat × AV)} {rest : List Oper} (t k gg sz n : Nat) (es : List (List AV)) (hl : lookO el t = some (.arr (σ.length + k) gg sz 0 n)) (hk : l[k]? = some (.arr sz gg es.flatten)) (hel : ∀ r ∈ es, r.length = sz) (hn : es.length = n) (hsz : sz ≠ 0)
    (h : AOps P N ops rest ⟨D, (t, .sl false sz es) :: el⟩ (σ ++ l.set k .dead) Q) (ht : Nat.blt t N = true) : AOps P N ops rest ⟨D, el⟩ (σ ++ l) Q := fun s0 s a hs g x he => by
  have hσ : s.σ[σ.length + k]? = some (.arr sz gg es.flatten) := by rw [hs, get_own]; exact hk
  have hv := he.tmps t
  rw [show (Env.mk D el).look t = .arr (σ.length + k) gg sz 0 n from lookO_eq hl] at hv
  have hfl : es.flatten.length = n * sz := by rw [flatten_len hel, hn]
  obtain ⟨s', e1, e2, g', x', hv'⟩ := freezeArr_V g hσ hv es (by rw [Nat.zero_mul, List.drop_zero, ← hfl, List.take_length]) hel hn hsz (by rw [Nat.zero_add, hfl]; exact Nat.le_refl _)
  have htN : t < N := by simpa using ht
  have := h s0 s' a (by rw [e1, hs, set_own]) g' (x.trans x') (by
    have h1 := (he.mono g x').put (some t) hv' (fun d hd => by cases hd; exact htN)
    rwa [put_self (by rw [he.size]; exact htN)] at h1)
  rwa [e2] at this
theorem ResQ_K {n0 : Nat} {ts : List Nat} {el : List (Nat × AV)} {v : AV} {R : Out → List AO → Prop} (m : Nat) (hm : n0 ≤ m) (h : resA ts ⟨[], el⟩ = v) (hc : closed m σ) (hv : v.lt m) (hR : R (.ret v) (σ.take m)) : ResQ n0 ts R .ret ⟨[], el⟩ σ :=
  ⟨rfl, m, hm, hc, by rw [h]; exact hv, by rw [h]; exact hR⟩
theorem imap_lt (n : Nat) (m : List (Int × AV)) (h : ∀ q ∈ m, q.2.lt n) : AV.ltL n (mflat (imap m)) := by
  induction m with
  | nil => trivial
  | cons a r ih =>
    obtain ⟨k, v⟩ := a
    exact ⟨trivial, h (k, v) (by simp), ih (fun q hq => h q (by simp [hq]))⟩
end Lg
namespace Lg
open Go Go.RowKit
variable [GLay]
variable {P : Program} {N : Nat} {e : Env} {σ l : List AO} {Q : QA} {o : Oper}
theorem PW.anys {s : CS} (vs : List Value) : PW s (List.replicate vs.length .any) vs :=
  ⟨by simp, fun i c v h1 h2 => by
    rw [List.getElem?_replicate] at h1
    split at h1
    · cases h1; exact .any v
    · cases h1⟩
theorem PW.anysN {s : CS} {n : Nat} {vs : List Value} (h : vs.length = n) : PW s (List.replicate n .any) vs := h ▸ PW.anys vs
theorem splice_list {α : Type} {vs news : List α} {base i L : Nat} (h1 : i + news.length ≤ L) (h2 : base + L ≤ vs.length) :
    ((vs.take (base + i) ++ news ++ vs.drop (base + i + news.length)).drop base).take L = (((vs.drop base).take L).take i ++ news ++ ((vs.drop base).take L).drop (i + news.length)) := by
  apply List.ext_getElem?
  intro j
  simp only [List.getElem?_take, List.getElem?_drop, List.getElem?_append, List.length_append, List.length_take, List.length_drop]
  by_cases c0 : j < L
  · simp only [c0, if_true]
    by_cases c1 : j < i
    · simp only [show base + j < min (base + i) vs.length + news.length by omega, show base + j < min (base + i) vs.length by omega, show base + j < base + i by omega, show j < min i (min L (vs.length - base)) + news.length by omega,
        show j < min i (min L (vs.length - base)) by omega, c1, if_true]
    · by_cases c2 : j < i + news.length
      · simp only [show base + j < min (base + i) vs.length + news.length by omega, show ¬ base + j < min (base + i) vs.length by omega, show j < min i (min L (vs.length - base)) + news.length by omega,
          show ¬ j < min i (min L (vs.length - base)) by omega, if_true, if_false]
        congr 1; omega
      · simp only [show ¬ base + j < min (base + i) vs.length + news.length by omega, show ¬ j < min i (min L (vs.length - base)) + news.length by omega, if_false]
        rw [if_pos (by omega)]
        congr 1; omega
  · simp only [c0, if_false]
    rw [if_neg (by omega), if_neg (by omega)]
theorem PW.splice {s : CS} {cs ds : List AV} {us ws : List Value} (h : PW s cs us) (k : PW s ds ws) (i : Nat) : PW s (cs.take i ++ ds ++ cs.drop (i + ds.length)) (us.take i ++ ws ++ us.drop (i + ws.length)) := by
  rw [k.1]
  exact ((h.take i).append k).append (h.drop _)
end Lg
namespace Lg
open Go Go.RowKit
variable [GLay]
variable {P : Program} {N : Nat} {e : Env} {σ l : List AO} {Q : QA} {o : Oper}
theorem op_clearA {x : Operand} {t E : TypeId} {z : Value} {sz p g off len : Nat} {cs : List AV} {c : Array TypeId} (ho : o.op = .call { callee := .builtin .clear, args := #[x], argTypes := c }) (hc : c[0]? = some t) (ht : P.underlying t = some (.slice E)) (hz : ∀ w, (zeroValue E).run P w = Result.ok z w) (hzs : z.cells.size = sz) (hz1 : ∀ v ∈ z.cells.toList, v.oneCell' = true)
    (hx : opO e x = some (.arr p g sz off len)) (hσ : σ[p]? = some (.arr sz g cs)) (hlen : 0 < len) (hsz0 : sz ≠ 0) (hfit : (off + len) * sz ≤ cs.length) :
    AOp P σ e o (.tup []) (σ.set p (.arr sz g (cs.take (off * sz) ++ List.replicate (len * sz) .any ++ cs.drop (off * sz + len * sz)))) := by
  intro s a hs gd hv K Q hk _
  subst hs
  have hxv := (opO_eq hx ▸ hv x (by simp [ho, Op.operands, Call.operands])).inv_arr hσ
  obtain ⟨_, ⟨A, hA, h0⟩ | ⟨cap, hA, hlc, hft⟩⟩ := hxv
  · omega
  · have hlive : s.live p := by
      unfold CS.live; rw [hσ]
      show (s.μ p).tot ≠ 0
      have : 0 < (off + cap) * sz := Nat.mul_pos (by omega) (Nat.pos_of_ne_zero hsz0)
      omega
    obtain ⟨_, vs, T, hb, ht0, h7, h8, hpv⟩ := gd.rep hσ hlive
    have hfl : off * sz + len * sz ≤ cs.length := by rw [← Nat.add_mul]; exact hfit
    have hwl : (Builtin.zeroCells z.cells len).toList.length = len * sz := by rw [Array.length_toList, size_zeroCells, hzs]
    have hw1 : ∀ v ∈ (Builtin.zeroCells z.cells len).toList, v.oneCell' = true := by
      intro v hv
      simp only [Builtin.zeroCells, Array.toList_map, List.mem_map, Array.toList_range, List.mem_range] at hv
      obtain ⟨j, hj, rfl⟩ := hv
      have hj2 : j % z.cells.size < z.cells.size := Nat.mod_lt _ (by rw [hzs]; omega)
      rw [getElem!_pos z.cells (j % z.cells.size) hj2]
      exact hz1 _ (by simp)
    generalize hws : (Builtin.zeroCells z.cells len).toList = ws at hwl hw1
    obtain ⟨q, rfl⟩ : ∃ q, len = q + 1 := ⟨len - 1, by omega⟩
    have hst := run_storeCells_at P (s.μ p).b ((s.μ p).base + off * sz) T ws 0 vs.toArray s.w hb (by simp; omega) hw1
    simp only [Nat.add_zero] at hst
    have hrun : (Builtin.clear_ c o.type #[.slice (some ⟨(s.μ p).b, (s.μ p).base + off * sz, none⟩) (q + 1) cap]).run P s.w = .ok (.tuple #[]) (s.w.setRow (s.μ p).b (vs.take ((s.μ p).base + off * sz) ++ ws ++ vs.drop ((s.μ p).base + off * sz + ws.length)).toArray) := by
      simp [Builtin.clear_, hc, run_underlying ht, hz, hws, hst]
    have hsp := splice_list (vs := vs) (news := ws) (base := (s.μ p).base) (i := off * sz) (L := cs.length) (by omega) (by omega)
    have hps := hpv.splice (PW.anysN (s := s) hwl) (off * sz)
    rw [List.length_replicate] at hps
    have hcl : (cs.take (off * sz) ++ List.replicate ((q + 1) * sz) AV.any ++ cs.drop (off * sz + (q + 1) * sz)).length = cs.length := by
      simp only [List.length_append, List.length_take, List.length_drop, List.length_replicate]; omega
    obtain ⟨s', e1, e2, g', x', hμ, hok⟩ := gd.setObj hσ hlive (o' := .arr sz g (cs.take (off * sz) ++ List.replicate ((q + 1) * sz) AV.any ++ cs.drop (off * sz + (q + 1) * sz))) (.arr _ _ _ _ _ (Nat.le_refl _) fun _ => hcl.symm) rfl
      (vs := vs.take ((s.μ p).base + off * sz) ++ ws ++ vs.drop ((s.μ p).base + off * sz + ws.length)) ⟨ht0, by simp only [List.length_append, List.length_take, List.length_drop]; omega, by rw [hcl]; exact h8, by rw [hcl, hsp]; exact hps⟩
    refine wp_value (w' := s'.w) (cv := .tuple #[]) ?_ (hk _ _ s' ⟨rfl, e1⟩ g' x' (V.tup (s := s') [] [] rfl (fun i c v h _ => by simp at h)))
    rw [e2]
    simp only [execOp, ho, resolve, invoke, builtin, Sem.run_bind, Sem.run_pure, Result.andThen_ok, List.map_toArray, List.map_cons, List.map_nil, hA]
    rw [hrun]; rfl
end Lg
namespace Lg
open Go Go.RowKit
variable [GLay]
variable {P : Program} {N : Nat} {e : Env} {σ l : List AO} {Q : QA} {o : Oper} {p : Nat} {x y z : AO} {f : FuncId} {args : List AV} {v : AV}
section
variable {T K E : TypeId} {a b c : Operand} {m : List (Int × AV)} {k : Int} {zv : Value}
end
end Lg
namespace Lg
open Go Go.RowKit
variable [GLay]
def PastG (P : Program) (tb : Array Nat) (i : Nat) (e : Env) (o : Oper) (v : AV) : List (Nat × (Bool → List AO)) → Prop
  | [] => True
  | (j, σ) :: r => (befB tb j i = true ∨ ∀ b, AOp P (σ b) e o v (σ b)) ∧ PastG P tb i e o v r
def HeldG (tb : Array Nat) (i : Nat) (σ : Bool → List AO) : List (Nat × (List AO → Prop)) → Prop
  | [] => True
  | (k, p) :: r => (befB tb k i = true ∨ ∀ b, p (σ b)) ∧ HeldG tb i σ r
def ChainG (tb : Array Nat) (i : Nat) : List (Nat × (Bool → List AO)) → Prop
  | [] => True
  | (j, _) :: r => befB tb j i = true ∧ ChainG tb i r
inductive RT (P : Program) (N : Nat) (ops : Array Oper) (tb : Array Nat) (Q : Env → List AO → Prop) : Nat → Env → List AO → Prop
  | nil {i e σ} (hi : i = ops.size) (h : Q e σ) : RT P N ops tb Q i e σ
  | op {i e σ} (o : Oper) (v : AV) (σ' : List AO) (ho : ops[i]? = some o) (hg : GuardA ops N e o true) (hd : ∀ d, o.dst = some d → d < N) (h : AOp P σ e o v σ') (hall : ((List.range i).all fun j => befB tb j i) = true)
      (k : RT P N ops tb Q (i + 1) (e.put o.dst v) σ') : RT P N ops tb Q i e σ
def Twin (B : AO) (L : Nat) (σ : Bool → List AO) : Prop := (σ false).length = L ∧ σ true = σ false ++ [B]
inductive RG (P : Program) (N : Nat) (ops : Array Oper) (tb : Array Nat) (B : AO) (L : Nat) (Q : Env → List AO → Prop) : Nat → Env → (Bool → List AO) → List (Nat × (Bool → List AO)) → List (Nat × (List AO → Prop)) → Prop
  | pure {i e σ past held} (o : Oper) (v : AV) (ho : ops[i]? = some o) (hg : GuardA ops N e o true) (hd : ∀ d, o.dst = some d → d < N) (h : ∀ b, AOp P (σ b) e o v (σ b)) (hp : PastG P tb i e o v past)
      (k : RG P N ops tb B L Q (i + 1) (e.put o.dst v) σ past ((i, fun σ' => AOp P σ' e o v σ') :: held)) : RG P N ops tb B L Q i e σ past held
  | eff {i e σ past held} (o : Oper) (v : AV) (σ' : Bool → List AO) (ho : ops[i]? = some o) (hg : GuardA ops N e o true) (hd : ∀ d, o.dst = some d → d < N) (h : ∀ b, AOp P (σ b) e o v (σ' b)) (ht : Twin B L σ') (hh : HeldG tb i σ' held) (hc : ChainG tb i past)
      (k : RG P N ops tb B L Q (i + 1) (e.put o.dst v) σ' ((i, σ) :: past) held) : RG P N ops tb B L Q i e σ past held
  | flt {i e σ past held} (o : Oper) (ho : ops[i]? = some o) (hg : GuardA ops N e o true) (hd : ∀ d, o.dst = some d → d < N) (h : ∀ τ : List AO, τ.length = L → AOp P τ e o (.ptr L 0) (τ ++ [B]))
      (k : RT P N ops tb Q (i + 1) (e.put o.dst (.ptr L 0)) (σ true)) : RG P N ops tb B L Q i e σ past held
structure TrG (P : Program) (N : Nat) (ops : Array Oper) (tb : Array Nat) (B : AO) (L : Nat) (Q : Env → List AO → Prop) (i0 f : Nat) (E : Nat → Env) (H : Bool → Nat → List AO) (val : Nat → AV) (kd : Nat → Kd) : Prop where
  le : i0 ≤ f
  fl : f < ops.size
  twin : ∀ i, i0 ≤ i → i ≤ f → Twin B L fun b => H b i
  pre : ∀ i, i0 ≤ i → i < f → ∃ o, ops[i]? = some o ∧ (∀ d, o.dst = some d → d < N) ∧ E (i + 1) = (E i).put o.dst (val i) ∧ GuardA ops N (E i) o true ∧
    ((kd i = .pure ∧ (∀ b, AOp P (H b i) (E i) o (val i) (H b i) ∧ H b (i + 1) = H b i) ∧
      (∀ j, i0 ≤ j → j < i → kd j = .eff → befB tb j i = true ∨ ∀ b, AOp P (H b j) (E i) o (val i) (H b j)) ∧
      (∀ j, i < j → j < f → kd j = .eff → befB tb i j = true ∨ ∀ b, AOp P (H b (j + 1)) (E i) o (val i) (H b (j + 1)))) ∨
    (kd i = .eff ∧ (∀ b, AOp P (H b i) (E i) o (val i) (H b (i + 1))) ∧ (∀ j, i0 ≤ j → j < i → kd j = .eff → befB tb j i = true)))
  flt : ∃ o, ops[f]? = some o ∧ (∀ d, o.dst = some d → d < N) ∧ E (f + 1) = (E f).put o.dst (val f) ∧ GuardA ops N (E f) o true ∧ kd f = .skip ∧ (∀ b, H b (f + 1) = H b f) ∧
    ∀ τ : List AO, τ.length = L → AOp P τ (E f) o (val f) (τ ++ [B])
  tail : ∀ i, f < i → i < ops.size → ∃ o, ops[i]? = some o ∧ (∀ d, o.dst = some d → d < N) ∧ E (i + 1) = (E i).put o.dst (val i) ∧ GuardA ops N (E i) o true ∧ kd i = .eff ∧
    AOp P (H true i) (E i) o (val i) (H true (i + 1)) ∧ ∀ j, j < i → befB tb j i = true
  fin : Q (E ops.size) (H true ops.size)
section rp
variable {P : Program} {N : Nat} {ops : Array Oper} {tb : Array Nat} {Q : Env → List AO → Prop} {B : AO} {L : Nat}
theorem PastG.mem {i : Nat} {e : Env} {o : Oper} {v : AV} : ∀ {past : List (Nat × (Bool → List AO))}, PastG P tb i e o v past → ∀ q ∈ past, befB tb q.1 i = true ∨ ∀ b, AOp P (q.2 b) e o v (q.2 b)
  | [], _, q, h => by simp at h
  | (j, σ) :: r, ⟨h1, h2⟩, q, h => by
    rcases List.mem_cons.1 h with rfl | h
    · exact h1
    · exact PastG.mem h2 q h
theorem HeldG.mem {i : Nat} {σ : Bool → List AO} : ∀ {held : List (Nat × (List AO → Prop))}, HeldG tb i σ held → ∀ q ∈ held, befB tb q.1 i = true ∨ ∀ b, q.2 (σ b)
  | [], _, q, h => by simp at h
  | (j, p) :: r, ⟨h1, h2⟩, q, h => by
    rcases List.mem_cons.1 h with rfl | h
    · exact h1
    · exact HeldG.mem h2 q h
theorem ChainG.mem {i : Nat} : ∀ {past : List (Nat × (Bool → List AO))}, ChainG tb i past → ∀ q ∈ past, befB tb q.1 i = true
  | [], _, q, h => by simp at h
  | (j, σ) :: r, ⟨h1, h2⟩, q, h => by
    rcases List.mem_cons.1 h with rfl | h
    · exact h1
    · exact ChainG.mem h2 q h
theorem RT.trace {i : Nat} {e : Env} {σ : List AO} (h : RT P N ops tb Q i e σ) (hi : i ≤ ops.size) :
    ∃ (E : Nat → Env) (H : Nat → List AO) (val : Nat → AV), E i = e ∧ H i = σ ∧ (∀ j, i ≤ j → j < ops.size → ∃ o, ops[j]? = some o ∧ (∀ d, o.dst = some d → d < N) ∧ E (j + 1) = (E j).put o.dst (val j) ∧ GuardA ops N (E j) o true ∧
      AOp P (H j) (E j) o (val j) (H (j + 1)) ∧ ∀ k, k < j → befB tb k j = true) ∧ Q (E ops.size) (H ops.size) := by
  induction h with
  | nil hi' h =>
    rename_i i e σ
    exact ⟨fun _ => e, fun _ => σ, fun _ => .any, rfl, rfl, fun j h1 h2 => by omega, h⟩
  | op o v σ' ho hg hd h hall k ih =>
    rename_i i e σ
    have hlt : i < ops.size := (Array.getElem?_eq_some_iff.1 ho).1
    obtain ⟨E, H, val, hE, hH, hs, hQ⟩ := ih (by omega)
    refine ⟨fun j => if j = i then e else E j, fun j => if j = i then σ else H j, fun j => if j = i then v else val j, if_pos rfl, if_pos rfl, fun j h1 h2 => ?_, ?_⟩
    · by_cases hji : j = i
      · subst hji
        refine ⟨o, ho, hd, ?_, by simpa using hg, ?_, fun k hk => List.all_eq_true.1 hall k (List.mem_range.2 hk)⟩
        · simp [hE]
        · simp only [if_true, if_neg (show j + 1 ≠ j by omega), hH]; exact h
      · simp only [if_neg hji, if_neg (show j + 1 ≠ i by omega)]; exact hs j (by omega) h2
    · simp only [if_neg (show ops.size ≠ i by omega)]; exact hQ
theorem RG.trace {i : Nat} {e : Env} {σ : Bool → List AO} {past : List (Nat × (Bool → List AO))} {held : List (Nat × (List AO → Prop))} (h : RG P N ops tb B L Q i e σ past held) (htw : Twin B L σ) :
    ∃ f E H val kd, E i = e ∧ (∀ b, H b i = σ b) ∧ TrG P N ops tb B L Q i f E H val kd ∧
      (∀ j, i ≤ j → j < f → kd j = .pure → ∀ q ∈ past, ∃ o, ops[j]? = some o ∧ (befB tb q.1 j = true ∨ ∀ b, AOp P (q.2 b) (E j) o (val j) (q.2 b))) ∧
      (∀ j, i ≤ j → j < f → kd j = .eff → (∀ q ∈ held, befB tb q.1 j = true ∨ ∀ b, q.2 (H b (j + 1))) ∧ ∀ q ∈ past, befB tb q.1 j = true) := by
  induction h with
  | flt o ho hg hd h k =>
    rename_i i e σ past held
    have hlt : i < ops.size := (Array.getElem?_eq_some_iff.1 ho).1
    obtain ⟨E, H, val, hE, hH, hs, hQ⟩ := k.trace (by omega)
    refine ⟨i, fun j => if j = i then e else E j, fun b j => if j ≤ i + 1 then σ b else H j, fun j => if j = i then .ptr L 0 else val j, fun j => if j = i then .skip else .eff, if_pos rfl, fun b => if_pos (by omega), ⟨Nat.le_refl _, hlt, fun j h1 h2 => ?_, fun j h1 h2 => by omega, ⟨o, ho, hd, ?_, by simpa using hg, if_pos rfl, fun b => ?_, fun τ hτ => ?_⟩, fun j h1 h2 => ?_, ?_⟩, fun j h1 h2 => by omega, fun j h1 h2 => by omega⟩
    · simp only [if_pos (show j ≤ i + 1 by omega)]; exact htw
    · simp [hE]
    · simp
    · simp only [if_true]; exact h τ hτ
    · obtain ⟨o', a1, a2, a3, a4, a5, a6⟩ := hs j (by omega) h2
      refine ⟨o', a1, a2, ?_, ?_, ?_, ?_, a6⟩
      · simp only [if_neg (show j ≠ i by omega), if_neg (show j + 1 ≠ i by omega)]; exact a3
      · simp only [if_neg (show j ≠ i by omega)]; exact a4
      · simp only [if_neg (show j ≠ i by omega)]
      · simp only [if_neg (show j ≠ i by omega), if_neg (show ¬ j + 1 ≤ i + 1 by omega)]
        by_cases hj : j ≤ i + 1
        · have : j = i + 1 := by omega
          subst this
          simp only [Nat.le_refl, if_true]; rw [← hH]; exact a5
        · simp only [if_neg hj]; exact a5
    · simp only [if_neg (show ops.size ≠ i by omega)]
      by_cases hj : ops.size ≤ i + 1
      · simp only [if_pos hj]; have : ops.size = i + 1 := by omega
        rw [this] at hQ ⊢; rw [← hH]; exact hQ
      · simp only [if_neg hj]; exact hQ
  | pure o v ho hg hd h hp k ih =>
    rename_i i e σ past held
    obtain ⟨f, E, H, val, kd, hE, hH, ht, h1, h2⟩ := ih htw
    have hif := ht.le
    refine ⟨f, fun j => if j = i then e else E j, fun b j => if j = i then σ b else H b j, fun j => if j = i then v else val j, fun j => if j = i then .pure else kd j, if_pos rfl, fun b => if_pos rfl, ⟨by omega, ht.fl, fun j h3 h4 => ?_, fun j hj1 hj2 => ?_, ?_, fun j h3 h4 => ?_, ?_⟩, fun j hj1 hj2 hk q hq => ?_, fun j hj1 hj2 hk => ?_⟩
    · by_cases hji : j = i
      · simp only [if_pos hji]; exact htw
      · simp only [if_neg hji]; exact ht.twin j (by omega) h4
    · by_cases hji : j = i
      · subst hji
        refine ⟨o, ho, hd, by simp [hE], by simpa using hg, .inl ⟨by simp, fun b => ⟨by simpa using h b, by simp [hH]⟩, fun j' h4 h5 => by omega, fun j' h4 h5 hk => ?_⟩⟩
        simp only [if_neg (show j' ≠ j by omega), if_neg (show j' + 1 ≠ j by omega)] at hk ⊢
        simp only [if_true]
        exact (h2 j' (by omega) h5 hk).1 (j, fun σ' => AOp P σ' e o v σ') (by simp)
      · obtain ⟨o', ho', hd', hE', hg', hc⟩ := ht.pre j (by omega) hj2
        simp only [if_neg hji, if_neg (show j + 1 ≠ i by omega)]
        refine ⟨o', ho', hd', hE', hg', ?_⟩
        rcases hc with ⟨a0, a1, a4, a5⟩ | ⟨a0, a1, a3⟩
        · refine .inl ⟨a0, a1, fun j' h4 h5 hk' => ?_, fun j' h4 h5 hk' => ?_⟩
          · by_cases hj' : j' = i
            · subst hj'; simp at hk'
            · simp only [if_neg hj'] at hk' ⊢; exact a4 j' (by omega) h5 hk'
          · simp only [if_neg (show j' ≠ i by omega), if_neg (show j' + 1 ≠ i by omega)] at hk' ⊢; exact a5 j' h4 h5 hk'
        · refine .inr ⟨a0, a1, fun j' h4 h5 hk' => ?_⟩
          by_cases hj' : j' = i
          · subst hj'; simp at hk'
          · simp only [if_neg hj'] at hk'; exact a3 j' (by omega) h5 hk'
    · have := ht.flt; simpa only [if_neg (show f ≠ i by omega), if_neg (show f + 1 ≠ i by omega)] using this
    · have := ht.tail j h3 h4; simpa only [if_neg (show j ≠ i by omega), if_neg (show j + 1 ≠ i by omega)] using this
    · have := ht.fin; have h9 := ht.fl; simpa only [if_neg (show ops.size ≠ i by omega)] using this
    · by_cases hji : j = i
      · subst hji; exact ⟨o, ho, by simp only [if_true]; exact hp.mem q hq⟩
      · simp only [if_neg hji] at hk ⊢; exact h1 j (by omega) hj2 hk q hq
    · by_cases hji : j = i
      · subst hji; simp at hk
      · simp only [if_neg hji, if_neg (show j + 1 ≠ i by omega)] at hk ⊢
        obtain ⟨b1, b2⟩ := h2 j (by omega) hj2 hk
        exact ⟨fun q hq => b1 q (List.mem_cons_of_mem _ hq), b2⟩
  | eff o v σ' ho hg hd h htw' hh hc k ih =>
    rename_i i e σ past held
    obtain ⟨f, E, H, val, kd, hE, hH, ht, h1, h2⟩ := ih htw'
    have hif := ht.le
    refine ⟨f, fun j => if j = i then e else E j, fun b j => if j = i then σ b else H b j, fun j => if j = i then v else val j, fun j => if j = i then .eff else kd j, if_pos rfl, fun b => if_pos rfl, ⟨by omega, ht.fl, fun j h3 h4 => ?_, fun j hj1 hj2 => ?_, ?_, fun j h3 h4 => ?_, ?_⟩, fun j hj1 hj2 hk q hq => ?_, fun j hj1 hj2 hk => ?_⟩
    · by_cases hji : j = i
      · simp only [if_pos hji]; exact htw
      · simp only [if_neg hji]; exact ht.twin j (by omega) h4
    · by_cases hji : j = i
      · subst hji
        refine ⟨o, ho, hd, by simp [hE], by simpa using hg, .inr ⟨by simp, fun b => ?_, fun j' h4 h5 => by omega⟩⟩
        simp only [if_true, if_neg (show j + 1 ≠ j by omega), hH]; exact h b
      · obtain ⟨o', ho', hd', hE', hg', hc'⟩ := ht.pre j (by omega) hj2
        simp only [if_neg hji, if_neg (show j + 1 ≠ i by omega)]
        refine ⟨o', ho', hd', hE', hg', ?_⟩
        rcases hc' with ⟨a0, a1, a4, a5⟩ | ⟨a0, a1, a3⟩
        · refine .inl ⟨a0, a1, fun j' h4 h5 hk' => ?_, fun j' h4 h5 hk' => ?_⟩
          · by_cases hj' : j' = i
            · subst hj'
              obtain ⟨o2, ho2, hx⟩ := h1 j (by omega) hj2 a0 (j', σ) (by simp)
              rw [ho'] at ho2; cases ho2
              simp only [if_true]; exact hx
            · simp only [if_neg hj'] at hk' ⊢; exact a4 j' (by omega) h5 hk'
          · simp only [if_neg (show j' ≠ i by omega), if_neg (show j' + 1 ≠ i by omega)] at hk' ⊢; exact a5 j' h4 h5 hk'
        · refine .inr ⟨a0, a1, fun j' h4 h5 hk' => ?_⟩
          by_cases hj' : j' = i
          · subst hj'; exact (h2 j (by omega) hj2 a0).2 (j', σ) (by simp)
          · simp only [if_neg hj'] at hk'; exact a3 j' (by omega) h5 hk'
    · have := ht.flt; simpa only [if_neg (show f ≠ i by omega), if_neg (show f + 1 ≠ i by omega)] using this
    · have := ht.tail j h3 h4; simpa only [if_neg (show j ≠ i by omega), if_neg (show j + 1 ≠ i by omega)] using this
    · have := ht.fin; have h9 := ht.fl; simpa only [if_neg (show ops.size ≠ i by omega)] using this
    · by_cases hji : j = i
      · subst hji; simp at hk
      · simp only [if_neg hji] at hk ⊢; exact h1 j (by omega) hj2 hk q (List.mem_cons_of_mem _ hq)
    · by_cases hji : j = i
      · subst hji
        exact ⟨fun q hq => by simp only [if_neg (show j + 1 ≠ j by omega), hH]; exact hh.mem q hq, hc.mem⟩
      · simp only [if_neg hji, if_neg (show j + 1 ≠ i by omega)] at hk ⊢
        obtain ⟨b1, b2⟩ := h2 j (by omega) hj2 hk
        exact ⟨b1, fun q hq => b2 q (List.mem_cons_of_mem _ hq)⟩
end rp
end Lg
namespace Lg
open Go Go.RowKit
variable [GLay]
section sound
variable {P : Program} {N : Nat} {ops : Array Oper} {tb : Array Nat} {Q : Env → List AO → Prop} {B : AO} {L : Nat}
structure InvG (ops : Array Oper) (N f : Nat) (E : Nat → Env) (H : Bool → Nat → List AO) (val : Nat → AV) (kd : Nat → Kd) (s0 : CS) (listed : Array Bool) (a : Act) (w : World) : Prop where
  size : listed.size = ops.size
  dn : ∀ j o, ops[j]? = some o → listed.getD j false = true → ∀ ed ∈ o.after.toList, Region.binds .any ed = true → listed.getD ed.on false = true
  st : ∃ s q, s.w = w ∧ Good s ∧ Ext s0 s ∧ q ≤ ops.size ∧ (∀ j, j < q → kd j = .eff → listed.getD j false = true) ∧ (q < ops.size → kd q = .eff ∧ listed.getD q false = false) ∧ s.σ = H (listed.getD f false) q ∧
    a.tmps.size = N ∧ DefOK s (E 0).D a.defers ∧ ∀ t, V s (preA ops (E 0) val (fun j => listed.getD j false) ops.size t) (a.eval (.tmp t))
theorem InvG.way {f : Nat} {E : Nat → Env} {H : Bool → Nat → List AO} {val : Nat → AV} {kd : Nat → Kd} {s0 : CS} {listed : Array Bool} {a : Act} {w : World} (c : Chk ops tb) (h : InvG ops N f E H val kd s0 listed a w) :
    ∀ (j : Nat) (o : Oper), ops[j]? = some o → (∀ ed ∈ o.after.toList, Region.binds .any ed = true → listed.getD ed.on false = true) → ∀ i, i < ops.size → befB tb i j = true → listed.getD i false = true := by
  intro j
  induction j using Nat.strongRecOn with
  | _ j ih =>
    intro o ho hdeps i hi hb
    obtain ⟨ed, hed, hbd, h1⟩ := c.way i j o ho hi hb
    have hon := hdeps ed hed hbd
    rcases h1 with h1 | h1
    · rw [← h1]; exact hon
    · have hlt := (c.edge j o ho ed hed hbd).1
      have hjn : ed.on < ops.size := by have := (Array.getElem?_eq_some_iff.1 ho).1; omega
      have ho' := Array.getElem?_eq_getElem hjn
      exact ih ed.on hlt _ ho' (h.dn ed.on _ ho' hon) i hi h1
theorem TrG.step {i0 f : Nat} {E : Nat → Env} {H : Bool → Nat → List AO} {val : Nat → AV} {kd : Nat → Kd} (ht : TrG P N ops tb B L Q i0 f E H val kd) : ∀ i, i0 ≤ i → i < ops.size → ∃ o, ops[i]? = some o ∧ (∀ d, o.dst = some d → d < N) ∧ E (i + 1) = (E i).put o.dst (val i) ∧ GuardA ops N (E i) o true := fun i h0 hi => by
  rcases Nat.lt_trichotomy i f with h | h | h
  · obtain ⟨o, a1, a2, a3, a4, _⟩ := ht.pre i h0 h; exact ⟨o, a1, a2, a3, a4⟩
  · subst h; obtain ⟨o, a1, a2, a3, a4, _⟩ := ht.flt; exact ⟨o, a1, a2, a3, a4⟩
  · obtain ⟨o, a1, a2, a3, a4, _⟩ := ht.tail i h hi; exact ⟨o, a1, a2, a3, a4⟩
theorem TrG.hconst {i0 f : Nat} {E : Nat → Env} {H : Bool → Nat → List AO} {val : Nat → AV} {kd : Nat → Kd} (ht : TrG P N ops tb B L Q i0 f E H val kd) (z : Bool) : ∀ (b a : Nat), i0 ≤ a → a ≤ b → b ≤ ops.size → (∀ j, a ≤ j → j < b → kd j ≠ .eff) → H z a = H z b
  | 0, a, _, h, _, _ => by have : a = 0 := by omega
                           subst this; rfl
  | b + 1, a, h0, h, hb, hk => by
    by_cases e : a = b + 1
    · subst e; rfl
    · have ih := ht.hconst z b a h0 (by omega) (by omega) (fun j h1 h2 => hk j h1 (by omega))
      have hkb := hk b (by omega) (by omega)
      have : H z (b + 1) = H z b := by
        rcases Nat.lt_trichotomy b f with h1 | h1 | h1
        · obtain ⟨o, _, _, _, _, hc⟩ := ht.pre b (by omega) h1
          rcases hc with ⟨_, h2, _⟩ | ⟨h2, _⟩
          · exact (h2 z).2
          · exact absurd h2 hkb
        · subst h1
          obtain ⟨o, _, _, _, _, _, h2, _⟩ := ht.flt
          exact h2 z
        · obtain ⟨o, _, _, _, _, h2, _⟩ := ht.tail b h1 (by omega)
          exact absurd h2 hkb
      rw [ih, this]
end sound
end Lg
namespace Lg
open Go Go.RowKit
variable [GLay]
section
variable {P : Program} {N : Nat} {σ l : List AO} {e : Env} {o : Oper} {Q : QA}
end
section
variable {P : Program} {N : Nat} {ops : Array Oper} {tb : Array Nat} {B : AO} {L : Nat} {QR : Env → List AO → Prop} {i : Nat} {D : List (FuncId × List AV)} {el : List (Nat × AV)} {σ : Bool → List AO} {past : List (Nat × (Bool → List AO))} {held : List (Nat × (List AO → Prop))} {o : Oper} {v : AV} {d : Nat}
end
end Lg
namespace Lg
open Go Go.RowKit
variable [GLay]
section
variable {P : Program} {N : Nat} {e : Env} {σ : List AO} {Q : QA}
end
end Lg
namespace Lg
open Go Go.RowKit
variable [GLay] {P : Program} {N : Nat} {σ l : List AO} {e : Env} {Q : QA} {o : Oper}
end Lg
namespace Lg
open Go
theorem pcs_len (c : UInt8) : ∀ l : BL, (pcs c l).length ≤ l.length + 1
  | [] => by simp [pcs]
  | b :: l => by
    have ih := pcs_len c l
    unfold pcs
    split
    · simp only [List.length_cons]; omega
    · split
      · simp
      · rename_i p r h; rw [h] at ih; simp only [List.length_cons] at ih ⊢; omega
end Lg
namespace Lg
open Go
end Lg
namespace Lg
open Go
theorem pune_len (l : BL) (h : okP l) : (pune l).length ≤ l.length := by
  refine okP_ind (M := fun l => (pune l).length ≤ l.length) (Nat.le_refl _) ?_ ?_ ?_ l.length l (Nat.le_refl _) h
  · intro r _ ih; show (126 :: pune r).length ≤ _; simp only [List.length_cons]; omega
  · intro r _ ih; show (47 :: pune r).length ≤ _; simp only [List.length_cons]; omega
  · intro b r hb _ ih; rw [une_c hb]; simp only [List.length_cons]; omega
variable [GLay] {P : Program} {σ : List AO}
end Lg
