import Derived.Test.YtehjmhgedbfddaaDoorLg4
set_option linter.unusedVariables false
set_option linter.unusedSimpArgs false
set_option linter.unusedSectionVars false
namespace Lg
open Go Go.RowKit
variable [GLay]

variable {P : Program} {σ : List AO} {e : Env} {o : Oper}

/-! ### No memory -/
theorem op_move {x : Operand} {v : AV} (ho : o.op = .move x) (hx : opv e x = v) : AOp P σ e o v σ :=
  .of_run fun s a _ _ hv => ⟨a.eval x, by simp [execOp, ho], by rw [← hx]; exact hv x (by simp [ho, Op.operands])⟩
theorem op_assign {x : Operand} {v : AV} (ho : o.op = .assign x) (hx : opv e x = v) : AOp P σ e o v σ :=
  .of_run fun s a _ _ hv => ⟨a.eval x, by simp [execOp, ho], by rw [← hx]; exact hv x (by simp [ho, Op.operands])⟩
theorem op_pick {c x y : Operand} {b : Bool} {v : AV} (ho : o.op = .pick c x y) (hc : opv e c = .bool b) (hv : (if b = true then opv e x else opv e y) = v) : AOp P σ e o v σ :=
  .of_run fun s a _ _ h => by
    have h1 := (hc ▸ h c (by simp [ho, Op.operands])).inv_bool
    refine ⟨if b = true then a.eval x else a.eval y, by simp [execOp, ho, h1, asBool], ?_⟩
    rw [← hv]
    cases b
    · simpa using h y (by simp [ho, Op.operands])
    · simpa using h x (by simp [ho, Op.operands])
/-- Both ways are bools: no split. -/
theorem op_pick_bool {c x y : Operand} {b p q : Bool} (ho : o.op = .pick c x y) (hc : opv e c = .bool b) (hx : opv e x = .bool p) (hy : opv e y = .bool q) : AOp P σ e o (.bool (bif b then p else q)) σ :=
  op_pick ho hc (by cases b <;> simp [hx, hy])

theorem op_bin {op : BinOp} {T T' : TypeId} {x y : Operand} {va vb v : AV} (ho : o.op = .binOp op T x y T') (hx : opv e x = va) (hy : opv e y = vb)
    (h : ∀ (s : CS) (cx cy : Value), s.σ = σ → Good s → V s va cx → V s vb cy → ∃ cv, (binOp op T cx cy).run P s.w = .ok cv s.w ∧ V s v cv ∧ (eqGuard op T x y cx cy).run P s.w = .ok () s.w) : AOp P σ e o v σ :=
  .of_run fun s a hs g hv => by
    obtain ⟨cv, h1, h2, h3⟩ := h s (a.eval x) (a.eval y) hs g (hx ▸ hv x (by simp [ho, Op.operands])) (hy ▸ hv y (by simp [ho, Op.operands]))
    exact ⟨cv, by simp [execOp, ho, h3, h1], h2⟩

theorem eqGuard_int (op : BinOp) (T : TypeId) (x y : Operand) (k k' : IntKind) (a b : Int) (w : World) : (eqGuard op T x y (.int k a) (.int k' b)).run P w = .ok () w := by
  unfold eqGuard; cases op <;> simp
theorem eqGuard_str (op : BinOp) (T : TypeId) (x y : Operand) (a b : ByteArray) (w : World) : (eqGuard op T x y (.string a) (.string b)).run P w = .ok () w := by
  unfold eqGuard; cases op <;> simp
theorem eqGuard_bool (op : BinOp) (T : TypeId) (x y : Operand) (a b : Bool) (w : World) : (eqGuard op T x y (.bool a) (.bool b)).run P w = .ok () w := by
  unfold eqGuard; cases op <;> simp
theorem eqGuard_ptr (op : BinOp) (T : TypeId) (x y : Operand) (a b : Option Addr) (w : World) : (eqGuard op T x y (.pointer a) (.pointer b)).run P w = .ok () w := by
  unfold eqGuard; cases op <;> simp

theorem ibeq (a b : Int) : (a == b) = decide (a = b) := rfl
section ints
variable {T T' : TypeId} {x y : Operand} {k : IntKind} {a b : Int}
theorem op_int {op : BinOp} {v : AV} {cv : Value} (ho : o.op = .binOp op T x y T') (hx : opv e x = .int k a) (hy : opv e y = .int k b)
    (h : ∀ w, (binOp op T (.int k a) (.int k b)).run P w = .ok cv w) (hv : ∀ s, V s v cv) : AOp P σ e o v σ :=
  op_bin ho hx hy fun s cx cy _ _ h1 h2 => by
    rw [h1.inv_int, h2.inv_int]
    exact ⟨cv, h s.w, hv s, eqGuard_int ..⟩
theorem op_add (ho : o.op = .binOp .add T x y T') (hx : opv e x = .int k a) (hy : opv e y = .int k b) : AOp P σ e o (.int k (k.wrap (a + b))) σ :=
  op_int ho hx hy (cv := .int k (k.wrap (a + b))) (fun w => by simp [binOp, Op.intArith]) (fun _ => .int _ _)
theorem op_sub (ho : o.op = .binOp .sub T x y T') (hx : opv e x = .int k a) (hy : opv e y = .int k b) : AOp P σ e o (.int k (k.wrap (a - b))) σ :=
  op_int ho hx hy (cv := .int k (k.wrap (a - b))) (fun w => by simp [binOp, Op.intArith]) (fun _ => .int _ _)
theorem op_mul (ho : o.op = .binOp .mul T x y T') (hx : opv e x = .int k a) (hy : opv e y = .int k b) : AOp P σ e o (.int k (k.wrap (a * b))) σ :=
  op_int ho hx hy (cv := .int k (k.wrap (a * b))) (fun w => by simp [binOp, Op.intArith]) (fun _ => .int _ _)
theorem wrap64_in {n : Int} (h1 : -9223372036854775808 ≤ n) (h2 : n ≤ 9223372036854775807) : IntKind.i64.wrap n = n := by
  exact IntWalk.i64_in n ⟨by omega, by omega⟩
theorem op_add64 (ho : o.op = .binOp .add T x y T') (hx : opv e x = .int .i64 a) (hy : opv e y = .int .i64 b) (h1 : -9223372036854775808 ≤ a + b) (h2 : a + b ≤ 9223372036854775807) : AOp P σ e o (.int .i64 (a + b)) σ := by
  have := op_add (P := P) (σ := σ) ho hx hy; rwa [wrap64_in h1 h2] at this
theorem op_sub64 (ho : o.op = .binOp .sub T x y T') (hx : opv e x = .int .i64 a) (hy : opv e y = .int .i64 b) (h1 : -9223372036854775808 ≤ a - b) (h2 : a - b ≤ 9223372036854775807) : AOp P σ e o (.int .i64 (a - b)) σ := by
  have := op_sub (P := P) (σ := σ) ho hx hy; rwa [wrap64_in h1 h2] at this
theorem op_mul64 (ho : o.op = .binOp .mul T x y T') (hx : opv e x = .int .i64 a) (hy : opv e y = .int .i64 b) (h1 : -9223372036854775808 ≤ a * b) (h2 : a * b ≤ 9223372036854775807) : AOp P σ e o (.int .i64 (a * b)) σ := by
  have := op_mul (P := P) (σ := σ) ho hx hy; rwa [wrap64_in h1 h2] at this
theorem op_lss (ho : o.op = .binOp .lss T x y T') (hx : opv e x = .int k a) (hy : opv e y = .int k b) : AOp P σ e o (.bool (decide (a < b))) σ :=
  op_int ho hx hy (cv := .bool (decide (a < b))) (fun w => by simp [binOp, Op.intCmp]) (fun _ => .bool _)
theorem op_leq (ho : o.op = .binOp .leq T x y T') (hx : opv e x = .int k a) (hy : opv e y = .int k b) : AOp P σ e o (.bool (decide (a ≤ b))) σ :=
  op_int ho hx hy (cv := .bool (decide (a ≤ b))) (fun w => by simp [binOp, Op.intCmp]) (fun _ => .bool _)
theorem op_gtr (ho : o.op = .binOp .gtr T x y T') (hx : opv e x = .int k a) (hy : opv e y = .int k b) : AOp P σ e o (.bool (decide (b < a))) σ :=
  op_int ho hx hy (cv := .bool (decide (b < a))) (fun w => by simp [binOp, Op.intCmp]) (fun _ => .bool _)
theorem op_geq (ho : o.op = .binOp .geq T x y T') (hx : opv e x = .int k a) (hy : opv e y = .int k b) : AOp P σ e o (.bool (decide (b ≤ a))) σ :=
  op_int ho hx hy (cv := .bool (decide (b ≤ a))) (fun w => by simp [binOp, Op.intCmp]) (fun _ => .bool _)
theorem op_eql (ho : o.op = .binOp .eql T x y T') (hx : opv e x = .int k a) (hy : opv e y = .int k b) : AOp P σ e o (.bool (decide (a = b))) σ :=
  op_int ho hx hy (cv := .bool (decide (a = b))) (fun w => by simp [binOp, Op.intCmp, ibeq]) (fun _ => .bool _)
theorem op_neq (ho : o.op = .binOp .neq T x y T') (hx : opv e x = .int k a) (hy : opv e y = .int k b) : AOp P σ e o (.bool (!decide (a = b))) σ :=
  op_int ho hx hy (cv := .bool (!decide (a = b))) (fun w => by simp [binOp, Op.intCmp, bne, ibeq]) (fun _ => .bool _)
end ints

section strs
variable {T T' : TypeId} {x y : Operand} {a b : ByteArray}
theorem op_str {op : BinOp} {v : AV} {cv : Value} (ho : o.op = .binOp op T x y T') (hx : opv e x = .str a) (hy : opv e y = .str b)
    (h : ∀ w, (binOp op T (.string a) (.string b)).run P w = .ok cv w) (hv : ∀ s, V s v cv) : AOp P σ e o v σ :=
  op_bin ho hx hy fun s cx cy _ _ h1 h2 => by
    rw [h1.inv_str, h2.inv_str]
    exact ⟨cv, h s.w, hv s, eqGuard_str ..⟩
theorem op_cat (ho : o.op = .binOp .add T x y T') (hx : opv e x = .str a) (hy : opv e y = .str b) (hl : a.size + b.size ≤ 9223372036854775807) : AOp P σ e o (.str (a ++ b)) σ :=
  op_str ho hx hy (cv := .string (a ++ b)) (fun w => by
    have : ¬ (((a.size + b.size : Nat) : Int) > IntKind.i64.max) := by simp [IntKind.max, IntKind.bits, IntKind.signed]; omega
    simp only [binOp, Op.stringOp]; rw [if_neg this]; simp) (fun _ => .str _)
theorem ba_beq (a b : ByteArray) : (a.toList == b.toList) = decide (a = b) := by
  have h : a.toList = b.toList ↔ a = b := by
    constructor
    · intro h
      have h1 : a.data.toList = b.data.toList := by rwa [ByteArray.toList_eq, ByteArray.toList_eq] at h
      cases a; cases b; congr 1; exact Array.ext' h1
    · rintro rfl; rfl
  by_cases e : a = b
  · simp [e]
  · simp [e, h]
theorem op_seql (ho : o.op = .binOp .eql T x y T') (hx : opv e x = .str a) (hy : opv e y = .str b) : AOp P σ e o (.bool (decide (a = b))) σ :=
  op_str ho hx hy (cv := .bool (decide (a = b))) (fun w => by simp [binOp, Op.stringOp, ba_beq]) (fun _ => .bool _)
theorem op_sneq (ho : o.op = .binOp .neq T x y T') (hx : opv e x = .str a) (hy : opv e y = .str b) : AOp P σ e o (.bool (!decide (a = b))) σ :=
  op_str ho hx hy (cv := .bool (!decide (a = b))) (fun w => by simp [binOp, Op.stringOp, ba_beq]) (fun _ => .bool _)
/-- a < b, byte by byte. -/
def blt (a b : ByteArray) : Bool := Op.bytesLess a.toList b.toList
theorem op_slss (ho : o.op = .binOp .lss T x y T') (hx : opv e x = .str a) (hy : opv e y = .str b) : AOp P σ e o (.bool (blt a b)) σ :=
  op_str ho hx hy (cv := .bool (blt a b)) (fun w => by simp [binOp, Op.stringOp, blt]) (fun _ => .bool _)
theorem op_sleq (ho : o.op = .binOp .leq T x y T') (hx : opv e x = .str a) (hy : opv e y = .str b) : AOp P σ e o (.bool (blt a b || decide (a = b))) σ :=
  op_str ho hx hy (cv := .bool (blt a b || decide (a = b))) (fun w => by simp [binOp, Op.stringOp, blt, ba_beq]) (fun _ => .bool _)
theorem op_sgtr (ho : o.op = .binOp .gtr T x y T') (hx : opv e x = .str a) (hy : opv e y = .str b) : AOp P σ e o (.bool (!(blt a b || decide (a = b)))) σ :=
  op_str ho hx hy (cv := .bool (!(blt a b || decide (a = b)))) (fun w => by simp [binOp, Op.stringOp, blt, ba_beq]) (fun _ => .bool _)
theorem op_sgeq (ho : o.op = .binOp .geq T x y T') (hx : opv e x = .str a) (hy : opv e y = .str b) : AOp P σ e o (.bool (!blt a b)) σ :=
  op_str ho hx hy (cv := .bool (!blt a b)) (fun w => by simp [binOp, Op.stringOp, blt]) (fun _ => .bool _)
end strs

section others
variable {T T' : TypeId} {x y : Operand}
theorem op_beql {a b : Bool} (ho : o.op = .binOp .eql T x y T') (hu : P.underlying T = some .bool) (hx : opv e x = .bool a) (hy : opv e y = .bool b) : AOp P σ e o (.bool (a == b)) σ :=
  op_bin ho hx hy fun s cx cy _ _ h1 h2 => by
    rw [h1.inv_bool, h2.inv_bool]
    exact ⟨.bool (a == b), by simp [binOp, run_equal_bool _ _ _ _ hu], .bool _, eqGuard_bool ..⟩
theorem op_bneq {a b : Bool} (ho : o.op = .binOp .neq T x y T') (hu : P.underlying T = some .bool) (hx : opv e x = .bool a) (hy : opv e y = .bool b) : AOp P σ e o (.bool (a != b)) σ :=
  op_bin ho hx hy fun s cx cy _ _ h1 h2 => by
    rw [h1.inv_bool, h2.inv_bool]
    exact ⟨.bool (a != b), by simp [binOp, run_equal_bool _ _ _ _ hu, bne], .bool _, eqGuard_bool ..⟩
theorem op_not {b : Bool} (ho : o.op = .unOp .not T x) (hx : opv e x = .bool b) : AOp P σ e o (.bool (!b)) σ :=
  .of_run fun s a _ _ hv => by
    have h1 := (hx ▸ hv x (by simp [ho, Op.operands])).inv_bool
    exact ⟨.bool (!b), by simp [execOp, ho, h1, Op.unary], .bool _⟩
theorem op_neg {k : IntKind} {n : Int} (ho : o.op = .unOp .neg T x) (hx : opv e x = .int k n) : AOp P σ e o (.int k (k.wrap (0 - n))) σ :=
  .of_run fun s a _ _ hv => by
    have h1 := (hx ▸ hv x (by simp [ho, Op.operands])).inv_int
    exact ⟨.int k (k.wrap (0 - n)), by simp [execOp, ho, h1, Op.unary, Op.intArith], .int _ _⟩
theorem op_extract {i : Nat} {cs : List AV} {v : AV} (ho : o.op = .extract x i) (hx : opv e x = .tup cs) (hv : cs[i]? = some v) : AOp P σ e o v σ :=
  .of_run fun s a _ _ h => by
    obtain ⟨vs, h1, h2⟩ := (hx ▸ h x (by simp [ho, Op.operands])).inv_tup
    obtain ⟨c, h3, h4⟩ := h2.get hv
    exact ⟨c, by simp [execOp, ho, h1, Instr.extract, h3], h4⟩
theorem op_field1 {f : Nat} {fs : Array Field} {fd : Field} {cs : List AV} {v : AV} (ho : o.op = .field T x f) (hu : P.underlying T = some (.struct fs)) (hf : fs[f]? = some fd)
    (ha : ∀ w, (isAgg fd.type).run P w = .ok false w) (hx : opv e x = .agg cs) (hv : cs[fd.offset]? = some v) : AOp P σ e o v σ :=
  .of_run fun s a _ _ h => by
    obtain ⟨vs, h1, h2⟩ := (hx ▸ h x (by simp [ho, Op.operands])).inv_agg
    obtain ⟨c, h3, h4⟩ := h2.get hv
    exact ⟨c, by simp [execOp, ho, h1, Instr.field, run_underlying hu, hf, asAgg, part, ha, h3], h4⟩
theorem op_fieldK {f n : Nat} {fs : Array Field} {fd : Field} {cs : List AV} (ho : o.op = .field T x f) (hu : P.underlying T = some (.struct fs)) (hf : fs[f]? = some fd)
    (ha : ∀ w, (isAgg fd.type).run P w = .ok true w) (hz : ∀ w, (Go.sizeOf fd.type).run P w = Result.ok n w) (hx : opv e x = .agg cs) : AOp P σ e o (.agg ((cs.drop fd.offset).take n)) σ :=
  .of_run fun s a _ _ h => by
    obtain ⟨vs, h1, h2⟩ := (hx ▸ h x (by simp [ho, Op.operands])).inv_agg
    have h3 := (h2.drop fd.offset).take n
    refine ⟨.agg ((vs.drop fd.offset).take n).toArray, ?_, .agg _ _ h3.1 h3.2⟩
    simp [execOp, ho, h1, Instr.field, run_underlying hu, hf, asAgg, part, ha, hz, List.extract]
theorem op_makeInterface {v : AV} {d : TypeDesc} (ho : o.op = .makeInterface T x) (hu : P.underlying T = some d) (hd : ∀ ms, d ≠ .interface ms) (hx : opv e x = v) : AOp P σ e o (.iface T v) σ :=
  .of_run fun s a _ _ h => by
    refine ⟨.iface T (a.eval x), ?_, .iface T v _ (hx ▸ h x (by simp [ho, Op.operands]))⟩
    cases d <;> simp_all [execOp, Instr.makeInterface, run_underlying hu]
theorem op_makeFunc {fn : Fn} {f c : Array Operand} {af ac : List AV} (ho : o.op = .makeFunc fn f c) (hf : f.toList.map (opv e) = af) (hc : c.toList.map (opv e) = ac) : AOp P σ e o (.func fn af ac) σ :=
  .of_run fun s a _ _ h => by
    refine ⟨.func fn (f.toList.map a.eval).toArray (c.toList.map a.eval).toArray, by
      have hm : ∀ q : Array Operand, q.map a.eval = (q.toList.map a.eval).toArray := fun q => by apply Array.ext'; simp
      simp [execOp, ho, Instr.makeFunc, hm], ?_⟩
    have hp : ∀ (l : List Operand), (∀ x ∈ l, x ∈ o.op.operands) → PW s (l.map (opv e)) (l.map a.eval) := fun l hl => by
      induction l with
      | nil => exact .nil
      | cons x r ih => exact .cons (h x (hl x (by simp))) (ih fun y hy => hl y (by simp [hy]))
    have h1 := hp f.toList (fun x hx => by simp only [ho, Op.operands, Array.mem_append]; exact .inl (Array.mem_toList_iff.1 hx))
    have h2 := hp c.toList (fun x hx => by simp only [ho, Op.operands, Array.mem_append]; exact .inr (Array.mem_toList_iff.1 hx))
    rw [hf] at h1; rw [hc] at h2
    exact .func fn af ac _ _ h1.1 h2.1 h1.2 h2.2
end others
end Lg
