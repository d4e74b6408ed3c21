/- A part of the proof of StrTells: the text that stands in quotes at any place of any bytes, or what is amiss, where; any text in quotes: Lq4 Lg39 B9 Lg40 Lq5 B10 Sh3 Lg41 Lq6 B11 Lq7 B12. -/
import Derived.Test.YtiihpckdafldkaaDoorP6
import Derived.Test.YtiihpckdafldkaaDoorP3
import Derived.Test.YtiihpckdafldkaaDoorP5
import Derived.Test.YtiihpckdafldkaaDoorProg
import Derived.Shelf.Unicode.DecodeAny
set_option linter.unusedVariables false
set_option linter.unusedSimpArgs false
set_option linter.unusedSectionVars false
namespace Lg
open Go
def hV (s : ByteArray) (i : Nat) : Int := (rhex s (i + 2)).1
def hB (s : ByteArray) (i : Nat) : Int := (rhex s (i + 2)).2
def uPair (s : ByteArray) (i : Nat) : Prop := 55296 ≤ hV s i ∧ hV s i < 56320 ∧ 0 ≤ rlow s (i + 6)
def uSur (s : ByteArray) (i : Nat) : Prop := 55296 ≤ hV s i ∧ hV s i < 57344
instance (s : ByteArray) (i : Nat) : Decidable (uPair s i) := by unfold uPair; exact inferInstance
instance (s : ByteArray) (i : Nat) : Decidable (uSur s i) := by unfold uSur; exact inferInstance
def pairV (s : ByteArray) (i : Nat) : Int := 65536 + 1024 * (hV s i - 55296) + rlow s (i + 6) - 56320
/-- What comes of a \\u: an error and its place; where the reader stands; what was written. -/
def uE (s : ByteArray) (i : Nat) : Option (Int × Int) := if 0 ≤ hB s i then some (hB s i, 1) else if uPair s i then none else if uSur s i then some ((i : Int), 2) else none
def uI (s : ByteArray) (i : Nat) : Int := if 0 ≤ hB s i then (i : Int) + 2 else if uPair s i then (i : Int) + 12 else (i : Int) + 6
def uO (s : ByteArray) (i : Nat) : List UInt8 := if 0 ≤ hB s i then [] else if uPair s i then rchL (pairV s i) else if uSur s i then [] else rchL (hV s i)
theorem u_bad {s : ByteArray} {i : Nat} (h : 0 ≤ hB s i) : uE s i = some (hB s i, 1) ∧ uI s i = (i : Int) + 2 ∧ uO s i = [] := by unfold uE uI uO; rw [if_pos h, if_pos h, if_pos h]; exact ⟨rfl, rfl, rfl⟩
theorem u_pair {s : ByteArray} {i : Nat} (h : ¬ 0 ≤ hB s i) (h2 : uPair s i) : uE s i = none ∧ uI s i = (i : Int) + 12 ∧ uO s i = rchL (pairV s i) := by unfold uE uI uO; simp only [if_neg h, if_pos h2]; exact ⟨trivial, trivial, trivial⟩
theorem u_sur {s : ByteArray} {i : Nat} (h : ¬ 0 ≤ hB s i) (h2 : ¬ uPair s i) (h3 : uSur s i) : uE s i = some ((i : Int), 2) ∧ uI s i = (i : Int) + 6 ∧ uO s i = [] := by unfold uE uI uO; simp only [if_neg h, if_neg h2, if_pos h3]; exact ⟨trivial, trivial, trivial⟩
theorem u_plain {s : ByteArray} {i : Nat} (h : ¬ 0 ≤ hB s i) (h2 : ¬ uPair s i) (h3 : ¬ uSur s i) : uE s i = none ∧ uI s i = (i : Int) + 6 ∧ uO s i = rchL (hV s i) := by unfold uE uI uO; simp only [if_neg h, if_neg h2, if_neg h3]; exact ⟨trivial, trivial, trivial⟩
theorem hV_ok (s : ByteArray) (i : Nat) : (hB s i < 0 → i + 6 ≤ s.size ∧ 0 ≤ hV s i ∧ hV s i < 65536) ∧ -1 ≤ hB s i ∧ (i + 2 ≤ s.size → hB s i ≤ s.size) := by
  unfold hB hV
  rcases rhex_ok s (i + 2) with ⟨h1, h2, h3, h4⟩ | ⟨h1, h2, h3, h4⟩
  · exact ⟨fun _ => ⟨by omega, h3, h4⟩, by omega, fun _ => by omega⟩
  · exact ⟨fun h => by omega, by omega, h4⟩
/-- Does a low half stand there? -/
theorem rlow_iff (s : ByteArray) (a : Nat) : 0 ≤ rlow s a ↔ (a + 2 ≤ s.size ∧ (bat s a).toNat = 92 ∧ (bat s (a + 1)).toNat = 117) ∧ (rhex s (a + 2)).2 < 0 ∧ 56320 ≤ (rhex s (a + 2)).1 ∧ (rhex s (a + 2)).1 < 57344 := by
  have h := rhex_ok s (a + 2)
  unfold rlow
  constructor
  · intro h0
    split at h0
    · omega
    · split at h0
      · omega
      · split at h0
        · omega
        · rename_i h1 h2 h3
          refine ⟨⟨by omega, by omega, by omega⟩, by omega, by omega, by omega⟩
  · rintro ⟨⟨h1, h2, h3⟩, h4, h5, h6⟩
    rw [if_neg (by omega), if_neg (by omega), if_neg (by omega)]; omega
theorem rlow_val {s : ByteArray} {a : Nat} (h : 0 ≤ rlow s a) : rlow s a = (rhex s (a + 2)).1 := by
  have h1 := (rlow_iff s a).1 h
  have h := rhex_ok s (a + 2)
  unfold rlow
  rw [if_neg (by omega), if_neg (by omega), if_neg (by omega)]
/-- Does \\u stand there? -/
theorem pre_u (s : ByteArray) (a : Nat) (h : a ≤ s.size) : (decide ((⟨#[92, 117]⟩ : ByteArray).size ≤ (s.extract a s.size).size) && decide ((s.extract a s.size).extract 0 (⟨#[92, 117]⟩ : ByteArray).size = ⟨#[92, 117]⟩)) = decide (a + 2 ≤ s.size ∧ (bat s a).toNat = 92 ∧ (bat s (a + 1)).toNat = 117) := by
  obtain ⟨l, rfl⟩ : ∃ l, s = ba l := ⟨_, ba_eta s⟩
  rw [ba_suf, ba_size, ba_size, show (⟨#[92, 117]⟩ : ByteArray).size = 2 from rfl, ba_pre, show (⟨#[92, 117]⟩ : ByteArray) = ba [92, 117] from rfl, bat_ba, bat_ba]
  have g0 : l.getD a 0 = (l.drop a).getD 0 0 := by simp [List.getD_eq_getElem?_getD]
  have g1 : l.getD (a + 1) 0 = (l.drop a).getD 1 0 := by simp [List.getD_eq_getElem?_getD]
  rw [ba_size] at h
  have hl : l.length = a + (l.drop a).length := by rw [List.length_drop]; omega
  rw [g0, g1, hl]
  have e92 : ∀ x : UInt8, x = 92 ↔ x.toNat = 92 := fun x => ⟨fun e => by rw [e]; rfl, fun e => UInt8.toNat_inj.1 e⟩
  have e117 : ∀ x : UInt8, x = 117 ↔ x.toNat = 117 := fun x => ⟨fun e => by rw [e]; rfl, fun e => UInt8.toNat_inj.1 e⟩
  cases hd : l.drop a with
  | nil => simp
  | cons x r =>
    cases r with
    | nil => simp
    | cons y r => simp [ba_inj, e92, e117]
end Lg
namespace Lg
open Go Go.RowKit
variable [GLay]
variable {P : Program} {σ : List AO} {e : Env} {o : Oper}
theorem op_shl {T T' : TypeId} {x y : Operand} {k yk : IntKind} {n m r : Int} (ho : o.op = .binOp .shl T x y T') (hx : opv e x = .int k n) (hy : opv e y = .int yk m) (hm : 0 ≤ m) (hr : k.wrap (n * 2 ^ min m.toNat k.bits) = r) : AOp P σ e o (.int k r) σ :=
  op_bin ho hx hy fun s cx cy _ _ h1 h2 => by
    rw [h1.inv_int, h2.inv_int]
    refine ⟨.int k r, ?_, .int _ _, by simp [eqGuard]⟩
    rw [← hr]
    simp only [binOp, Op.shift]
    rw [if_neg (by omega)]
    rfl
section
variable {s : ByteArray} {i j : Int} {a a' : AV} {T : TypeId} {l l' : List UInt8}
theorem rdr_closed2 (hc : closed (rdrO σ s i a T l).length (rdrO σ s i a T l)) (ha : a'.lt (rdrO σ s i a T l).length) : closed (rdrO σ s i a T l).length (rdrO σ s j a' T l') := by
  have e : rdrO σ s j a' T l' = ((rdrO σ s i a T l).set σ.length (.box [.str s, .int .i64 j, a', .bts (σ.length + 1) l'.length])).set (σ.length + 1) (.bytes T l') := by
    unfold rdrO
    rw [List.set_append_right _ _ (Nat.le_refl _), Nat.sub_self, List.set_append_right _ _ (by omega), Nat.add_sub_cancel_left]
    rfl
  rw [e]
  exact closed_set (closed_set hc (by rw [rdr_len] at ha ⊢; simp [AO.cells, AV.ltL, AV.lt, ha])) trivial
theorem rdr_alt (hc : closed (rdrO σ s i a T l).length (rdrO σ s i a T l)) : a.lt (rdrO σ s i a T l).length := (closed_box hc rdr_box).2.2.1
end
end Lg
set_option maxRecDepth 20000
set_option maxHeartbeats 4000000
namespace Lg
open Go Go.Proofs Go.RowKit
variable [GLay] 


def errV : Option (Int × Int) → AV
  | none => .nili
  | some z => .iface 78 (.pp [.int .i64 z.1, .int .i64 z.2])
theorem errV_lt (n : Nat) (z : Option (Int × Int)) : (errV z).lt n := by
  cases z <;> simp [errV, AV.lt, AV.ltL]
theorem op_neErr {P : Program} {σ : List AO} {e : Env} {o : Oper} {T T' : TypeId} {x : Operand} {ms : Array (String × TypeId)} {z : Option (Int × Int)} (ho : o.op = .binOp .neq T x (.const .nilIface) T') (hu : P.underlying T = some (.interface ms)) (hx : opO e x = some (errV z)) : AOp P σ e o (.bool z.isSome) σ := by
  cases z with
  | none => exact op_neINil ho hu hx
  | some z => exact op_neIN ho hu hx
theorem wrR (v : Int) {σ : List AO} {s : ByteArray} {i : Int} {a : AV} {l : List UInt8} (ha : a = .ptr σ.length 2 ∨ ∃ U n, a = .nilT σ.length U n ∧ liesAt Tryd.prog Tryd.prog.depth U (n / Tryd.prog.cellsOf U) 2 66 1 = true) (hv0 : 0 ≤ v) (hv1 : v ≤ 1114111) (hs : ¬ (55296 ≤ v ∧ v < 57344)) (hlen : l.length + 4 ≤ 100000000) : ACalls Tryd.prog 68 [.ptr σ.length 2, .int .i32 v] (rdrO σ s i a 5 l) (Ret (.tup [.int .i64 ((rchL v).length : Int), .nili]) (rdrO σ s i (.ptr σ.length 2) 5 (l ++ rchL v))) := by
  have h := wr_c v (rdr_T (s := s) (i := i) (l := l) (P := Tryd.prog) (B := 66) (T := 5) ha) hv0 hv1 hs hlen
  have e : l.length + (rchL v).length = (l ++ rchL v).length := by simp
  rw [e, rdr_set] at h; exact h
theorem wbR (c : UInt8) {σ : List AO} {s : ByteArray} {i : Int} {a : AV} {l : List UInt8} (ha : a = .ptr σ.length 2 ∨ ∃ U n, a = .nilT σ.length U n ∧ liesAt Tryd.prog Tryd.prog.depth U (n / Tryd.prog.cellsOf U) 2 66 1 = true) (hlen : l.length + 1 ≤ 100000000) : ACalls Tryd.prog 48 [.ptr σ.length 2, .int .u8 (c.toNat : Int)] (rdrO σ s i a 5 l) (Ret .nili (rdrO σ s i (.ptr σ.length 2) 5 (l ++ [c]))) := by
  have h := wb_c c (rdr_T (s := s) (i := i) (l := l) (P := Tryd.prog) (B := 66) (T := 5) ha) hlen
  have e : l.length + 1 = (l ++ [c]).length := by simp
  rw [e, rdr_set] at h; exact h
theorem wsR (t : ByteArray) {σ : List AO} {s : ByteArray} {i : Int} {a : AV} {l : List UInt8} (ha : a = .ptr σ.length 2 ∨ ∃ U n, a = .nilT σ.length U n ∧ liesAt Tryd.prog Tryd.prog.depth U (n / Tryd.prog.cellsOf U) 2 66 1 = true) (hlen : l.length + t.size ≤ 100000000) : ACalls Tryd.prog 42 [.ptr σ.length 2, .str t] (rdrO σ s i a 5 l) (Ret (.tup [.int .i64 t.size, .nili]) (rdrO σ s i (.ptr σ.length 2) 5 (l ++ t.data.toList))) := by
  have h := ws_c t (rdr_T (s := s) (i := i) (l := l) (P := Tryd.prog) (B := 66) (T := 5) ha) hlen
  have e : l.length + t.size = (l ++ t.data.toList).length := by rw [List.length_append]; rfl
  rw [e, rdr_set] at h; exact h
theorem hexR (s : ByteArray) (x : Nat) {σ : List AO} {i : Int} {a : AV} {l : List UInt8} (hs : s.size ≤ 1000000) (hx : x ≤ 1000000) : ACalls Tryd.prog 66 [.ptr σ.length 0, .int .i64 (x : Int)] (rdrO σ s i a 5 l) (Ret (.tup [.int .i32 (rhex s x).1, .int .i64 (rhex s x).2]) (rdrO σ s i a 5 l)) := shex_c s x σ.length _ _ rdr_box rfl hs hx
theorem unit_c (s : ByteArray) (i : Nat) {σ : List AO} {a : AV} {l : List UInt8} (ha : a = .ptr σ.length 2 ∨ ∃ U n, a = .nilT σ.length U n ∧ liesAt Tryd.prog Tryd.prog.depth U (n / Tryd.prog.cellsOf U) 2 66 1 = true) (hs : s.size ≤ 1000000) (hi : i + 2 ≤ s.size) (hlen : l.length + 4 ≤ 100000000) : ACalls Tryd.prog 54 [.ptr σ.length 0] (rdrO σ s ((i : Int) + 2) a 5 l) (Ret (errV (uE s i)) (rdrO σ s (uI s i) (if (uE s i) = none then .ptr σ.length 2 else a) 5 (l ++ uO s i))) := by
  refine ACalls_body Tryd.func54 rfl Tryd.ntmps54 (res1 Tryd.results54) (Nat.le_of_ble_eq_true rfl) (fun hcl hal => ?_)
  obtain ⟨hv1, hv2, hv3⟩ := hV_ok s i
  have hv3 := hv3 hi
  have hlo := rlow_iff s (i + 6); rw [show i + 6 + 2 = i + 8 from rfl] at hlo
  have hhx := rhex_ok s (i + 8)
  refine AWp_seq ?_
  -- region 0 str.go:42
  refine AWp_regL ?_
  refine st rfl rfl rfl (op_assignO rfl rfl) ?_
  refine AOps_nil ?_
  refine AWp_seq ?_
  -- region 1 str.go:43
  refine AWp_regL ?_
  refine st rfl rfl rfl (op_moveO rfl rfl) ?_
  refine st rfl rfl rfl (op_nilCheck rfl rfl rfl) ?_
  refine st rfl rfl rfl (op_fieldAddrO (fo := 1) rfl Tryd.underlying68 rfl rfl Tryd.sizeOf3 (by decide) rfl trivial) ?_
  refine st rfl rfl rfl (op_load1 rfl Tryd.isAgg3 (ldv_ptr rdr_box rfl)) ?_
  refine st rfl rfl rfl (op_sub64 rfl rfl rfl (by omega) (by omega)) ?_
  rw [show ((i : Int) + 2 - 2) = (i : Int) by omega]
  refine st rfl rfl rfl (op_assignO rfl rfl) ?_
  refine AOps_nil ?_
  refine AWp_seq ?_
  -- region 2 str.go:44
  refine AWp_regL ?_
  refine st rfl rfl rfl (op_moveO rfl rfl) ?_
  refine st rfl rfl rfl (op_moveO rfl rfl) ?_
  refine st rfl rfl rfl (op_nilCheck rfl rfl rfl) ?_
  refine st rfl rfl rfl (op_fieldAddrO (fo := 1) rfl Tryd.underlying68 rfl rfl Tryd.sizeOf3 (by decide) rfl trivial) ?_
  refine st rfl rfl rfl (op_load1 rfl Tryd.isAgg3 (ldv_ptr rdr_box rfl)) ?_
  refine st rfl rfl rfl (op_callF rfl rfl rfl Tryd.func66 rfl rfl (hexR s (i + 2) hs (by omega))) ?_
  rw [show (rhex s (i + 2)).1 = hV s i from rfl, show (rhex s (i + 2)).2 = hB s i from rfl]
  refine st rfl rfl rfl (op_moveO rfl rfl) ?_
  refine st rfl rfl rfl (op_extract rfl rfl rfl) ?_
  refine st rfl rfl rfl (op_extract rfl rfl rfl) ?_
  refine st rfl rfl rfl (op_assignO rfl rfl) ?_
  refine st rfl rfl rfl (op_assignO rfl rfl) ?_
  refine AOps_nil ?_
  refine AWp_seq ?_
  refine AWp_seq ?_
  -- region 3 str.go:45
  refine AWp_regL ?_
  refine st rfl rfl rfl (op_moveO rfl rfl) ?_
  refine st rfl rfl rfl (op_geq rfl rfl rfl) ?_
  refine AOps_nil ?_
  refine AWp_cond rfl (fun h1 => ?_) (fun h1 => ?_)
  · (try rw [h1]); (try simp only [decide_eq_true_eq, decide_eq_false_iff_not, Bool.not_eq_true', Bool.not_eq_false', Int.not_lt, Int.not_le, Bool.not_true, Bool.not_false, Int.toNat_natCast, bne_iff_ne, beq_iff_eq, beq_eq_false_iff_ne, ne_eq, Decidable.not_not] at h1)
    refine AWp_seq ?_
    -- region 4 str.go:46
    refine AWp_regL ?_
    refine st rfl rfl rfl (op_moveO rfl rfl) ?_
    refine st rfl rfl rfl (op_callF rfl rfl rfl Tryd.func38 rfl rfl (fail_c (hB s i) 1 _)) ?_
    refine st rfl rfl rfl (op_assignO rfl rfl) ?_
    refine AOps_nil ?_
    refine AWp_ret ?_
    (try simp only [blockQ, thenQ])
    first | (obtain ⟨e1, e2, e3⟩ := u_bad (s := s) (i := i) (by omega); rw [e1, e2, e3]; simp only [List.append_nil, if_pos, if_neg, reduceCtorEq, if_false, if_true]; exact ResQ_1H (by simp only [rdr_len]) rfl (rdr_closed2 hcl (rdr_alt hcl)) (by simp [AV.lt, AV.ltL, errV]) ⟨rfl, rfl⟩) | (obtain ⟨e1, e2, e3⟩ := u_pair (s := s) (i := i) (by omega) ⟨by omega, by omega, hlo.2 ⟨by omega, by omega, by omega, by omega⟩⟩; rw [e1, e2, e3]; simp only [List.append_nil, if_pos, if_neg, reduceCtorEq, if_false, if_true]; exact ResQ_1H (by simp only [rdr_len]) rfl (rdr_closed2 hcl (by rw [rdr_len]; simp [AV.lt])) (by simp [AV.lt, AV.ltL, errV]) ⟨rfl, rfl⟩) | (obtain ⟨e1, e2, e3⟩ := u_sur (s := s) (i := i) (by omega) (by unfold uPair; intro hp; have := hlo.1 hp.2.2; omega) ⟨by omega, by omega⟩; rw [e1, e2, e3]; simp only [List.append_nil, if_pos, if_neg, reduceCtorEq, if_false, if_true]; exact ResQ_1H (by simp only [rdr_len]) rfl (rdr_closed2 hcl (rdr_alt hcl)) (by simp [AV.lt, AV.ltL, errV]) ⟨rfl, rfl⟩) | (obtain ⟨e1, e2, e3⟩ := u_plain (s := s) (i := i) (by omega) (by unfold uPair; intro hp; omega) (by unfold uSur; omega); rw [e1, e2, e3]; simp only [List.append_nil, if_pos, if_neg, reduceCtorEq, if_false, if_true]; exact ResQ_1H (by simp only [rdr_len]) rfl (rdr_closed2 hcl (by rw [rdr_len]; simp [AV.lt])) (by simp [AV.lt, AV.ltL, errV]) ⟨rfl, rfl⟩)
  · (try rw [h1]); (try simp only [decide_eq_true_eq, decide_eq_false_iff_not, Bool.not_eq_true', Bool.not_eq_false', Int.not_lt, Int.not_le, Bool.not_true, Bool.not_false, Int.toNat_natCast, bne_iff_ne, beq_iff_eq, beq_eq_false_iff_ne, ne_eq, Decidable.not_not] at h1)
    have hv1 := hv1 (by omega)
    refine AWp_skip ?_
    refine AWp_seq ?_
    -- region 5 str.go:48
    refine AWp_regL ?_
    refine st rfl rfl rfl (op_moveO rfl rfl) ?_
    refine st rfl rfl rfl (op_nilCheck rfl rfl rfl) ?_
    refine st rfl rfl rfl (op_fieldAddrO (fo := 1) rfl Tryd.underlying68 rfl rfl Tryd.sizeOf3 (by decide) rfl trivial) ?_
    refine st rfl rfl rfl (op_load1 rfl Tryd.isAgg3 (ldv_ptr rdr_box rfl)) ?_
    refine st rfl rfl rfl (op_add64 rfl rfl rfl (by omega) (by omega)) ?_
    refine st rfl rfl rfl (op_nilCheck rfl rfl rfl) ?_
    refine st rfl rfl rfl (op_fieldAddrO (fo := 1) rfl Tryd.underlying68 rfl rfl Tryd.sizeOf3 (by decide) rfl trivial) ?_
    refine stN rfl rfl (op_storeP (r := [.str s, .int .i64 ((i : Int) + 6), a, .bts (σ.length + 1) l.length]) rfl Tryd.sizeOf3 rfl rfl rfl rdr_box rfl (by decide)) ?_
    rw [rdr_at]
    refine AOps_nil ?_
    refine AWp_seq ?_
    refine AWp_seq ?_
    -- region 6 str.go:49 DRAWN
    refine AWp_drawL #[0, 1, 3, 7, 15, 31, 63, 127, 255, 511, 1023, 127, 2175, 6271, 14463, 32767, 65535, 131071] Tryd.mixed (by decide +kernel) (by decide +kernel) ?_
    refine rA rfl rfl rfl rfl (fun _ => op_moveO rfl rfl) ?_
    refine rA rfl rfl rfl rfl (fun _ => op_geq rfl rfl rfl) ?_
    refine rA rfl rfl rfl rfl (fun _ => op_moveO rfl rfl) ?_
    refine RP_split 35 rfl (fun h2 => ?_) (fun h2 => ?_)
    · rw [h2]; (try simp only [decide_eq_true_eq, decide_eq_false_iff_not, Bool.not_eq_true', Bool.not_eq_false', Int.not_lt, Int.not_le, Bool.not_true, Bool.not_false, Int.toNat_natCast, bne_iff_ne, beq_iff_eq, beq_eq_false_iff_ne, ne_eq, Decidable.not_not] at h2)
      refine rAG rfl rfl rfl rfl rfl rfl rfl (fun _ => op_moveO rfl rfl) ?_
      refine rAG rfl rfl rfl rfl rfl rfl rfl (fun _ => op_lss rfl rfl rfl) ?_
      refine rA rfl rfl rfl rfl (fun _ => op_pickTO rfl rfl rfl) ?_
      refine rA rfl rfl rfl rfl (fun _ => op_moveO rfl rfl) ?_
      refine RP_split 39 rfl (fun h3 => ?_) (fun h3 => ?_)
      · rw [h3]; (try simp only [decide_eq_true_eq, decide_eq_false_iff_not, Bool.not_eq_true', Bool.not_eq_false', Int.not_lt, Int.not_le, Bool.not_true, Bool.not_false, Int.toNat_natCast, bne_iff_ne, beq_iff_eq, beq_eq_false_iff_ne, ne_eq, Decidable.not_not] at h3)
        refine rAG rfl rfl rfl rfl rfl rfl rfl (fun _ => op_moveO rfl rfl) ?_
        refine rAG rfl rfl rfl rfl rfl rfl rfl (fun _ => op_nilCheck rfl rfl rfl) ?_
        refine rAG rfl rfl rfl rfl rfl rfl rfl (fun _ => op_fieldAddrO (fo := 0) rfl Tryd.underlying68 rfl rfl Tryd.sizeOf9 (by decide) rfl trivial) ?_
        refine rPG rfl rfl rfl rfl rfl rfl rfl (op_load1 rfl Tryd.isAgg9 (ldv_ptr rdr_box rfl)) (trivial) ?_
        refine rAG rfl rfl rfl rfl rfl rfl rfl (fun _ => op_moveO rfl rfl) ?_
        refine rAG rfl rfl rfl rfl rfl rfl rfl (fun _ => op_nilCheck rfl rfl rfl) ?_
        refine rAG rfl rfl rfl rfl rfl rfl rfl (fun _ => op_fieldAddrO (fo := 1) rfl Tryd.underlying68 rfl rfl Tryd.sizeOf3 (by decide) rfl trivial) ?_
        refine rPG rfl rfl rfl rfl rfl rfl rfl (op_load1 rfl Tryd.isAgg3 (ldv_ptr rdr_box rfl)) (trivial) ?_
        refine rAG rfl rfl rfl rfl rfl rfl rfl (fun _ => op_slice_str _ _ rfl Tryd.underlying9 rfl (by first | exact ⟨_, rfl⟩ | rfl) (by first | exact ⟨_, rfl⟩ | rfl) (by omega) (by omega) (by omega)) ?_
        rw [show ((i : Int) + 6).toNat = i + 6 by omega, Int.toNat_natCast]
        have hex6 : (s.extract (i + 6) s.size).size = s.size - (i + 6) := by rw [ByteArray.size_extract]; omega
        refine rPG rfl rfl rfl rfl rfl rfl rfl (op_callF rfl rfl rfl Tryd.func67 rfl rfl (tHasPreB_c _ _ _ (by omega) (by decide))) (trivial) ?_
        rw [pre_u s (i + 6) (by omega)]
        refine rA rfl rfl rfl rfl (fun _ => op_pickTO rfl rfl rfl) ?_
        refine RP.nil rfl ?_
        refine AWp_cond rfl (fun h4 => ?_) (fun h4 => ?_)
        · (try rw [h4]); (try simp only [decide_eq_true_eq, decide_eq_false_iff_not, Bool.not_eq_true', Bool.not_eq_false', Int.not_lt, Int.not_le, Bool.not_true, Bool.not_false, Int.toNat_natCast, bne_iff_ne, beq_iff_eq, beq_eq_false_iff_ne, ne_eq, Decidable.not_not] at h4)
          refine AWp_seq ?_
          -- region 7 str.go:50
          refine AWp_regL ?_
          refine st rfl rfl rfl (op_moveO rfl rfl) ?_
          refine st rfl rfl rfl (op_moveO rfl rfl) ?_
          refine st rfl rfl rfl (op_nilCheck rfl rfl rfl) ?_
          refine st rfl rfl rfl (op_fieldAddrO (fo := 1) rfl Tryd.underlying68 rfl rfl Tryd.sizeOf3 (by decide) rfl trivial) ?_
          refine st rfl rfl rfl (op_load1 rfl Tryd.isAgg3 (ldv_ptr rdr_box rfl)) ?_
          refine st rfl rfl rfl (op_add64 rfl rfl rfl (by omega) (by omega)) ?_
          refine st rfl rfl rfl (op_callF rfl rfl rfl Tryd.func66 rfl rfl (hexR s (i + 8) hs (by omega))) ?_
          refine st rfl rfl rfl (op_moveO rfl rfl) ?_
          refine st rfl rfl rfl (op_extract rfl rfl rfl) ?_
          refine st rfl rfl rfl (op_extract rfl rfl rfl) ?_
          refine st rfl rfl rfl (op_assignO rfl rfl) ?_
          refine st rfl rfl rfl (op_assignO rfl rfl) ?_
          refine AOps_nil ?_
          refine AWp_seq ?_
          -- region 8 str.go:50
          refine AWp_regL ?_
          refine st rfl rfl rfl (op_moveO rfl rfl) ?_
          refine st rfl rfl rfl (op_lss rfl rfl rfl) ?_
          refine st rfl rfl rfl (op_moveO rfl rfl) ?_
          refine AOps_split 63 rfl (fun h5 => ?_) (fun h5 => ?_)
          · rw [h5]; (try simp only [decide_eq_true_eq, decide_eq_false_iff_not, Bool.not_eq_true', Bool.not_eq_false', Int.not_lt, Int.not_le, Bool.not_true, Bool.not_false, Int.toNat_natCast, bne_iff_ne, beq_iff_eq, beq_eq_false_iff_ne, ne_eq, Decidable.not_not] at h5)
            refine stG rfl rfl rfl rfl rfl rfl (op_moveO rfl rfl) ?_
            refine stG rfl rfl rfl rfl rfl rfl (op_geq rfl rfl rfl) ?_
            refine st rfl rfl rfl (op_pickTO rfl rfl rfl) ?_
            refine st rfl rfl rfl (op_moveO rfl rfl) ?_
            refine AOps_split 67 rfl (fun h6 => ?_) (fun h6 => ?_)
            · rw [h6]; (try simp only [decide_eq_true_eq, decide_eq_false_iff_not, Bool.not_eq_true', Bool.not_eq_false', Int.not_lt, Int.not_le, Bool.not_true, Bool.not_false, Int.toNat_natCast, bne_iff_ne, beq_iff_eq, beq_eq_false_iff_ne, ne_eq, Decidable.not_not] at h6)
              refine stG rfl rfl rfl rfl rfl rfl (op_moveO rfl rfl) ?_
              refine stG rfl rfl rfl rfl rfl rfl (op_lss rfl rfl rfl) ?_
              refine st rfl rfl rfl (op_pickTO rfl rfl rfl) ?_
              refine AOps_nil ?_
              refine AWp_cond rfl (fun h7 => ?_) (fun h7 => ?_)
              · (try rw [h7]); (try simp only [decide_eq_true_eq, decide_eq_false_iff_not, Bool.not_eq_true', Bool.not_eq_false', Int.not_lt, Int.not_le, Bool.not_true, Bool.not_false, Int.toNat_natCast, bne_iff_ne, beq_iff_eq, beq_eq_false_iff_ne, ne_eq, Decidable.not_not] at h7)
                refine AWp_seq ?_
                -- region 9 str.go:51
                refine AWp_regL ?_
                refine st rfl rfl rfl (op_moveO rfl rfl) ?_
                refine st rfl rfl rfl (op_nilCheck rfl rfl rfl) ?_
                refine st rfl rfl rfl (op_fieldAddrO (fo := 1) rfl Tryd.underlying68 rfl rfl Tryd.sizeOf3 (by decide) rfl trivial) ?_
                refine st rfl rfl rfl (op_load1 rfl Tryd.isAgg3 (ldv_ptr rdr_box rfl)) ?_
                refine st rfl rfl rfl (op_add64 rfl rfl rfl (by omega) (by omega)) ?_
                refine st rfl rfl rfl (op_nilCheck rfl rfl rfl) ?_
                refine st rfl rfl rfl (op_fieldAddrO (fo := 1) rfl Tryd.underlying68 rfl rfl Tryd.sizeOf3 (by decide) rfl trivial) ?_
                refine stN rfl rfl (op_storeP (r := [.str s, .int .i64 ((i : Int) + 12), a, .bts (σ.length + 1) l.length]) rfl Tryd.sizeOf3 rfl rfl rfl rdr_box rfl (by decide)) ?_
                rw [rdr_at]
                refine AOps_nil ?_
                refine AWp_seq ?_
                -- region 10 str.go:52
                refine AWp_regL ?_
                refine st rfl rfl rfl (op_moveO rfl rfl) ?_
                refine st rfl rfl rfl (op_nilCheck rfl rfl rfl) ?_
                refine st rfl rfl rfl (op_fieldAddrO (fo := 2) rfl Tryd.underlying68 rfl rfl Tryd.sizeOf66 (by decide) rfl trivial) ?_
                refine st rfl rfl rfl (op_moveO rfl rfl) ?_
                refine st rfl rfl rfl (op_subW rfl rfl rfl (i32_in (by omega) (by omega))) ?_
                refine st rfl rfl rfl (op_shl (r := (hV s i - 55296) * 1024) rfl rfl rfl (by decide) (show IntKind.i32.wrap ((hV s i - 55296) * 1024) = _ from i32_in (by omega) (by omega))) ?_
                refine st rfl rfl rfl (op_addW rfl rfl rfl (i32_in (by omega) (by omega))) ?_
                refine st rfl rfl rfl (op_moveO rfl rfl) ?_
                refine st rfl rfl rfl (op_addW rfl rfl rfl (i32_in (by omega) (by omega))) ?_
                refine st rfl rfl rfl (op_subW rfl rfl rfl (i32_in (by omega) (by omega))) ?_
                rw [show (65536 + (hV s i - 55296) * 1024 + (rhex s (i + 8)).1 - 56320 : Int) = pairV s i by unfold pairV; rw [rlow_val (s := s) (a := i + 6) (hlo.2 ⟨by omega, by omega, by omega, by omega⟩)]; show _ = 65536 + 1024 * (hV s i - 55296) + (rhex s (i + 8)).1 - 56320; omega]
                have hpv : 65536 ≤ pairV s i ∧ pairV s i ≤ 1114111 := by unfold pairV; rw [rlow_val (s := s) (a := i + 6) (hlo.2 ⟨by omega, by omega, by omega, by omega⟩)]; show 65536 ≤ 65536 + 1024 * (hV s i - 55296) + (rhex s (i + 8)).1 - 56320 ∧ 65536 + 1024 * (hV s i - 55296) + (rhex s (i + 8)).1 - 56320 ≤ 1114111; omega
                refine st rfl rfl rfl (op_callF rfl rfl rfl Tryd.func68 rfl rfl (wrR (pairV s i) ha (by omega) (by omega) (by omega) hlen)) ?_
                refine AOps_nil ?_
                refine AWp_seq ?_
                -- region 11 str.go:53
                refine AWp_regL ?_
                refine st rfl rfl rfl (op_assignO rfl rfl) ?_
                refine AOps_nil ?_
                refine AWp_ret ?_
                (try simp only [blockQ, thenQ])
                first | (obtain ⟨e1, e2, e3⟩ := u_bad (s := s) (i := i) (by omega); rw [e1, e2, e3]; simp only [List.append_nil, if_pos, if_neg, reduceCtorEq, if_false, if_true]; exact ResQ_1H (by simp only [rdr_len]) rfl (rdr_closed2 hcl (rdr_alt hcl)) (by simp [AV.lt, AV.ltL, errV]) ⟨rfl, rfl⟩) | (obtain ⟨e1, e2, e3⟩ := u_pair (s := s) (i := i) (by omega) ⟨by omega, by omega, hlo.2 ⟨by omega, by omega, by omega, by omega⟩⟩; rw [e1, e2, e3]; simp only [List.append_nil, if_pos, if_neg, reduceCtorEq, if_false, if_true]; exact ResQ_1H (by simp only [rdr_len]) rfl (rdr_closed2 hcl (by rw [rdr_len]; simp [AV.lt])) (by simp [AV.lt, AV.ltL, errV]) ⟨rfl, rfl⟩) | (obtain ⟨e1, e2, e3⟩ := u_sur (s := s) (i := i) (by omega) (by unfold uPair; intro hp; have := hlo.1 hp.2.2; omega) ⟨by omega, by omega⟩; rw [e1, e2, e3]; simp only [List.append_nil, if_pos, if_neg, reduceCtorEq, if_false, if_true]; exact ResQ_1H (by simp only [rdr_len]) rfl (rdr_closed2 hcl (rdr_alt hcl)) (by simp [AV.lt, AV.ltL, errV]) ⟨rfl, rfl⟩) | (obtain ⟨e1, e2, e3⟩ := u_plain (s := s) (i := i) (by omega) (by unfold uPair; intro hp; omega) (by unfold uSur; omega); rw [e1, e2, e3]; simp only [List.append_nil, if_pos, if_neg, reduceCtorEq, if_false, if_true]; exact ResQ_1H (by simp only [rdr_len]) rfl (rdr_closed2 hcl (by rw [rdr_len]; simp [AV.lt])) (by simp [AV.lt, AV.ltL, errV]) ⟨rfl, rfl⟩)
              · (try rw [h7]); (try simp only [decide_eq_true_eq, decide_eq_false_iff_not, Bool.not_eq_true', Bool.not_eq_false', Int.not_lt, Int.not_le, Bool.not_true, Bool.not_false, Int.toNat_natCast, bne_iff_ne, beq_iff_eq, beq_eq_false_iff_ne, ne_eq, Decidable.not_not] at h7)
                refine AWp_skip ?_
                refine AWp_seq ?_
                refine AWp_seq ?_
                -- region 12 str.go:56
                refine AWp_regL ?_
                refine st rfl rfl rfl (op_moveO rfl rfl) ?_
                refine st rfl rfl rfl (op_geq rfl rfl rfl) ?_
                refine st rfl rfl rfl (op_moveO rfl rfl) ?_
                refine AOps_split 91 rfl (fun h8 => ?_) (fun h8 => ?_)
                · rw [h8]; (try simp only [decide_eq_true_eq, decide_eq_false_iff_not, Bool.not_eq_true', Bool.not_eq_false', Int.not_lt, Int.not_le, Bool.not_true, Bool.not_false, Int.toNat_natCast, bne_iff_ne, beq_iff_eq, beq_eq_false_iff_ne, ne_eq, Decidable.not_not] at h8)
                  refine stG rfl rfl rfl rfl rfl rfl (op_moveO rfl rfl) ?_
                  refine stG rfl rfl rfl rfl rfl rfl (op_lss rfl rfl rfl) ?_
                  refine st rfl rfl rfl (op_pickTO rfl rfl rfl) ?_
                  refine AOps_nil ?_
                  refine AWp_cond rfl (fun h9 => ?_) (fun h9 => ?_)
                  · (try rw [h9]); (try simp only [decide_eq_true_eq, decide_eq_false_iff_not, Bool.not_eq_true', Bool.not_eq_false', Int.not_lt, Int.not_le, Bool.not_true, Bool.not_false, Int.toNat_natCast, bne_iff_ne, beq_iff_eq, beq_eq_false_iff_ne, ne_eq, Decidable.not_not] at h9)
                    refine AWp_seq ?_
                    -- region 13 str.go:57
                    refine AWp_regL ?_
                    refine st rfl rfl rfl (op_moveO rfl rfl) ?_
                    refine st rfl rfl rfl (op_callF rfl rfl rfl Tryd.func38 rfl rfl (fail_c (i : Int) 2 _)) ?_
                    refine st rfl rfl rfl (op_assignO rfl rfl) ?_
                    refine AOps_nil ?_
                    refine AWp_ret ?_
                    (try simp only [blockQ, thenQ])
                    first | (obtain ⟨e1, e2, e3⟩ := u_bad (s := s) (i := i) (by omega); rw [e1, e2, e3]; simp only [List.append_nil, if_pos, if_neg, reduceCtorEq, if_false, if_true]; exact ResQ_1H (by simp only [rdr_len]) rfl (rdr_closed2 hcl (rdr_alt hcl)) (by simp [AV.lt, AV.ltL, errV]) ⟨rfl, rfl⟩) | (obtain ⟨e1, e2, e3⟩ := u_pair (s := s) (i := i) (by omega) ⟨by omega, by omega, hlo.2 ⟨by omega, by omega, by omega, by omega⟩⟩; rw [e1, e2, e3]; simp only [List.append_nil, if_pos, if_neg, reduceCtorEq, if_false, if_true]; exact ResQ_1H (by simp only [rdr_len]) rfl (rdr_closed2 hcl (by rw [rdr_len]; simp [AV.lt])) (by simp [AV.lt, AV.ltL, errV]) ⟨rfl, rfl⟩) | (obtain ⟨e1, e2, e3⟩ := u_sur (s := s) (i := i) (by omega) (by unfold uPair; intro hp; have := hlo.1 hp.2.2; omega) ⟨by omega, by omega⟩; rw [e1, e2, e3]; simp only [List.append_nil, if_pos, if_neg, reduceCtorEq, if_false, if_true]; exact ResQ_1H (by simp only [rdr_len]) rfl (rdr_closed2 hcl (rdr_alt hcl)) (by simp [AV.lt, AV.ltL, errV]) ⟨rfl, rfl⟩) | (obtain ⟨e1, e2, e3⟩ := u_plain (s := s) (i := i) (by omega) (by unfold uPair; intro hp; omega) (by unfold uSur; omega); rw [e1, e2, e3]; simp only [List.append_nil, if_pos, if_neg, reduceCtorEq, if_false, if_true]; exact ResQ_1H (by simp only [rdr_len]) rfl (rdr_closed2 hcl (by rw [rdr_len]; simp [AV.lt])) (by simp [AV.lt, AV.ltL, errV]) ⟨rfl, rfl⟩)
                  · (try rw [h9]); (try simp only [decide_eq_true_eq, decide_eq_false_iff_not, Bool.not_eq_true', Bool.not_eq_false', Int.not_lt, Int.not_le, Bool.not_true, Bool.not_false, Int.toNat_natCast, bne_iff_ne, beq_iff_eq, beq_eq_false_iff_ne, ne_eq, Decidable.not_not] at h9)
                    refine AWp_skip ?_
                    refine AWp_seq ?_
                    -- region 14 str.go:59
                    refine AWp_regL ?_
                    refine st rfl rfl rfl (op_moveO rfl rfl) ?_
                    refine st rfl rfl rfl (op_nilCheck rfl rfl rfl) ?_
                    refine st rfl rfl rfl (op_fieldAddrO (fo := 2) rfl Tryd.underlying68 rfl rfl Tryd.sizeOf66 (by decide) rfl trivial) ?_
                    refine st rfl rfl rfl (op_moveO rfl rfl) ?_
                    refine st rfl rfl rfl (op_callF rfl rfl rfl Tryd.func68 rfl rfl (wrR (hV s i) ha (by omega) (by omega) (by omega) hlen)) ?_
                    refine AOps_nil ?_
                    refine AWp_seq ?_
                    -- region 15 str.go:60
                    refine AWp_regL ?_
                    refine st rfl rfl rfl (op_assignO rfl rfl) ?_
                    refine AOps_nil ?_
                    refine AWp_ret ?_
                    (try simp only [blockQ, thenQ])
                    first | (obtain ⟨e1, e2, e3⟩ := u_bad (s := s) (i := i) (by omega); rw [e1, e2, e3]; simp only [List.append_nil, if_pos, if_neg, reduceCtorEq, if_false, if_true]; exact ResQ_1H (by simp only [rdr_len]) rfl (rdr_closed2 hcl (rdr_alt hcl)) (by simp [AV.lt, AV.ltL, errV]) ⟨rfl, rfl⟩) | (obtain ⟨e1, e2, e3⟩ := u_pair (s := s) (i := i) (by omega) ⟨by omega, by omega, hlo.2 ⟨by omega, by omega, by omega, by omega⟩⟩; rw [e1, e2, e3]; simp only [List.append_nil, if_pos, if_neg, reduceCtorEq, if_false, if_true]; exact ResQ_1H (by simp only [rdr_len]) rfl (rdr_closed2 hcl (by rw [rdr_len]; simp [AV.lt])) (by simp [AV.lt, AV.ltL, errV]) ⟨rfl, rfl⟩) | (obtain ⟨e1, e2, e3⟩ := u_sur (s := s) (i := i) (by omega) (by unfold uPair; intro hp; have := hlo.1 hp.2.2; omega) ⟨by omega, by omega⟩; rw [e1, e2, e3]; simp only [List.append_nil, if_pos, if_neg, reduceCtorEq, if_false, if_true]; exact ResQ_1H (by simp only [rdr_len]) rfl (rdr_closed2 hcl (rdr_alt hcl)) (by simp [AV.lt, AV.ltL, errV]) ⟨rfl, rfl⟩) | (obtain ⟨e1, e2, e3⟩ := u_plain (s := s) (i := i) (by omega) (by unfold uPair; intro hp; omega) (by unfold uSur; omega); rw [e1, e2, e3]; simp only [List.append_nil, if_pos, if_neg, reduceCtorEq, if_false, if_true]; exact ResQ_1H (by simp only [rdr_len]) rfl (rdr_closed2 hcl (by rw [rdr_len]; simp [AV.lt])) (by simp [AV.lt, AV.ltL, errV]) ⟨rfl, rfl⟩)
                · rw [h8]; (try simp only [decide_eq_true_eq, decide_eq_false_iff_not, Bool.not_eq_true', Bool.not_eq_false', Int.not_lt, Int.not_le, Bool.not_true, Bool.not_false, Int.toNat_natCast, bne_iff_ne, beq_iff_eq, beq_eq_false_iff_ne, ne_eq, Decidable.not_not] at h8)
                  refine stS rfl rfl rfl (.inl rfl) rfl rfl ?_
                  refine stS rfl rfl rfl (.inl rfl) rfl rfl ?_
                  refine st rfl rfl rfl (op_pickFO rfl rfl rfl) ?_
                  refine AOps_nil ?_
                  refine AWp_condF rfl ?_
                  refine AWp_skip ?_
                  refine AWp_seq ?_
                  -- region 14 str.go:59
                  refine AWp_regL ?_
                  refine st rfl rfl rfl (op_moveO rfl rfl) ?_
                  refine st rfl rfl rfl (op_nilCheck rfl rfl rfl) ?_
                  refine st rfl rfl rfl (op_fieldAddrO (fo := 2) rfl Tryd.underlying68 rfl rfl Tryd.sizeOf66 (by decide) rfl trivial) ?_
                  refine st rfl rfl rfl (op_moveO rfl rfl) ?_
                  refine st rfl rfl rfl (op_callF rfl rfl rfl Tryd.func68 rfl rfl (wrR (hV s i) ha (by omega) (by omega) (by omega) hlen)) ?_
                  refine AOps_nil ?_
                  refine AWp_seq ?_
                  -- region 15 str.go:60
                  refine AWp_regL ?_
                  refine st rfl rfl rfl (op_assignO rfl rfl) ?_
                  refine AOps_nil ?_
                  refine AWp_ret ?_
                  (try simp only [blockQ, thenQ])
                  first | (obtain ⟨e1, e2, e3⟩ := u_bad (s := s) (i := i) (by omega); rw [e1, e2, e3]; simp only [List.append_nil, if_pos, if_neg, reduceCtorEq, if_false, if_true]; exact ResQ_1H (by simp only [rdr_len]) rfl (rdr_closed2 hcl (rdr_alt hcl)) (by simp [AV.lt, AV.ltL, errV]) ⟨rfl, rfl⟩) | (obtain ⟨e1, e2, e3⟩ := u_pair (s := s) (i := i) (by omega) ⟨by omega, by omega, hlo.2 ⟨by omega, by omega, by omega, by omega⟩⟩; rw [e1, e2, e3]; simp only [List.append_nil, if_pos, if_neg, reduceCtorEq, if_false, if_true]; exact ResQ_1H (by simp only [rdr_len]) rfl (rdr_closed2 hcl (by rw [rdr_len]; simp [AV.lt])) (by simp [AV.lt, AV.ltL, errV]) ⟨rfl, rfl⟩) | (obtain ⟨e1, e2, e3⟩ := u_sur (s := s) (i := i) (by omega) (by unfold uPair; intro hp; have := hlo.1 hp.2.2; omega) ⟨by omega, by omega⟩; rw [e1, e2, e3]; simp only [List.append_nil, if_pos, if_neg, reduceCtorEq, if_false, if_true]; exact ResQ_1H (by simp only [rdr_len]) rfl (rdr_closed2 hcl (rdr_alt hcl)) (by simp [AV.lt, AV.ltL, errV]) ⟨rfl, rfl⟩) | (obtain ⟨e1, e2, e3⟩ := u_plain (s := s) (i := i) (by omega) (by unfold uPair; intro hp; omega) (by unfold uSur; omega); rw [e1, e2, e3]; simp only [List.append_nil, if_pos, if_neg, reduceCtorEq, if_false, if_true]; exact ResQ_1H (by simp only [rdr_len]) rfl (rdr_closed2 hcl (by rw [rdr_len]; simp [AV.lt])) (by simp [AV.lt, AV.ltL, errV]) ⟨rfl, rfl⟩)
            · rw [h6]; (try simp only [decide_eq_true_eq, decide_eq_false_iff_not, Bool.not_eq_true', Bool.not_eq_false', Int.not_lt, Int.not_le, Bool.not_true, Bool.not_false, Int.toNat_natCast, bne_iff_ne, beq_iff_eq, beq_eq_false_iff_ne, ne_eq, Decidable.not_not] at h6)
              refine stS rfl rfl rfl (.inl rfl) rfl rfl ?_
              refine stS rfl rfl rfl (.inl rfl) rfl rfl ?_
              refine st rfl rfl rfl (op_pickFO rfl rfl rfl) ?_
              refine AOps_nil ?_
              refine AWp_condF rfl ?_
              refine AWp_skip ?_
              refine AWp_seq ?_
              refine AWp_seq ?_
              -- region 12 str.go:56
              refine AWp_regL ?_
              refine st rfl rfl rfl (op_moveO rfl rfl) ?_
              refine st rfl rfl rfl (op_geq rfl rfl rfl) ?_
              refine st rfl rfl rfl (op_moveO rfl rfl) ?_
              refine AOps_split 91 rfl (fun h10 => ?_) (fun h10 => ?_)
              · rw [h10]; (try simp only [decide_eq_true_eq, decide_eq_false_iff_not, Bool.not_eq_true', Bool.not_eq_false', Int.not_lt, Int.not_le, Bool.not_true, Bool.not_false, Int.toNat_natCast, bne_iff_ne, beq_iff_eq, beq_eq_false_iff_ne, ne_eq, Decidable.not_not] at h10)
                refine stG rfl rfl rfl rfl rfl rfl (op_moveO rfl rfl) ?_
                refine stG rfl rfl rfl rfl rfl rfl (op_lss rfl rfl rfl) ?_
                refine st rfl rfl rfl (op_pickTO rfl rfl rfl) ?_
                refine AOps_nil ?_
                refine AWp_cond rfl (fun h11 => ?_) (fun h11 => ?_)
                · (try rw [h11]); (try simp only [decide_eq_true_eq, decide_eq_false_iff_not, Bool.not_eq_true', Bool.not_eq_false', Int.not_lt, Int.not_le, Bool.not_true, Bool.not_false, Int.toNat_natCast, bne_iff_ne, beq_iff_eq, beq_eq_false_iff_ne, ne_eq, Decidable.not_not] at h11)
                  refine AWp_seq ?_
                  -- region 13 str.go:57
                  refine AWp_regL ?_
                  refine st rfl rfl rfl (op_moveO rfl rfl) ?_
                  refine st rfl rfl rfl (op_callF rfl rfl rfl Tryd.func38 rfl rfl (fail_c (i : Int) 2 _)) ?_
                  refine st rfl rfl rfl (op_assignO rfl rfl) ?_
                  refine AOps_nil ?_
                  refine AWp_ret ?_
                  (try simp only [blockQ, thenQ])
                  first | (obtain ⟨e1, e2, e3⟩ := u_bad (s := s) (i := i) (by omega); rw [e1, e2, e3]; simp only [List.append_nil, if_pos, if_neg, reduceCtorEq, if_false, if_true]; exact ResQ_1H (by simp only [rdr_len]) rfl (rdr_closed2 hcl (rdr_alt hcl)) (by simp [AV.lt, AV.ltL, errV]) ⟨rfl, rfl⟩) | (obtain ⟨e1, e2, e3⟩ := u_pair (s := s) (i := i) (by omega) ⟨by omega, by omega, hlo.2 ⟨by omega, by omega, by omega, by omega⟩⟩; rw [e1, e2, e3]; simp only [List.append_nil, if_pos, if_neg, reduceCtorEq, if_false, if_true]; exact ResQ_1H (by simp only [rdr_len]) rfl (rdr_closed2 hcl (by rw [rdr_len]; simp [AV.lt])) (by simp [AV.lt, AV.ltL, errV]) ⟨rfl, rfl⟩) | (obtain ⟨e1, e2, e3⟩ := u_sur (s := s) (i := i) (by omega) (by unfold uPair; intro hp; have := hlo.1 hp.2.2; omega) ⟨by omega, by omega⟩; rw [e1, e2, e3]; simp only [List.append_nil, if_pos, if_neg, reduceCtorEq, if_false, if_true]; exact ResQ_1H (by simp only [rdr_len]) rfl (rdr_closed2 hcl (rdr_alt hcl)) (by simp [AV.lt, AV.ltL, errV]) ⟨rfl, rfl⟩) | (obtain ⟨e1, e2, e3⟩ := u_plain (s := s) (i := i) (by omega) (by unfold uPair; intro hp; omega) (by unfold uSur; omega); rw [e1, e2, e3]; simp only [List.append_nil, if_pos, if_neg, reduceCtorEq, if_false, if_true]; exact ResQ_1H (by simp only [rdr_len]) rfl (rdr_closed2 hcl (by rw [rdr_len]; simp [AV.lt])) (by simp [AV.lt, AV.ltL, errV]) ⟨rfl, rfl⟩)
                · (try rw [h11]); (try simp only [decide_eq_true_eq, decide_eq_false_iff_not, Bool.not_eq_true', Bool.not_eq_false', Int.not_lt, Int.not_le, Bool.not_true, Bool.not_false, Int.toNat_natCast, bne_iff_ne, beq_iff_eq, beq_eq_false_iff_ne, ne_eq, Decidable.not_not] at h11)
                  refine AWp_skip ?_
                  refine AWp_seq ?_
                  -- region 14 str.go:59
                  refine AWp_regL ?_
                  refine st rfl rfl rfl (op_moveO rfl rfl) ?_
                  refine st rfl rfl rfl (op_nilCheck rfl rfl rfl) ?_
                  refine st rfl rfl rfl (op_fieldAddrO (fo := 2) rfl Tryd.underlying68 rfl rfl Tryd.sizeOf66 (by decide) rfl trivial) ?_
                  refine st rfl rfl rfl (op_moveO rfl rfl) ?_
                  refine st rfl rfl rfl (op_callF rfl rfl rfl Tryd.func68 rfl rfl (wrR (hV s i) ha (by omega) (by omega) (by omega) hlen)) ?_
                  refine AOps_nil ?_
                  refine AWp_seq ?_
                  -- region 15 str.go:60
                  refine AWp_regL ?_
                  refine st rfl rfl rfl (op_assignO rfl rfl) ?_
                  refine AOps_nil ?_
                  refine AWp_ret ?_
                  (try simp only [blockQ, thenQ])
                  first | (obtain ⟨e1, e2, e3⟩ := u_bad (s := s) (i := i) (by omega); rw [e1, e2, e3]; simp only [List.append_nil, if_pos, if_neg, reduceCtorEq, if_false, if_true]; exact ResQ_1H (by simp only [rdr_len]) rfl (rdr_closed2 hcl (rdr_alt hcl)) (by simp [AV.lt, AV.ltL, errV]) ⟨rfl, rfl⟩) | (obtain ⟨e1, e2, e3⟩ := u_pair (s := s) (i := i) (by omega) ⟨by omega, by omega, hlo.2 ⟨by omega, by omega, by omega, by omega⟩⟩; rw [e1, e2, e3]; simp only [List.append_nil, if_pos, if_neg, reduceCtorEq, if_false, if_true]; exact ResQ_1H (by simp only [rdr_len]) rfl (rdr_closed2 hcl (by rw [rdr_len]; simp [AV.lt])) (by simp [AV.lt, AV.ltL, errV]) ⟨rfl, rfl⟩) | (obtain ⟨e1, e2, e3⟩ := u_sur (s := s) (i := i) (by omega) (by unfold uPair; intro hp; have := hlo.1 hp.2.2; omega) ⟨by omega, by omega⟩; rw [e1, e2, e3]; simp only [List.append_nil, if_pos, if_neg, reduceCtorEq, if_false, if_true]; exact ResQ_1H (by simp only [rdr_len]) rfl (rdr_closed2 hcl (rdr_alt hcl)) (by simp [AV.lt, AV.ltL, errV]) ⟨rfl, rfl⟩) | (obtain ⟨e1, e2, e3⟩ := u_plain (s := s) (i := i) (by omega) (by unfold uPair; intro hp; omega) (by unfold uSur; omega); rw [e1, e2, e3]; simp only [List.append_nil, if_pos, if_neg, reduceCtorEq, if_false, if_true]; exact ResQ_1H (by simp only [rdr_len]) rfl (rdr_closed2 hcl (by rw [rdr_len]; simp [AV.lt])) (by simp [AV.lt, AV.ltL, errV]) ⟨rfl, rfl⟩)
              · rw [h10]; (try simp only [decide_eq_true_eq, decide_eq_false_iff_not, Bool.not_eq_true', Bool.not_eq_false', Int.not_lt, Int.not_le, Bool.not_true, Bool.not_false, Int.toNat_natCast, bne_iff_ne, beq_iff_eq, beq_eq_false_iff_ne, ne_eq, Decidable.not_not] at h10)
                refine stS rfl rfl rfl (.inl rfl) rfl rfl ?_
                refine stS rfl rfl rfl (.inl rfl) rfl rfl ?_
                refine st rfl rfl rfl (op_pickFO rfl rfl rfl) ?_
                refine AOps_nil ?_
                refine AWp_condF rfl ?_
                refine AWp_skip ?_
                refine AWp_seq ?_
                -- region 14 str.go:59
                refine AWp_regL ?_
                refine st rfl rfl rfl (op_moveO rfl rfl) ?_
                refine st rfl rfl rfl (op_nilCheck rfl rfl rfl) ?_
                refine st rfl rfl rfl (op_fieldAddrO (fo := 2) rfl Tryd.underlying68 rfl rfl Tryd.sizeOf66 (by decide) rfl trivial) ?_
                refine st rfl rfl rfl (op_moveO rfl rfl) ?_
                refine st rfl rfl rfl (op_callF rfl rfl rfl Tryd.func68 rfl rfl (wrR (hV s i) ha (by omega) (by omega) (by omega) hlen)) ?_
                refine AOps_nil ?_
                refine AWp_seq ?_
                -- region 15 str.go:60
                refine AWp_regL ?_
                refine st rfl rfl rfl (op_assignO rfl rfl) ?_
                refine AOps_nil ?_
                refine AWp_ret ?_
                (try simp only [blockQ, thenQ])
                first | (obtain ⟨e1, e2, e3⟩ := u_bad (s := s) (i := i) (by omega); rw [e1, e2, e3]; simp only [List.append_nil, if_pos, if_neg, reduceCtorEq, if_false, if_true]; exact ResQ_1H (by simp only [rdr_len]) rfl (rdr_closed2 hcl (rdr_alt hcl)) (by simp [AV.lt, AV.ltL, errV]) ⟨rfl, rfl⟩) | (obtain ⟨e1, e2, e3⟩ := u_pair (s := s) (i := i) (by omega) ⟨by omega, by omega, hlo.2 ⟨by omega, by omega, by omega, by omega⟩⟩; rw [e1, e2, e3]; simp only [List.append_nil, if_pos, if_neg, reduceCtorEq, if_false, if_true]; exact ResQ_1H (by simp only [rdr_len]) rfl (rdr_closed2 hcl (by rw [rdr_len]; simp [AV.lt])) (by simp [AV.lt, AV.ltL, errV]) ⟨rfl, rfl⟩) | (obtain ⟨e1, e2, e3⟩ := u_sur (s := s) (i := i) (by omega) (by unfold uPair; intro hp; have := hlo.1 hp.2.2; omega) ⟨by omega, by omega⟩; rw [e1, e2, e3]; simp only [List.append_nil, if_pos, if_neg, reduceCtorEq, if_false, if_true]; exact ResQ_1H (by simp only [rdr_len]) rfl (rdr_closed2 hcl (rdr_alt hcl)) (by simp [AV.lt, AV.ltL, errV]) ⟨rfl, rfl⟩) | (obtain ⟨e1, e2, e3⟩ := u_plain (s := s) (i := i) (by omega) (by unfold uPair; intro hp; omega) (by unfold uSur; omega); rw [e1, e2, e3]; simp only [List.append_nil, if_pos, if_neg, reduceCtorEq, if_false, if_true]; exact ResQ_1H (by simp only [rdr_len]) rfl (rdr_closed2 hcl (by rw [rdr_len]; simp [AV.lt])) (by simp [AV.lt, AV.ltL, errV]) ⟨rfl, rfl⟩)
          · rw [h5]; (try simp only [decide_eq_true_eq, decide_eq_false_iff_not, Bool.not_eq_true', Bool.not_eq_false', Int.not_lt, Int.not_le, Bool.not_true, Bool.not_false, Int.toNat_natCast, bne_iff_ne, beq_iff_eq, beq_eq_false_iff_ne, ne_eq, Decidable.not_not] at h5)
            refine stS rfl rfl rfl (.inl rfl) rfl rfl ?_
            refine stS rfl rfl rfl (.inl rfl) rfl rfl ?_
            refine st rfl rfl rfl (op_pickFO rfl rfl rfl) ?_
            refine st rfl rfl rfl (op_moveO rfl rfl) ?_
            refine stS rfl rfl rfl (.inl rfl) rfl rfl ?_
            refine stS rfl rfl rfl (.inl rfl) rfl rfl ?_
            refine st rfl rfl rfl (op_pickFO rfl rfl rfl) ?_
            refine AOps_nil ?_
            refine AWp_condF rfl ?_
            refine AWp_skip ?_
            refine AWp_seq ?_
            refine AWp_seq ?_
            -- region 12 str.go:56
            refine AWp_regL ?_
            refine st rfl rfl rfl (op_moveO rfl rfl) ?_
            refine st rfl rfl rfl (op_geq rfl rfl rfl) ?_
            refine st rfl rfl rfl (op_moveO rfl rfl) ?_
            refine AOps_split 91 rfl (fun h12 => ?_) (fun h12 => ?_)
            · rw [h12]; (try simp only [decide_eq_true_eq, decide_eq_false_iff_not, Bool.not_eq_true', Bool.not_eq_false', Int.not_lt, Int.not_le, Bool.not_true, Bool.not_false, Int.toNat_natCast, bne_iff_ne, beq_iff_eq, beq_eq_false_iff_ne, ne_eq, Decidable.not_not] at h12)
              refine stG rfl rfl rfl rfl rfl rfl (op_moveO rfl rfl) ?_
              refine stG rfl rfl rfl rfl rfl rfl (op_lss rfl rfl rfl) ?_
              refine st rfl rfl rfl (op_pickTO rfl rfl rfl) ?_
              refine AOps_nil ?_
              refine AWp_cond rfl (fun h13 => ?_) (fun h13 => ?_)
              · (try rw [h13]); (try simp only [decide_eq_true_eq, decide_eq_false_iff_not, Bool.not_eq_true', Bool.not_eq_false', Int.not_lt, Int.not_le, Bool.not_true, Bool.not_false, Int.toNat_natCast, bne_iff_ne, beq_iff_eq, beq_eq_false_iff_ne, ne_eq, Decidable.not_not] at h13)
                refine AWp_seq ?_
                -- region 13 str.go:57
                refine AWp_regL ?_
                refine st rfl rfl rfl (op_moveO rfl rfl) ?_
                refine st rfl rfl rfl (op_callF rfl rfl rfl Tryd.func38 rfl rfl (fail_c (i : Int) 2 _)) ?_
                refine st rfl rfl rfl (op_assignO rfl rfl) ?_
                refine AOps_nil ?_
                refine AWp_ret ?_
                (try simp only [blockQ, thenQ])
                first | (obtain ⟨e1, e2, e3⟩ := u_bad (s := s) (i := i) (by omega); rw [e1, e2, e3]; simp only [List.append_nil, if_pos, if_neg, reduceCtorEq, if_false, if_true]; exact ResQ_1H (by simp only [rdr_len]) rfl (rdr_closed2 hcl (rdr_alt hcl)) (by simp [AV.lt, AV.ltL, errV]) ⟨rfl, rfl⟩) | (obtain ⟨e1, e2, e3⟩ := u_pair (s := s) (i := i) (by omega) ⟨by omega, by omega, hlo.2 ⟨by omega, by omega, by omega, by omega⟩⟩; rw [e1, e2, e3]; simp only [List.append_nil, if_pos, if_neg, reduceCtorEq, if_false, if_true]; exact ResQ_1H (by simp only [rdr_len]) rfl (rdr_closed2 hcl (by rw [rdr_len]; simp [AV.lt])) (by simp [AV.lt, AV.ltL, errV]) ⟨rfl, rfl⟩) | (obtain ⟨e1, e2, e3⟩ := u_sur (s := s) (i := i) (by omega) (by unfold uPair; intro hp; have := hlo.1 hp.2.2; omega) ⟨by omega, by omega⟩; rw [e1, e2, e3]; simp only [List.append_nil, if_pos, if_neg, reduceCtorEq, if_false, if_true]; exact ResQ_1H (by simp only [rdr_len]) rfl (rdr_closed2 hcl (rdr_alt hcl)) (by simp [AV.lt, AV.ltL, errV]) ⟨rfl, rfl⟩) | (obtain ⟨e1, e2, e3⟩ := u_plain (s := s) (i := i) (by omega) (by unfold uPair; intro hp; omega) (by unfold uSur; omega); rw [e1, e2, e3]; simp only [List.append_nil, if_pos, if_neg, reduceCtorEq, if_false, if_true]; exact ResQ_1H (by simp only [rdr_len]) rfl (rdr_closed2 hcl (by rw [rdr_len]; simp [AV.lt])) (by simp [AV.lt, AV.ltL, errV]) ⟨rfl, rfl⟩)
              · (try rw [h13]); (try simp only [decide_eq_true_eq, decide_eq_false_iff_not, Bool.not_eq_true', Bool.not_eq_false', Int.not_lt, Int.not_le, Bool.not_true, Bool.not_false, Int.toNat_natCast, bne_iff_ne, beq_iff_eq, beq_eq_false_iff_ne, ne_eq, Decidable.not_not] at h13)
                refine AWp_skip ?_
                refine AWp_seq ?_
                -- region 14 str.go:59
                refine AWp_regL ?_
                refine st rfl rfl rfl (op_moveO rfl rfl) ?_
                refine st rfl rfl rfl (op_nilCheck rfl rfl rfl) ?_
                refine st rfl rfl rfl (op_fieldAddrO (fo := 2) rfl Tryd.underlying68 rfl rfl Tryd.sizeOf66 (by decide) rfl trivial) ?_
                refine st rfl rfl rfl (op_moveO rfl rfl) ?_
                refine st rfl rfl rfl (op_callF rfl rfl rfl Tryd.func68 rfl rfl (wrR (hV s i) ha (by omega) (by omega) (by omega) hlen)) ?_
                refine AOps_nil ?_
                refine AWp_seq ?_
                -- region 15 str.go:60
                refine AWp_regL ?_
                refine st rfl rfl rfl (op_assignO rfl rfl) ?_
                refine AOps_nil ?_
                refine AWp_ret ?_
                (try simp only [blockQ, thenQ])
                first | (obtain ⟨e1, e2, e3⟩ := u_bad (s := s) (i := i) (by omega); rw [e1, e2, e3]; simp only [List.append_nil, if_pos, if_neg, reduceCtorEq, if_false, if_true]; exact ResQ_1H (by simp only [rdr_len]) rfl (rdr_closed2 hcl (rdr_alt hcl)) (by simp [AV.lt, AV.ltL, errV]) ⟨rfl, rfl⟩) | (obtain ⟨e1, e2, e3⟩ := u_pair (s := s) (i := i) (by omega) ⟨by omega, by omega, hlo.2 ⟨by omega, by omega, by omega, by omega⟩⟩; rw [e1, e2, e3]; simp only [List.append_nil, if_pos, if_neg, reduceCtorEq, if_false, if_true]; exact ResQ_1H (by simp only [rdr_len]) rfl (rdr_closed2 hcl (by rw [rdr_len]; simp [AV.lt])) (by simp [AV.lt, AV.ltL, errV]) ⟨rfl, rfl⟩) | (obtain ⟨e1, e2, e3⟩ := u_sur (s := s) (i := i) (by omega) (by unfold uPair; intro hp; have := hlo.1 hp.2.2; omega) ⟨by omega, by omega⟩; rw [e1, e2, e3]; simp only [List.append_nil, if_pos, if_neg, reduceCtorEq, if_false, if_true]; exact ResQ_1H (by simp only [rdr_len]) rfl (rdr_closed2 hcl (rdr_alt hcl)) (by simp [AV.lt, AV.ltL, errV]) ⟨rfl, rfl⟩) | (obtain ⟨e1, e2, e3⟩ := u_plain (s := s) (i := i) (by omega) (by unfold uPair; intro hp; omega) (by unfold uSur; omega); rw [e1, e2, e3]; simp only [List.append_nil, if_pos, if_neg, reduceCtorEq, if_false, if_true]; exact ResQ_1H (by simp only [rdr_len]) rfl (rdr_closed2 hcl (by rw [rdr_len]; simp [AV.lt])) (by simp [AV.lt, AV.ltL, errV]) ⟨rfl, rfl⟩)
            · rw [h12]; (try simp only [decide_eq_true_eq, decide_eq_false_iff_not, Bool.not_eq_true', Bool.not_eq_false', Int.not_lt, Int.not_le, Bool.not_true, Bool.not_false, Int.toNat_natCast, bne_iff_ne, beq_iff_eq, beq_eq_false_iff_ne, ne_eq, Decidable.not_not] at h12)
              refine stS rfl rfl rfl (.inl rfl) rfl rfl ?_
              refine stS rfl rfl rfl (.inl rfl) rfl rfl ?_
              refine st rfl rfl rfl (op_pickFO rfl rfl rfl) ?_
              refine AOps_nil ?_
              refine AWp_condF rfl ?_
              refine AWp_skip ?_
              refine AWp_seq ?_
              -- region 14 str.go:59
              refine AWp_regL ?_
              refine st rfl rfl rfl (op_moveO rfl rfl) ?_
              refine st rfl rfl rfl (op_nilCheck rfl rfl rfl) ?_
              refine st rfl rfl rfl (op_fieldAddrO (fo := 2) rfl Tryd.underlying68 rfl rfl Tryd.sizeOf66 (by decide) rfl trivial) ?_
              refine st rfl rfl rfl (op_moveO rfl rfl) ?_
              refine st rfl rfl rfl (op_callF rfl rfl rfl Tryd.func68 rfl rfl (wrR (hV s i) ha (by omega) (by omega) (by omega) hlen)) ?_
              refine AOps_nil ?_
              refine AWp_seq ?_
              -- region 15 str.go:60
              refine AWp_regL ?_
              refine st rfl rfl rfl (op_assignO rfl rfl) ?_
              refine AOps_nil ?_
              refine AWp_ret ?_
              (try simp only [blockQ, thenQ])
              first | (obtain ⟨e1, e2, e3⟩ := u_bad (s := s) (i := i) (by omega); rw [e1, e2, e3]; simp only [List.append_nil, if_pos, if_neg, reduceCtorEq, if_false, if_true]; exact ResQ_1H (by simp only [rdr_len]) rfl (rdr_closed2 hcl (rdr_alt hcl)) (by simp [AV.lt, AV.ltL, errV]) ⟨rfl, rfl⟩) | (obtain ⟨e1, e2, e3⟩ := u_pair (s := s) (i := i) (by omega) ⟨by omega, by omega, hlo.2 ⟨by omega, by omega, by omega, by omega⟩⟩; rw [e1, e2, e3]; simp only [List.append_nil, if_pos, if_neg, reduceCtorEq, if_false, if_true]; exact ResQ_1H (by simp only [rdr_len]) rfl (rdr_closed2 hcl (by rw [rdr_len]; simp [AV.lt])) (by simp [AV.lt, AV.ltL, errV]) ⟨rfl, rfl⟩) | (obtain ⟨e1, e2, e3⟩ := u_sur (s := s) (i := i) (by omega) (by unfold uPair; intro hp; have := hlo.1 hp.2.2; omega) ⟨by omega, by omega⟩; rw [e1, e2, e3]; simp only [List.append_nil, if_pos, if_neg, reduceCtorEq, if_false, if_true]; exact ResQ_1H (by simp only [rdr_len]) rfl (rdr_closed2 hcl (rdr_alt hcl)) (by simp [AV.lt, AV.ltL, errV]) ⟨rfl, rfl⟩) | (obtain ⟨e1, e2, e3⟩ := u_plain (s := s) (i := i) (by omega) (by unfold uPair; intro hp; omega) (by unfold uSur; omega); rw [e1, e2, e3]; simp only [List.append_nil, if_pos, if_neg, reduceCtorEq, if_false, if_true]; exact ResQ_1H (by simp only [rdr_len]) rfl (rdr_closed2 hcl (by rw [rdr_len]; simp [AV.lt])) (by simp [AV.lt, AV.ltL, errV]) ⟨rfl, rfl⟩)
        · (try rw [h4]); (try simp only [decide_eq_true_eq, decide_eq_false_iff_not, Bool.not_eq_true', Bool.not_eq_false', Int.not_lt, Int.not_le, Bool.not_true, Bool.not_false, Int.toNat_natCast, bne_iff_ne, beq_iff_eq, beq_eq_false_iff_ne, ne_eq, Decidable.not_not] at h4)
          refine AWp_skip ?_
          refine AWp_seq ?_
          refine AWp_seq ?_
          -- region 12 str.go:56
          refine AWp_regL ?_
          refine st rfl rfl rfl (op_moveO rfl rfl) ?_
          refine st rfl rfl rfl (op_geq rfl rfl rfl) ?_
          refine st rfl rfl rfl (op_moveO rfl rfl) ?_
          refine AOps_split 91 rfl (fun h14 => ?_) (fun h14 => ?_)
          · rw [h14]; (try simp only [decide_eq_true_eq, decide_eq_false_iff_not, Bool.not_eq_true', Bool.not_eq_false', Int.not_lt, Int.not_le, Bool.not_true, Bool.not_false, Int.toNat_natCast, bne_iff_ne, beq_iff_eq, beq_eq_false_iff_ne, ne_eq, Decidable.not_not] at h14)
            refine stG rfl rfl rfl rfl rfl rfl (op_moveO rfl rfl) ?_
            refine stG rfl rfl rfl rfl rfl rfl (op_lss rfl rfl rfl) ?_
            refine st rfl rfl rfl (op_pickTO rfl rfl rfl) ?_
            refine AOps_nil ?_
            refine AWp_cond rfl (fun h15 => ?_) (fun h15 => ?_)
            · (try rw [h15]); (try simp only [decide_eq_true_eq, decide_eq_false_iff_not, Bool.not_eq_true', Bool.not_eq_false', Int.not_lt, Int.not_le, Bool.not_true, Bool.not_false, Int.toNat_natCast, bne_iff_ne, beq_iff_eq, beq_eq_false_iff_ne, ne_eq, Decidable.not_not] at h15)
              refine AWp_seq ?_
              -- region 13 str.go:57
              refine AWp_regL ?_
              refine st rfl rfl rfl (op_moveO rfl rfl) ?_
              refine st rfl rfl rfl (op_callF rfl rfl rfl Tryd.func38 rfl rfl (fail_c (i : Int) 2 _)) ?_
              refine st rfl rfl rfl (op_assignO rfl rfl) ?_
              refine AOps_nil ?_
              refine AWp_ret ?_
              (try simp only [blockQ, thenQ])
              first | (obtain ⟨e1, e2, e3⟩ := u_bad (s := s) (i := i) (by omega); rw [e1, e2, e3]; simp only [List.append_nil, if_pos, if_neg, reduceCtorEq, if_false, if_true]; exact ResQ_1H (by simp only [rdr_len]) rfl (rdr_closed2 hcl (rdr_alt hcl)) (by simp [AV.lt, AV.ltL, errV]) ⟨rfl, rfl⟩) | (obtain ⟨e1, e2, e3⟩ := u_pair (s := s) (i := i) (by omega) ⟨by omega, by omega, hlo.2 ⟨by omega, by omega, by omega, by omega⟩⟩; rw [e1, e2, e3]; simp only [List.append_nil, if_pos, if_neg, reduceCtorEq, if_false, if_true]; exact ResQ_1H (by simp only [rdr_len]) rfl (rdr_closed2 hcl (by rw [rdr_len]; simp [AV.lt])) (by simp [AV.lt, AV.ltL, errV]) ⟨rfl, rfl⟩) | (obtain ⟨e1, e2, e3⟩ := u_sur (s := s) (i := i) (by omega) (by unfold uPair; intro hp; have := hlo.1 hp.2.2; omega) ⟨by omega, by omega⟩; rw [e1, e2, e3]; simp only [List.append_nil, if_pos, if_neg, reduceCtorEq, if_false, if_true]; exact ResQ_1H (by simp only [rdr_len]) rfl (rdr_closed2 hcl (rdr_alt hcl)) (by simp [AV.lt, AV.ltL, errV]) ⟨rfl, rfl⟩) | (obtain ⟨e1, e2, e3⟩ := u_plain (s := s) (i := i) (by omega) (by unfold uPair; intro hp; omega) (by unfold uSur; omega); rw [e1, e2, e3]; simp only [List.append_nil, if_pos, if_neg, reduceCtorEq, if_false, if_true]; exact ResQ_1H (by simp only [rdr_len]) rfl (rdr_closed2 hcl (by rw [rdr_len]; simp [AV.lt])) (by simp [AV.lt, AV.ltL, errV]) ⟨rfl, rfl⟩)
            · (try rw [h15]); (try simp only [decide_eq_true_eq, decide_eq_false_iff_not, Bool.not_eq_true', Bool.not_eq_false', Int.not_lt, Int.not_le, Bool.not_true, Bool.not_false, Int.toNat_natCast, bne_iff_ne, beq_iff_eq, beq_eq_false_iff_ne, ne_eq, Decidable.not_not] at h15)
              refine AWp_skip ?_
              refine AWp_seq ?_
              -- region 14 str.go:59
              refine AWp_regL ?_
              refine st rfl rfl rfl (op_moveO rfl rfl) ?_
              refine st rfl rfl rfl (op_nilCheck rfl rfl rfl) ?_
              refine st rfl rfl rfl (op_fieldAddrO (fo := 2) rfl Tryd.underlying68 rfl rfl Tryd.sizeOf66 (by decide) rfl trivial) ?_
              refine st rfl rfl rfl (op_moveO rfl rfl) ?_
              refine st rfl rfl rfl (op_callF rfl rfl rfl Tryd.func68 rfl rfl (wrR (hV s i) ha (by omega) (by omega) (by omega) hlen)) ?_
              refine AOps_nil ?_
              refine AWp_seq ?_
              -- region 15 str.go:60
              refine AWp_regL ?_
              refine st rfl rfl rfl (op_assignO rfl rfl) ?_
              refine AOps_nil ?_
              refine AWp_ret ?_
              (try simp only [blockQ, thenQ])
              first | (obtain ⟨e1, e2, e3⟩ := u_bad (s := s) (i := i) (by omega); rw [e1, e2, e3]; simp only [List.append_nil, if_pos, if_neg, reduceCtorEq, if_false, if_true]; exact ResQ_1H (by simp only [rdr_len]) rfl (rdr_closed2 hcl (rdr_alt hcl)) (by simp [AV.lt, AV.ltL, errV]) ⟨rfl, rfl⟩) | (obtain ⟨e1, e2, e3⟩ := u_pair (s := s) (i := i) (by omega) ⟨by omega, by omega, hlo.2 ⟨by omega, by omega, by omega, by omega⟩⟩; rw [e1, e2, e3]; simp only [List.append_nil, if_pos, if_neg, reduceCtorEq, if_false, if_true]; exact ResQ_1H (by simp only [rdr_len]) rfl (rdr_closed2 hcl (by rw [rdr_len]; simp [AV.lt])) (by simp [AV.lt, AV.ltL, errV]) ⟨rfl, rfl⟩) | (obtain ⟨e1, e2, e3⟩ := u_sur (s := s) (i := i) (by omega) (by unfold uPair; intro hp; have := hlo.1 hp.2.2; omega) ⟨by omega, by omega⟩; rw [e1, e2, e3]; simp only [List.append_nil, if_pos, if_neg, reduceCtorEq, if_false, if_true]; exact ResQ_1H (by simp only [rdr_len]) rfl (rdr_closed2 hcl (rdr_alt hcl)) (by simp [AV.lt, AV.ltL, errV]) ⟨rfl, rfl⟩) | (obtain ⟨e1, e2, e3⟩ := u_plain (s := s) (i := i) (by omega) (by unfold uPair; intro hp; omega) (by unfold uSur; omega); rw [e1, e2, e3]; simp only [List.append_nil, if_pos, if_neg, reduceCtorEq, if_false, if_true]; exact ResQ_1H (by simp only [rdr_len]) rfl (rdr_closed2 hcl (by rw [rdr_len]; simp [AV.lt])) (by simp [AV.lt, AV.ltL, errV]) ⟨rfl, rfl⟩)
          · rw [h14]; (try simp only [decide_eq_true_eq, decide_eq_false_iff_not, Bool.not_eq_true', Bool.not_eq_false', Int.not_lt, Int.not_le, Bool.not_true, Bool.not_false, Int.toNat_natCast, bne_iff_ne, beq_iff_eq, beq_eq_false_iff_ne, ne_eq, Decidable.not_not] at h14)
            refine stS rfl rfl rfl (.inl rfl) rfl rfl ?_
            refine stS rfl rfl rfl (.inl rfl) rfl rfl ?_
            refine st rfl rfl rfl (op_pickFO rfl rfl rfl) ?_
            refine AOps_nil ?_
            refine AWp_condF rfl ?_
            refine AWp_skip ?_
            refine AWp_seq ?_
            -- region 14 str.go:59
            refine AWp_regL ?_
            refine st rfl rfl rfl (op_moveO rfl rfl) ?_
            refine st rfl rfl rfl (op_nilCheck rfl rfl rfl) ?_
            refine st rfl rfl rfl (op_fieldAddrO (fo := 2) rfl Tryd.underlying68 rfl rfl Tryd.sizeOf66 (by decide) rfl trivial) ?_
            refine st rfl rfl rfl (op_moveO rfl rfl) ?_
            refine st rfl rfl rfl (op_callF rfl rfl rfl Tryd.func68 rfl rfl (wrR (hV s i) ha (by omega) (by omega) (by omega) hlen)) ?_
            refine AOps_nil ?_
            refine AWp_seq ?_
            -- region 15 str.go:60
            refine AWp_regL ?_
            refine st rfl rfl rfl (op_assignO rfl rfl) ?_
            refine AOps_nil ?_
            refine AWp_ret ?_
            (try simp only [blockQ, thenQ])
            first | (obtain ⟨e1, e2, e3⟩ := u_bad (s := s) (i := i) (by omega); rw [e1, e2, e3]; simp only [List.append_nil, if_pos, if_neg, reduceCtorEq, if_false, if_true]; exact ResQ_1H (by simp only [rdr_len]) rfl (rdr_closed2 hcl (rdr_alt hcl)) (by simp [AV.lt, AV.ltL, errV]) ⟨rfl, rfl⟩) | (obtain ⟨e1, e2, e3⟩ := u_pair (s := s) (i := i) (by omega) ⟨by omega, by omega, hlo.2 ⟨by omega, by omega, by omega, by omega⟩⟩; rw [e1, e2, e3]; simp only [List.append_nil, if_pos, if_neg, reduceCtorEq, if_false, if_true]; exact ResQ_1H (by simp only [rdr_len]) rfl (rdr_closed2 hcl (by rw [rdr_len]; simp [AV.lt])) (by simp [AV.lt, AV.ltL, errV]) ⟨rfl, rfl⟩) | (obtain ⟨e1, e2, e3⟩ := u_sur (s := s) (i := i) (by omega) (by unfold uPair; intro hp; have := hlo.1 hp.2.2; omega) ⟨by omega, by omega⟩; rw [e1, e2, e3]; simp only [List.append_nil, if_pos, if_neg, reduceCtorEq, if_false, if_true]; exact ResQ_1H (by simp only [rdr_len]) rfl (rdr_closed2 hcl (rdr_alt hcl)) (by simp [AV.lt, AV.ltL, errV]) ⟨rfl, rfl⟩) | (obtain ⟨e1, e2, e3⟩ := u_plain (s := s) (i := i) (by omega) (by unfold uPair; intro hp; omega) (by unfold uSur; omega); rw [e1, e2, e3]; simp only [List.append_nil, if_pos, if_neg, reduceCtorEq, if_false, if_true]; exact ResQ_1H (by simp only [rdr_len]) rfl (rdr_closed2 hcl (by rw [rdr_len]; simp [AV.lt])) (by simp [AV.lt, AV.ltL, errV]) ⟨rfl, rfl⟩)
      · rw [h3]; (try simp only [decide_eq_true_eq, decide_eq_false_iff_not, Bool.not_eq_true', Bool.not_eq_false', Int.not_lt, Int.not_le, Bool.not_true, Bool.not_false, Int.toNat_natCast, bne_iff_ne, beq_iff_eq, beq_eq_false_iff_ne, ne_eq, Decidable.not_not] at h3)
        refine rS rfl rfl rfl rfl (.inl rfl) rfl rfl ?_
        refine rS rfl rfl rfl rfl (.inl rfl) rfl rfl ?_
        refine rS rfl rfl rfl rfl (.inl rfl) rfl rfl ?_
        refine rS rfl rfl rfl rfl (.inl rfl) rfl rfl ?_
        refine rS rfl rfl rfl rfl (.inl rfl) rfl rfl ?_
        refine rS rfl rfl rfl rfl (.inl rfl) rfl rfl ?_
        refine rS rfl rfl rfl rfl (.inl rfl) rfl rfl ?_
        refine rS rfl rfl rfl rfl (.inl rfl) rfl rfl ?_
        refine rS rfl rfl rfl rfl (.inl rfl) rfl rfl ?_
        refine rS rfl rfl rfl rfl (.inl rfl) rfl rfl ?_
        refine rA rfl rfl rfl rfl (fun _ => op_pickFO rfl rfl rfl) ?_
        refine RP.nil rfl ?_
        refine AWp_condF rfl ?_
        refine AWp_skip ?_
        refine AWp_seq ?_
        refine AWp_seq ?_
        -- region 12 str.go:56
        refine AWp_regL ?_
        refine st rfl rfl rfl (op_moveO rfl rfl) ?_
        refine st rfl rfl rfl (op_geq rfl rfl rfl) ?_
        refine st rfl rfl rfl (op_moveO rfl rfl) ?_
        refine AOps_split 91 rfl (fun h16 => ?_) (fun h16 => ?_)
        · rw [h16]; (try simp only [decide_eq_true_eq, decide_eq_false_iff_not, Bool.not_eq_true', Bool.not_eq_false', Int.not_lt, Int.not_le, Bool.not_true, Bool.not_false, Int.toNat_natCast, bne_iff_ne, beq_iff_eq, beq_eq_false_iff_ne, ne_eq, Decidable.not_not] at h16)
          refine stG rfl rfl rfl rfl rfl rfl (op_moveO rfl rfl) ?_
          refine stG rfl rfl rfl rfl rfl rfl (op_lss rfl rfl rfl) ?_
          refine st rfl rfl rfl (op_pickTO rfl rfl rfl) ?_
          refine AOps_nil ?_
          refine AWp_cond rfl (fun h17 => ?_) (fun h17 => ?_)
          · (try rw [h17]); (try simp only [decide_eq_true_eq, decide_eq_false_iff_not, Bool.not_eq_true', Bool.not_eq_false', Int.not_lt, Int.not_le, Bool.not_true, Bool.not_false, Int.toNat_natCast, bne_iff_ne, beq_iff_eq, beq_eq_false_iff_ne, ne_eq, Decidable.not_not] at h17)
            refine AWp_seq ?_
            -- region 13 str.go:57
            refine AWp_regL ?_
            refine st rfl rfl rfl (op_moveO rfl rfl) ?_
            refine st rfl rfl rfl (op_callF rfl rfl rfl Tryd.func38 rfl rfl (fail_c (i : Int) 2 _)) ?_
            refine st rfl rfl rfl (op_assignO rfl rfl) ?_
            refine AOps_nil ?_
            refine AWp_ret ?_
            (try simp only [blockQ, thenQ])
            first | (obtain ⟨e1, e2, e3⟩ := u_bad (s := s) (i := i) (by omega); rw [e1, e2, e3]; simp only [List.append_nil, if_pos, if_neg, reduceCtorEq, if_false, if_true]; exact ResQ_1H (by simp only [rdr_len]) rfl (rdr_closed2 hcl (rdr_alt hcl)) (by simp [AV.lt, AV.ltL, errV]) ⟨rfl, rfl⟩) | (obtain ⟨e1, e2, e3⟩ := u_pair (s := s) (i := i) (by omega) ⟨by omega, by omega, hlo.2 ⟨by omega, by omega, by omega, by omega⟩⟩; rw [e1, e2, e3]; simp only [List.append_nil, if_pos, if_neg, reduceCtorEq, if_false, if_true]; exact ResQ_1H (by simp only [rdr_len]) rfl (rdr_closed2 hcl (by rw [rdr_len]; simp [AV.lt])) (by simp [AV.lt, AV.ltL, errV]) ⟨rfl, rfl⟩) | (obtain ⟨e1, e2, e3⟩ := u_sur (s := s) (i := i) (by omega) (by unfold uPair; intro hp; have := hlo.1 hp.2.2; omega) ⟨by omega, by omega⟩; rw [e1, e2, e3]; simp only [List.append_nil, if_pos, if_neg, reduceCtorEq, if_false, if_true]; exact ResQ_1H (by simp only [rdr_len]) rfl (rdr_closed2 hcl (rdr_alt hcl)) (by simp [AV.lt, AV.ltL, errV]) ⟨rfl, rfl⟩) | (obtain ⟨e1, e2, e3⟩ := u_plain (s := s) (i := i) (by omega) (by unfold uPair; intro hp; omega) (by unfold uSur; omega); rw [e1, e2, e3]; simp only [List.append_nil, if_pos, if_neg, reduceCtorEq, if_false, if_true]; exact ResQ_1H (by simp only [rdr_len]) rfl (rdr_closed2 hcl (by rw [rdr_len]; simp [AV.lt])) (by simp [AV.lt, AV.ltL, errV]) ⟨rfl, rfl⟩)
          · (try rw [h17]); (try simp only [decide_eq_true_eq, decide_eq_false_iff_not, Bool.not_eq_true', Bool.not_eq_false', Int.not_lt, Int.not_le, Bool.not_true, Bool.not_false, Int.toNat_natCast, bne_iff_ne, beq_iff_eq, beq_eq_false_iff_ne, ne_eq, Decidable.not_not] at h17)
            refine AWp_skip ?_
            refine AWp_seq ?_
            -- region 14 str.go:59
            refine AWp_regL ?_
            refine st rfl rfl rfl (op_moveO rfl rfl) ?_
            refine st rfl rfl rfl (op_nilCheck rfl rfl rfl) ?_
            refine st rfl rfl rfl (op_fieldAddrO (fo := 2) rfl Tryd.underlying68 rfl rfl Tryd.sizeOf66 (by decide) rfl trivial) ?_
            refine st rfl rfl rfl (op_moveO rfl rfl) ?_
            refine st rfl rfl rfl (op_callF rfl rfl rfl Tryd.func68 rfl rfl (wrR (hV s i) ha (by omega) (by omega) (by omega) hlen)) ?_
            refine AOps_nil ?_
            refine AWp_seq ?_
            -- region 15 str.go:60
            refine AWp_regL ?_
            refine st rfl rfl rfl (op_assignO rfl rfl) ?_
            refine AOps_nil ?_
            refine AWp_ret ?_
            (try simp only [blockQ, thenQ])
            first | (obtain ⟨e1, e2, e3⟩ := u_bad (s := s) (i := i) (by omega); rw [e1, e2, e3]; simp only [List.append_nil, if_pos, if_neg, reduceCtorEq, if_false, if_true]; exact ResQ_1H (by simp only [rdr_len]) rfl (rdr_closed2 hcl (rdr_alt hcl)) (by simp [AV.lt, AV.ltL, errV]) ⟨rfl, rfl⟩) | (obtain ⟨e1, e2, e3⟩ := u_pair (s := s) (i := i) (by omega) ⟨by omega, by omega, hlo.2 ⟨by omega, by omega, by omega, by omega⟩⟩; rw [e1, e2, e3]; simp only [List.append_nil, if_pos, if_neg, reduceCtorEq, if_false, if_true]; exact ResQ_1H (by simp only [rdr_len]) rfl (rdr_closed2 hcl (by rw [rdr_len]; simp [AV.lt])) (by simp [AV.lt, AV.ltL, errV]) ⟨rfl, rfl⟩) | (obtain ⟨e1, e2, e3⟩ := u_sur (s := s) (i := i) (by omega) (by unfold uPair; intro hp; have := hlo.1 hp.2.2; omega) ⟨by omega, by omega⟩; rw [e1, e2, e3]; simp only [List.append_nil, if_pos, if_neg, reduceCtorEq, if_false, if_true]; exact ResQ_1H (by simp only [rdr_len]) rfl (rdr_closed2 hcl (rdr_alt hcl)) (by simp [AV.lt, AV.ltL, errV]) ⟨rfl, rfl⟩) | (obtain ⟨e1, e2, e3⟩ := u_plain (s := s) (i := i) (by omega) (by unfold uPair; intro hp; omega) (by unfold uSur; omega); rw [e1, e2, e3]; simp only [List.append_nil, if_pos, if_neg, reduceCtorEq, if_false, if_true]; exact ResQ_1H (by simp only [rdr_len]) rfl (rdr_closed2 hcl (by rw [rdr_len]; simp [AV.lt])) (by simp [AV.lt, AV.ltL, errV]) ⟨rfl, rfl⟩)
        · rw [h16]; (try simp only [decide_eq_true_eq, decide_eq_false_iff_not, Bool.not_eq_true', Bool.not_eq_false', Int.not_lt, Int.not_le, Bool.not_true, Bool.not_false, Int.toNat_natCast, bne_iff_ne, beq_iff_eq, beq_eq_false_iff_ne, ne_eq, Decidable.not_not] at h16)
          refine stS rfl rfl rfl (.inl rfl) rfl rfl ?_
          refine stS rfl rfl rfl (.inl rfl) rfl rfl ?_
          refine st rfl rfl rfl (op_pickFO rfl rfl rfl) ?_
          refine AOps_nil ?_
          refine AWp_condF rfl ?_
          refine AWp_skip ?_
          refine AWp_seq ?_
          -- region 14 str.go:59
          refine AWp_regL ?_
          refine st rfl rfl rfl (op_moveO rfl rfl) ?_
          refine st rfl rfl rfl (op_nilCheck rfl rfl rfl) ?_
          refine st rfl rfl rfl (op_fieldAddrO (fo := 2) rfl Tryd.underlying68 rfl rfl Tryd.sizeOf66 (by decide) rfl trivial) ?_
          refine st rfl rfl rfl (op_moveO rfl rfl) ?_
          refine st rfl rfl rfl (op_callF rfl rfl rfl Tryd.func68 rfl rfl (wrR (hV s i) ha (by omega) (by omega) (by omega) hlen)) ?_
          refine AOps_nil ?_
          refine AWp_seq ?_
          -- region 15 str.go:60
          refine AWp_regL ?_
          refine st rfl rfl rfl (op_assignO rfl rfl) ?_
          refine AOps_nil ?_
          refine AWp_ret ?_
          (try simp only [blockQ, thenQ])
          first | (obtain ⟨e1, e2, e3⟩ := u_bad (s := s) (i := i) (by omega); rw [e1, e2, e3]; simp only [List.append_nil, if_pos, if_neg, reduceCtorEq, if_false, if_true]; exact ResQ_1H (by simp only [rdr_len]) rfl (rdr_closed2 hcl (rdr_alt hcl)) (by simp [AV.lt, AV.ltL, errV]) ⟨rfl, rfl⟩) | (obtain ⟨e1, e2, e3⟩ := u_pair (s := s) (i := i) (by omega) ⟨by omega, by omega, hlo.2 ⟨by omega, by omega, by omega, by omega⟩⟩; rw [e1, e2, e3]; simp only [List.append_nil, if_pos, if_neg, reduceCtorEq, if_false, if_true]; exact ResQ_1H (by simp only [rdr_len]) rfl (rdr_closed2 hcl (by rw [rdr_len]; simp [AV.lt])) (by simp [AV.lt, AV.ltL, errV]) ⟨rfl, rfl⟩) | (obtain ⟨e1, e2, e3⟩ := u_sur (s := s) (i := i) (by omega) (by unfold uPair; intro hp; have := hlo.1 hp.2.2; omega) ⟨by omega, by omega⟩; rw [e1, e2, e3]; simp only [List.append_nil, if_pos, if_neg, reduceCtorEq, if_false, if_true]; exact ResQ_1H (by simp only [rdr_len]) rfl (rdr_closed2 hcl (rdr_alt hcl)) (by simp [AV.lt, AV.ltL, errV]) ⟨rfl, rfl⟩) | (obtain ⟨e1, e2, e3⟩ := u_plain (s := s) (i := i) (by omega) (by unfold uPair; intro hp; omega) (by unfold uSur; omega); rw [e1, e2, e3]; simp only [List.append_nil, if_pos, if_neg, reduceCtorEq, if_false, if_true]; exact ResQ_1H (by simp only [rdr_len]) rfl (rdr_closed2 hcl (by rw [rdr_len]; simp [AV.lt])) (by simp [AV.lt, AV.ltL, errV]) ⟨rfl, rfl⟩)
    · rw [h2]; (try simp only [decide_eq_true_eq, decide_eq_false_iff_not, Bool.not_eq_true', Bool.not_eq_false', Int.not_lt, Int.not_le, Bool.not_true, Bool.not_false, Int.toNat_natCast, bne_iff_ne, beq_iff_eq, beq_eq_false_iff_ne, ne_eq, Decidable.not_not] at h2)
      refine rS rfl rfl rfl rfl (.inl rfl) rfl rfl ?_
      refine rS rfl rfl rfl rfl (.inl rfl) rfl rfl ?_
      refine rA rfl rfl rfl rfl (fun _ => op_pickFO rfl rfl rfl) ?_
      refine rA rfl rfl rfl rfl (fun _ => op_moveO rfl rfl) ?_
      refine rS rfl rfl rfl rfl (.inl rfl) rfl rfl ?_
      refine rS rfl rfl rfl rfl (.inl rfl) rfl rfl ?_
      refine rS rfl rfl rfl rfl (.inl rfl) rfl rfl ?_
      refine rS rfl rfl rfl rfl (.inl rfl) rfl rfl ?_
      refine rS rfl rfl rfl rfl (.inl rfl) rfl rfl ?_
      refine rS rfl rfl rfl rfl (.inl rfl) rfl rfl ?_
      refine rS rfl rfl rfl rfl (.inl rfl) rfl rfl ?_
      refine rS rfl rfl rfl rfl (.inl rfl) rfl rfl ?_
      refine rS rfl rfl rfl rfl (.inl rfl) rfl rfl ?_
      refine rS rfl rfl rfl rfl (.inl rfl) rfl rfl ?_
      refine rA rfl rfl rfl rfl (fun _ => op_pickFO rfl rfl rfl) ?_
      refine RP.nil rfl ?_
      refine AWp_condF rfl ?_
      refine AWp_skip ?_
      refine AWp_seq ?_
      refine AWp_seq ?_
      -- region 12 str.go:56
      refine AWp_regL ?_
      refine st rfl rfl rfl (op_moveO rfl rfl) ?_
      refine st rfl rfl rfl (op_geq rfl rfl rfl) ?_
      refine st rfl rfl rfl (op_moveO rfl rfl) ?_
      refine AOps_split 91 rfl (fun h18 => ?_) (fun h18 => ?_)
      · rw [h18]; (try simp only [decide_eq_true_eq, decide_eq_false_iff_not, Bool.not_eq_true', Bool.not_eq_false', Int.not_lt, Int.not_le, Bool.not_true, Bool.not_false, Int.toNat_natCast, bne_iff_ne, beq_iff_eq, beq_eq_false_iff_ne, ne_eq, Decidable.not_not] at h18)
        refine stG rfl rfl rfl rfl rfl rfl (op_moveO rfl rfl) ?_
        refine stG rfl rfl rfl rfl rfl rfl (op_lss rfl rfl rfl) ?_
        refine st rfl rfl rfl (op_pickTO rfl rfl rfl) ?_
        refine AOps_nil ?_
        refine AWp_cond rfl (fun h19 => ?_) (fun h19 => ?_)
        · (try rw [h19]); (try simp only [decide_eq_true_eq, decide_eq_false_iff_not, Bool.not_eq_true', Bool.not_eq_false', Int.not_lt, Int.not_le, Bool.not_true, Bool.not_false, Int.toNat_natCast, bne_iff_ne, beq_iff_eq, beq_eq_false_iff_ne, ne_eq, Decidable.not_not] at h19)
          refine AWp_seq ?_
          -- region 13 str.go:57
          refine AWp_regL ?_
          refine st rfl rfl rfl (op_moveO rfl rfl) ?_
          refine st rfl rfl rfl (op_callF rfl rfl rfl Tryd.func38 rfl rfl (fail_c (i : Int) 2 _)) ?_
          refine st rfl rfl rfl (op_assignO rfl rfl) ?_
          refine AOps_nil ?_
          refine AWp_ret ?_
          (try simp only [blockQ, thenQ])
          first | (obtain ⟨e1, e2, e3⟩ := u_bad (s := s) (i := i) (by omega); rw [e1, e2, e3]; simp only [List.append_nil, if_pos, if_neg, reduceCtorEq, if_false, if_true]; exact ResQ_1H (by simp only [rdr_len]) rfl (rdr_closed2 hcl (rdr_alt hcl)) (by simp [AV.lt, AV.ltL, errV]) ⟨rfl, rfl⟩) | (obtain ⟨e1, e2, e3⟩ := u_pair (s := s) (i := i) (by omega) ⟨by omega, by omega, hlo.2 ⟨by omega, by omega, by omega, by omega⟩⟩; rw [e1, e2, e3]; simp only [List.append_nil, if_pos, if_neg, reduceCtorEq, if_false, if_true]; exact ResQ_1H (by simp only [rdr_len]) rfl (rdr_closed2 hcl (by rw [rdr_len]; simp [AV.lt])) (by simp [AV.lt, AV.ltL, errV]) ⟨rfl, rfl⟩) | (obtain ⟨e1, e2, e3⟩ := u_sur (s := s) (i := i) (by omega) (by unfold uPair; intro hp; have := hlo.1 hp.2.2; omega) ⟨by omega, by omega⟩; rw [e1, e2, e3]; simp only [List.append_nil, if_pos, if_neg, reduceCtorEq, if_false, if_true]; exact ResQ_1H (by simp only [rdr_len]) rfl (rdr_closed2 hcl (rdr_alt hcl)) (by simp [AV.lt, AV.ltL, errV]) ⟨rfl, rfl⟩) | (obtain ⟨e1, e2, e3⟩ := u_plain (s := s) (i := i) (by omega) (by unfold uPair; intro hp; omega) (by unfold uSur; omega); rw [e1, e2, e3]; simp only [List.append_nil, if_pos, if_neg, reduceCtorEq, if_false, if_true]; exact ResQ_1H (by simp only [rdr_len]) rfl (rdr_closed2 hcl (by rw [rdr_len]; simp [AV.lt])) (by simp [AV.lt, AV.ltL, errV]) ⟨rfl, rfl⟩)
        · (try rw [h19]); (try simp only [decide_eq_true_eq, decide_eq_false_iff_not, Bool.not_eq_true', Bool.not_eq_false', Int.not_lt, Int.not_le, Bool.not_true, Bool.not_false, Int.toNat_natCast, bne_iff_ne, beq_iff_eq, beq_eq_false_iff_ne, ne_eq, Decidable.not_not] at h19)
          refine AWp_skip ?_
          refine AWp_seq ?_
          -- region 14 str.go:59
          refine AWp_regL ?_
          refine st rfl rfl rfl (op_moveO rfl rfl) ?_
          refine st rfl rfl rfl (op_nilCheck rfl rfl rfl) ?_
          refine st rfl rfl rfl (op_fieldAddrO (fo := 2) rfl Tryd.underlying68 rfl rfl Tryd.sizeOf66 (by decide) rfl trivial) ?_
          refine st rfl rfl rfl (op_moveO rfl rfl) ?_
          refine st rfl rfl rfl (op_callF rfl rfl rfl Tryd.func68 rfl rfl (wrR (hV s i) ha (by omega) (by omega) (by omega) hlen)) ?_
          refine AOps_nil ?_
          refine AWp_seq ?_
          -- region 15 str.go:60
          refine AWp_regL ?_
          refine st rfl rfl rfl (op_assignO rfl rfl) ?_
          refine AOps_nil ?_
          refine AWp_ret ?_
          (try simp only [blockQ, thenQ])
          first | (obtain ⟨e1, e2, e3⟩ := u_bad (s := s) (i := i) (by omega); rw [e1, e2, e3]; simp only [List.append_nil, if_pos, if_neg, reduceCtorEq, if_false, if_true]; exact ResQ_1H (by simp only [rdr_len]) rfl (rdr_closed2 hcl (rdr_alt hcl)) (by simp [AV.lt, AV.ltL, errV]) ⟨rfl, rfl⟩) | (obtain ⟨e1, e2, e3⟩ := u_pair (s := s) (i := i) (by omega) ⟨by omega, by omega, hlo.2 ⟨by omega, by omega, by omega, by omega⟩⟩; rw [e1, e2, e3]; simp only [List.append_nil, if_pos, if_neg, reduceCtorEq, if_false, if_true]; exact ResQ_1H (by simp only [rdr_len]) rfl (rdr_closed2 hcl (by rw [rdr_len]; simp [AV.lt])) (by simp [AV.lt, AV.ltL, errV]) ⟨rfl, rfl⟩) | (obtain ⟨e1, e2, e3⟩ := u_sur (s := s) (i := i) (by omega) (by unfold uPair; intro hp; have := hlo.1 hp.2.2; omega) ⟨by omega, by omega⟩; rw [e1, e2, e3]; simp only [List.append_nil, if_pos, if_neg, reduceCtorEq, if_false, if_true]; exact ResQ_1H (by simp only [rdr_len]) rfl (rdr_closed2 hcl (rdr_alt hcl)) (by simp [AV.lt, AV.ltL, errV]) ⟨rfl, rfl⟩) | (obtain ⟨e1, e2, e3⟩ := u_plain (s := s) (i := i) (by omega) (by unfold uPair; intro hp; omega) (by unfold uSur; omega); rw [e1, e2, e3]; simp only [List.append_nil, if_pos, if_neg, reduceCtorEq, if_false, if_true]; exact ResQ_1H (by simp only [rdr_len]) rfl (rdr_closed2 hcl (by rw [rdr_len]; simp [AV.lt])) (by simp [AV.lt, AV.ltL, errV]) ⟨rfl, rfl⟩)
      · rw [h18]; (try simp only [decide_eq_true_eq, decide_eq_false_iff_not, Bool.not_eq_true', Bool.not_eq_false', Int.not_lt, Int.not_le, Bool.not_true, Bool.not_false, Int.toNat_natCast, bne_iff_ne, beq_iff_eq, beq_eq_false_iff_ne, ne_eq, Decidable.not_not] at h18)
        refine stS rfl rfl rfl (.inl rfl) rfl rfl ?_
        refine stS rfl rfl rfl (.inl rfl) rfl rfl ?_
        refine st rfl rfl rfl (op_pickFO rfl rfl rfl) ?_
        refine AOps_nil ?_
        refine AWp_condF rfl ?_
        refine AWp_skip ?_
        refine AWp_seq ?_
        -- region 14 str.go:59
        refine AWp_regL ?_
        refine st rfl rfl rfl (op_moveO rfl rfl) ?_
        refine st rfl rfl rfl (op_nilCheck rfl rfl rfl) ?_
        refine st rfl rfl rfl (op_fieldAddrO (fo := 2) rfl Tryd.underlying68 rfl rfl Tryd.sizeOf66 (by decide) rfl trivial) ?_
        refine st rfl rfl rfl (op_moveO rfl rfl) ?_
        refine st rfl rfl rfl (op_callF rfl rfl rfl Tryd.func68 rfl rfl (wrR (hV s i) ha (by omega) (by omega) (by omega) hlen)) ?_
        refine AOps_nil ?_
        refine AWp_seq ?_
        -- region 15 str.go:60
        refine AWp_regL ?_
        refine st rfl rfl rfl (op_assignO rfl rfl) ?_
        refine AOps_nil ?_
        refine AWp_ret ?_
        (try simp only [blockQ, thenQ])
        first | (obtain ⟨e1, e2, e3⟩ := u_bad (s := s) (i := i) (by omega); rw [e1, e2, e3]; simp only [List.append_nil, if_pos, if_neg, reduceCtorEq, if_false, if_true]; exact ResQ_1H (by simp only [rdr_len]) rfl (rdr_closed2 hcl (rdr_alt hcl)) (by simp [AV.lt, AV.ltL, errV]) ⟨rfl, rfl⟩) | (obtain ⟨e1, e2, e3⟩ := u_pair (s := s) (i := i) (by omega) ⟨by omega, by omega, hlo.2 ⟨by omega, by omega, by omega, by omega⟩⟩; rw [e1, e2, e3]; simp only [List.append_nil, if_pos, if_neg, reduceCtorEq, if_false, if_true]; exact ResQ_1H (by simp only [rdr_len]) rfl (rdr_closed2 hcl (by rw [rdr_len]; simp [AV.lt])) (by simp [AV.lt, AV.ltL, errV]) ⟨rfl, rfl⟩) | (obtain ⟨e1, e2, e3⟩ := u_sur (s := s) (i := i) (by omega) (by unfold uPair; intro hp; have := hlo.1 hp.2.2; omega) ⟨by omega, by omega⟩; rw [e1, e2, e3]; simp only [List.append_nil, if_pos, if_neg, reduceCtorEq, if_false, if_true]; exact ResQ_1H (by simp only [rdr_len]) rfl (rdr_closed2 hcl (rdr_alt hcl)) (by simp [AV.lt, AV.ltL, errV]) ⟨rfl, rfl⟩) | (obtain ⟨e1, e2, e3⟩ := u_plain (s := s) (i := i) (by omega) (by unfold uPair; intro hp; omega) (by unfold uSur; omega); rw [e1, e2, e3]; simp only [List.append_nil, if_pos, if_neg, reduceCtorEq, if_false, if_true]; exact ResQ_1H (by simp only [rdr_len]) rfl (rdr_closed2 hcl (by rw [rdr_len]; simp [AV.lt])) (by simp [AV.lt, AV.ltL, errV]) ⟨rfl, rfl⟩)

end Lg
namespace Lg
open Go Go.RowKit
variable [GLay]
variable {P : Program} {σ : List AO} {e : Env} {o : Oper}
theorem op_indexByte {c x y : Operand} {T : Array TypeId} {k : FuncId} {fn : Func} {s : ByteArray} {n : Int} (ho : o.op = .call { callee := .value c, args := #[x, y], argTypes := T }) (hc : opv e c = .func (.func k) [] [])
    (hfn : P.funcs[k]? = some fn) (hname : (fn.name == "runtime.NumGoroutine") = false) (hb : fn.body.isNone = true) (hn : Extern.findNext fn = none) (he : Extern.find fn = some Extern.BytealgIndexByte.indexByte) (hx : opv e x = .str s) (hy : opv e y = .int .u8 n) : AOp P σ e o (.int .i64 (firstIdx s n.toNat.toUInt8)) σ :=
  .of_run fun st a hs g hv => by
    have h1 := (hx ▸ hv x (by simp [ho, Op.operands, Call.operands])).inv_str
    have h5 := (hy ▸ hv y (by simp [ho, Op.operands, Call.operands])).inv_int
    have hcv := hc ▸ hv c (by simp [ho, Op.operands, Call.operands])
    obtain ⟨vf, vc, h2, h3, h4⟩ := hcv.inv_func
    have e3 := h3.inv_nil
    have e4 := h4.inv_nil
    subst e3; subst e4
    refine ⟨_, ?_, .int _ _⟩
    simp only [execOp, ho, resolve, invoke, Deferred.ofValue, h2, Sem.run_bind, Sem.run_pure, Result.andThen_ok, List.map_toArray, List.map_cons, List.map_nil]
    have := run_callFunc_extern hfn hname hb hn he #[.string s, .int .u8 n] st.w
    rw [run_indexByte_string] at this
    simpa [Result.andThen, h1, h5] using this
end Lg
namespace Lg
open Go
def toS : ByteArray := ⟨#[34, 92, 47, 8, 12, 10, 13, 9]⟩
theorem esc_idxf : ∀ c : Fin 256, (firstIdx ⟨#[34, 92, 47, 98, 102, 110, 114, 116]⟩ (UInt8.ofNat c.val) < 0 ∧ esc c.val = none) ∨ (0 ≤ firstIdx ⟨#[34, 92, 47, 98, 102, 110, 114, 116]⟩ (UInt8.ofNat c.val) ∧ firstIdx ⟨#[34, 92, 47, 98, 102, 110, 114, 116]⟩ (UInt8.ofNat c.val) < 8 ∧ esc c.val = some (bat ⟨#[34, 92, 47, 8, 12, 10, 13, 9]⟩ (firstIdx ⟨#[34, 92, 47, 98, 102, 110, 114, 116]⟩ (UInt8.ofNat c.val)).toNat).toNat) := by decide +kernel
theorem esc_idx (c : UInt8) : (firstIdx ⟨#[34, 92, 47, 98, 102, 110, 114, 116]⟩ c < 0 ∧ esc c.toNat = none) ∨ (0 ≤ firstIdx ⟨#[34, 92, 47, 98, 102, 110, 114, 116]⟩ c ∧ firstIdx ⟨#[34, 92, 47, 98, 102, 110, 114, 116]⟩ c < 8 ∧ esc c.toNat = some (bat ⟨#[34, 92, 47, 8, 12, 10, 13, 9]⟩ (firstIdx ⟨#[34, 92, 47, 98, 102, 110, 114, 116]⟩ c).toNat).toNat) := by
  have := esc_idxf ⟨c.toNat, c.toNat_lt⟩
  simp only [UInt8.ofNat_toNat] at this
  exact this
/-- What comes of a backslash. -/
def eE (s : ByteArray) (i : Nat) : Option (Int × Int) := if s.size ≤ i + 1 then some ((s.size : Int), 1) else if (bat s (i + 1)).toNat = 117 then uE s i else if esc (bat s (i + 1)).toNat = none then some ((i : Int) + 1, 1) else none
def eI (s : ByteArray) (i : Nat) : Int := if s.size ≤ i + 1 then (i : Int) + 1 else if (bat s (i + 1)).toNat = 117 then uI s i else (i : Int) + 2
def eO (s : ByteArray) (i : Nat) : List UInt8 := if s.size ≤ i + 1 then [] else if (bat s (i + 1)).toNat = 117 then uO s i else match esc (bat s (i + 1)).toNat with
  | none => []
  | some b => [UInt8.ofNat b]
theorem e_end {s : ByteArray} {i : Nat} (h : s.size ≤ i + 1) : eE s i = some ((s.size : Int), 1) ∧ eI s i = (i : Int) + 1 ∧ eO s i = [] := by unfold eE eI eO; simp only [if_pos h]; exact ⟨trivial, trivial, trivial⟩
theorem e_u {s : ByteArray} {i : Nat} (h : ¬ s.size ≤ i + 1) (h2 : (bat s (i + 1)).toNat = 117) : eE s i = uE s i ∧ eI s i = uI s i ∧ eO s i = uO s i := by unfold eE eI eO; simp only [if_neg h, if_pos h2]; exact ⟨trivial, trivial, trivial⟩
theorem e_no {s : ByteArray} {i : Nat} (h : ¬ s.size ≤ i + 1) (h2 : ¬ (bat s (i + 1)).toNat = 117) (h3 : esc (bat s (i + 1)).toNat = none) : eE s i = some ((i : Int) + 1, 1) ∧ eI s i = (i : Int) + 2 ∧ eO s i = [] := by unfold eE eI eO; simp only [if_neg h, if_neg h2, h3, if_true]; exact ⟨trivial, trivial, trivial⟩
theorem e_yes {s : ByteArray} {i b : Nat} (h : ¬ s.size ≤ i + 1) (h2 : ¬ (bat s (i + 1)).toNat = 117) (h3 : esc (bat s (i + 1)).toNat = some b) : eE s i = none ∧ eI s i = (i : Int) + 2 ∧ eO s i = [UInt8.ofNat b] := by unfold eE eI eO; simp only [if_neg h, if_neg h2, h3, reduceCtorEq, if_false]; exact ⟨trivial, trivial, trivial⟩
end Lg
set_option maxRecDepth 20000
set_option maxHeartbeats 4000000
namespace Lg
open Go Go.Proofs Go.RowKit
variable [GLay] 


theorem sidx_c (s : ByteArray) (c : UInt8) (σ : List AO) : ACalls Tryd.prog 69 [.str s, .int .u8 (c.toNat : Int)] σ (Ret (.int .i64 (firstIdx s c)) σ) := by
  refine ACalls_body Tryd.func69 rfl Tryd.ntmps69 (res1 Tryd.results69) (Nat.le_of_ble_eq_true rfl) (fun hcl hal => ?_)
  refine AWp_seq ?_
  -- region 0 strings.go:24
  refine AWp_regL ?_
  refine st rfl rfl rfl (op_assignO rfl rfl) ?_
  refine AOps_nil ?_
  refine AWp_seq ?_
  -- region 1 strings.go:25
  refine AWp_regL ?_
  refine st rfl rfl rfl (op_moveO rfl rfl) ?_
  refine st rfl rfl rfl (op_moveO rfl rfl) ?_
  refine st rfl rfl rfl (op_indexByte rfl rfl Tryd.func74 (by kernel_rfl) (by kernel_rfl) (by kernel_rfl) (by kernel_rfl) rfl rfl) ?_
  rw [show (c.toNat : Int).toNat.toUInt8 = c by simp]
  refine st rfl rfl rfl (op_assignO rfl rfl) ?_
  refine AOps_nil ?_
  refine AWp_ret ?_
  (try simp only [blockQ, thenQ])
  exact ResQ_10 rfl hcl (by simp [AV.lt, AV.ltL]) ⟨rfl, rfl⟩

theorem tidx_c (s : ByteArray) (c : UInt8) (σ : List AO) : ACalls Tryd.prog 55 [.str s, .int .u8 (c.toNat : Int)] σ (Ret (.int .i64 (firstIdx s c)) σ) := by
  refine ACalls_body Tryd.func55 rfl Tryd.ntmps55 (res1 Tryd.results55) (Nat.le_of_ble_eq_true rfl) (fun hcl hal => ?_)
  refine AWp_seq ?_
  -- region 0 strings.go:102
  refine AWp_regL ?_
  refine st rfl rfl rfl (op_assignO rfl rfl) ?_
  refine AOps_nil ?_
  refine AWp_seq ?_
  -- region 1 strings.go:103
  refine AWp_regL ?_
  refine st rfl rfl rfl (op_moveO rfl rfl) ?_
  refine st rfl rfl rfl (op_moveO rfl rfl) ?_
  refine st rfl rfl rfl (op_callF rfl rfl rfl Tryd.func69 rfl rfl (sidx_c s c _)) ?_
  refine st rfl rfl rfl (op_assignO rfl rfl) ?_
  refine AOps_nil ?_
  refine AWp_ret ?_
  (try simp only [blockQ, thenQ])
  exact ResQ_10 rfl hcl (by simp [AV.lt, AV.ltL]) ⟨rfl, rfl⟩

theorem escape_c (s : ByteArray) (i : Nat) {σ : List AO} {a : AV} {l : List UInt8} (ha : a = .ptr σ.length 2 ∨ ∃ U n, a = .nilT σ.length U n ∧ liesAt Tryd.prog Tryd.prog.depth U (n / Tryd.prog.cellsOf U) 2 66 1 = true) (hs : s.size ≤ 1000000) (hi : i + 1 ≤ s.size) (hlen : l.length + 4 ≤ 100000000) : ACalls Tryd.prog 40 [.ptr σ.length 0] (rdrO σ s ((i : Int) + 1) a 5 l) (Ret (errV (eE s i)) (rdrO σ s (eI s i) (if (eE s i) = none then .ptr σ.length 2 else a) 5 (l ++ eO s i))) := by
  refine ACalls_body Tryd.func40 rfl Tryd.ntmps40 (res1 Tryd.results40) (Nat.le_of_ble_eq_true rfl) (fun hcl hal => ?_)
  have hix := esc_idx (bat s (i + 1))
  generalize hk : firstIdx (⟨#[34, 92, 47, 98, 102, 110, 114, 116]⟩ : ByteArray) (bat s (i + 1)) = k at hix
  refine AWp_seq ?_
  -- region 0 str.go:64
  refine AWp_regL ?_
  refine st rfl rfl rfl (op_assignO rfl rfl) ?_
  refine AOps_nil ?_
  refine AWp_seq ?_
  refine AWp_seq ?_
  -- region 1 str.go:65 DRAWN
  refine AWp_drawL #[0, 1, 3, 7, 0, 16, 48, 112, 240, 511] Tryd.mixed (by decide +kernel) (by decide +kernel) ?_
  refine rA rfl rfl rfl rfl (fun _ => op_moveO rfl rfl) ?_
  refine rA rfl rfl rfl rfl (fun _ => op_nilCheck rfl rfl rfl) ?_
  refine rA rfl rfl rfl rfl (fun _ => op_fieldAddrO (fo := 1) rfl Tryd.underlying68 rfl rfl Tryd.sizeOf3 (by decide) rfl trivial) ?_
  refine rP rfl rfl rfl rfl (op_load1 rfl Tryd.isAgg3 (ldv_ptr rdr_box rfl)) (trivial) ?_
  refine rA rfl rfl rfl rfl (fun _ => op_moveO rfl rfl) ?_
  refine rA rfl rfl rfl rfl (fun _ => op_nilCheck rfl rfl rfl) ?_
  refine rA rfl rfl rfl rfl (fun _ => op_fieldAddrO (fo := 0) rfl Tryd.underlying68 rfl rfl Tryd.sizeOf9 (by decide) rfl trivial) ?_
  refine rP rfl rfl rfl rfl (op_load1 rfl Tryd.isAgg9 (ldv_ptr rdr_box rfl)) (trivial) ?_
  refine rA rfl rfl rfl rfl (fun _ => op_lenStr rfl rfl Tryd.underlying9 rfl) ?_
  refine rA rfl rfl rfl rfl (fun _ => op_geq rfl rfl rfl) ?_
  refine RP.nil rfl ?_
  refine AWp_cond rfl (fun h1 => ?_) (fun h1 => ?_)
  · (try rw [h1]); (try simp only [decide_eq_true_eq, decide_eq_false_iff_not, Bool.not_eq_true', Bool.not_eq_false', Int.not_lt, Int.not_le, Bool.not_true, Bool.not_false, Int.toNat_natCast, bne_iff_ne, beq_iff_eq, beq_eq_false_iff_ne, ne_eq, Decidable.not_not] at h1)
    refine AWp_seq ?_
    -- region 2 str.go:66
    refine AWp_regL ?_
    refine st rfl rfl rfl (op_moveO rfl rfl) ?_
    refine st rfl rfl rfl (op_nilCheck rfl rfl rfl) ?_
    refine st rfl rfl rfl (op_fieldAddrO (fo := 0) rfl Tryd.underlying68 rfl rfl Tryd.sizeOf9 (by decide) rfl trivial) ?_
    refine st rfl rfl rfl (op_load1 rfl Tryd.isAgg9 (ldv_ptr rdr_box rfl)) ?_
    refine st rfl rfl rfl (op_lenStr rfl rfl Tryd.underlying9 rfl) ?_
    refine st rfl rfl rfl (op_callF rfl rfl rfl Tryd.func38 rfl rfl (fail_c (s.size : Int) 1 _)) ?_
    refine st rfl rfl rfl (op_assignO rfl rfl) ?_
    refine AOps_nil ?_
    refine AWp_ret ?_
    (try simp only [blockQ, thenQ])
    (obtain ⟨e1, e2, e3⟩ := e_end (s := s) (i := i) (by omega); rw [e1, e2, e3]; simp only [List.append_nil, if_pos, if_neg, reduceCtorEq, if_false, if_true]; exact ResQ_1H (by simp only [rdr_len]) rfl (rdr_closed2 hcl (rdr_alt hcl)) (by simp [AV.lt, AV.ltL, errV]) ⟨rfl, rfl⟩)
  · (try rw [h1]); (try simp only [decide_eq_true_eq, decide_eq_false_iff_not, Bool.not_eq_true', Bool.not_eq_false', Int.not_lt, Int.not_le, Bool.not_true, Bool.not_false, Int.toNat_natCast, bne_iff_ne, beq_iff_eq, beq_eq_false_iff_ne, ne_eq, Decidable.not_not] at h1)
    refine AWp_skip ?_
    refine AWp_seq ?_
    -- region 3 str.go:68 DRAWN
    refine AWp_drawL #[0, 1, 3, 7, 0, 16, 48, 112, 255, 511] Tryd.mixed (by decide +kernel) (by decide +kernel) ?_
    refine rA rfl rfl rfl rfl (fun _ => op_moveO rfl rfl) ?_
    refine rA rfl rfl rfl rfl (fun _ => op_nilCheck rfl rfl rfl) ?_
    refine rA rfl rfl rfl rfl (fun _ => op_fieldAddrO (fo := 0) rfl Tryd.underlying68 rfl rfl Tryd.sizeOf9 (by decide) rfl trivial) ?_
    refine rP rfl rfl rfl rfl (op_load1 rfl Tryd.isAgg9 (ldv_ptr rdr_box rfl)) (trivial) ?_
    refine rA rfl rfl rfl rfl (fun _ => op_moveO rfl rfl) ?_
    refine rA rfl rfl rfl rfl (fun _ => op_nilCheck rfl rfl rfl) ?_
    refine rA rfl rfl rfl rfl (fun _ => op_fieldAddrO (fo := 1) rfl Tryd.underlying68 rfl rfl Tryd.sizeOf3 (by decide) rfl trivial) ?_
    refine rP rfl rfl rfl rfl (op_load1 rfl Tryd.isAgg3 (ldv_ptr rdr_box rfl)) (trivial) ?_
    refine rA rfl rfl rfl rfl (fun _ => op_index_strB rfl Tryd.underlying9 rfl rfl (by omega) (by omega)) ?_
    rw [show ((i : Int) + 1).toNat = i + 1 by omega]
    refine rA rfl rfl rfl rfl (fun _ => op_assignO rfl rfl) ?_
    refine RP.nil rfl ?_
    refine AWp_seq ?_
    -- region 4 str.go:69
    refine AWp_regL ?_
    refine st rfl rfl rfl (op_moveO rfl rfl) ?_
    refine st rfl rfl rfl (op_nilCheck rfl rfl rfl) ?_
    refine st rfl rfl rfl (op_fieldAddrO (fo := 1) rfl Tryd.underlying68 rfl rfl Tryd.sizeOf3 (by decide) rfl trivial) ?_
    refine st rfl rfl rfl (op_load1 rfl Tryd.isAgg3 (ldv_ptr rdr_box rfl)) ?_
    refine st rfl rfl rfl (op_add64 rfl rfl rfl (by omega) (by omega)) ?_
    refine st rfl rfl rfl (op_nilCheck rfl rfl rfl) ?_
    refine st rfl rfl rfl (op_fieldAddrO (fo := 1) rfl Tryd.underlying68 rfl rfl Tryd.sizeOf3 (by decide) rfl trivial) ?_
    refine stN rfl rfl (op_storeP (r := [.str s, .int .i64 ((i : Int) + 1 + 1), a, .bts (σ.length + 1) l.length]) rfl Tryd.sizeOf3 rfl rfl rfl rdr_box rfl (by decide)) ?_
    rw [rdr_at, show ((i : Int) + 1 + 1) = (i : Int) + 2 by omega]
    refine AOps_nil ?_
    refine AWp_seq ?_
    refine AWp_seq ?_
    -- region 5 str.go:70
    refine AWp_regL ?_
    refine st rfl rfl rfl (op_moveO rfl rfl) ?_
    refine st rfl rfl rfl (op_eql rfl rfl rfl) ?_
    refine AOps_nil ?_
    refine AWp_cond rfl (fun h2 => ?_) (fun h2 => ?_)
    · (try rw [h2]); (try simp only [decide_eq_true_eq, decide_eq_false_iff_not, Bool.not_eq_true', Bool.not_eq_false', Int.not_lt, Int.not_le, Bool.not_true, Bool.not_false, Int.toNat_natCast, bne_iff_ne, beq_iff_eq, beq_eq_false_iff_ne, ne_eq, Decidable.not_not] at h2)
      refine AWp_seq ?_
      -- region 6 str.go:71
      refine AWp_regL ?_
      refine st rfl rfl rfl (op_moveO rfl rfl) ?_
      refine st rfl rfl rfl (op_callF rfl rfl rfl Tryd.func54 rfl rfl (unit_c s i ha hs (by omega) hlen)) ?_
      refine st rfl rfl rfl (op_assignO rfl rfl) ?_
      refine AOps_nil ?_
      refine AWp_ret ?_
      (try simp only [blockQ, thenQ])
      obtain ⟨e1, e2, e3⟩ := e_u (s := s) (i := i) (by omega) (by omega)
      rw [e1, e2, e3]
      exact ResQ_1H (by simp only [rdr_len]) rfl (rdr_closed2 hcl (by split; exact (by rw [rdr_len]; simp [AV.lt]); exact rdr_alt hcl)) (errV_lt _ _) ⟨rfl, rfl⟩
    · (try rw [h2]); (try simp only [decide_eq_true_eq, decide_eq_false_iff_not, Bool.not_eq_true', Bool.not_eq_false', Int.not_lt, Int.not_le, Bool.not_true, Bool.not_false, Int.toNat_natCast, bne_iff_ne, beq_iff_eq, beq_eq_false_iff_ne, ne_eq, Decidable.not_not] at h2)
      refine AWp_skip ?_
      refine AWp_seq ?_
      -- region 7 str.go:73
      refine AWp_regL ?_
      refine st rfl rfl rfl (op_moveO rfl rfl) ?_
      refine st rfl rfl rfl (op_callF rfl rfl rfl Tryd.func55 rfl rfl (tidx_c (⟨#[34, 92, 47, 98, 102, 110, 114, 116]⟩ : ByteArray) (bat s (i + 1)) _)) ?_
      rw [hk]
      refine st rfl rfl rfl (op_assignO rfl rfl) ?_
      refine AOps_nil ?_
      refine AWp_seq ?_
      refine AWp_seq ?_
      -- region 8 str.go:74
      refine AWp_regL ?_
      refine st rfl rfl rfl (op_moveO rfl rfl) ?_
      refine st rfl rfl rfl (op_lss rfl rfl rfl) ?_
      refine AOps_nil ?_
      refine AWp_cond rfl (fun h3 => ?_) (fun h3 => ?_)
      · (try rw [h3]); (try simp only [decide_eq_true_eq, decide_eq_false_iff_not, Bool.not_eq_true', Bool.not_eq_false', Int.not_lt, Int.not_le, Bool.not_true, Bool.not_false, Int.toNat_natCast, bne_iff_ne, beq_iff_eq, beq_eq_false_iff_ne, ne_eq, Decidable.not_not] at h3)
        refine AWp_seq ?_
        -- region 9 str.go:75
        refine AWp_regL ?_
        refine st rfl rfl rfl (op_moveO rfl rfl) ?_
        refine st rfl rfl rfl (op_nilCheck rfl rfl rfl) ?_
        refine st rfl rfl rfl (op_fieldAddrO (fo := 1) rfl Tryd.underlying68 rfl rfl Tryd.sizeOf3 (by decide) rfl trivial) ?_
        refine st rfl rfl rfl (op_load1 rfl Tryd.isAgg3 (ldv_ptr rdr_box rfl)) ?_
        refine st rfl rfl rfl (op_sub64 rfl rfl rfl (by omega) (by omega)) ?_
        rw [show ((i : Int) + 2 - 1) = (i : Int) + 1 by omega]
        refine st rfl rfl rfl (op_callF rfl rfl rfl Tryd.func38 rfl rfl (fail_c ((i : Int) + 1) 1 _)) ?_
        refine st rfl rfl rfl (op_assignO rfl rfl) ?_
        refine AOps_nil ?_
        refine AWp_ret ?_
        (try simp only [blockQ, thenQ])
        (obtain ⟨e1, e2, e3⟩ := e_no (s := s) (i := i) (by omega) (by omega) (by rcases hix with h | h; exact h.2; omega); rw [e1, e2, e3]; simp only [List.append_nil, if_pos, if_neg, reduceCtorEq, if_false, if_true]; exact ResQ_1H (by simp only [rdr_len]) rfl (rdr_closed2 hcl (rdr_alt hcl)) (by simp [AV.lt, AV.ltL, errV]) ⟨rfl, rfl⟩)
      · (try rw [h3]); (try simp only [decide_eq_true_eq, decide_eq_false_iff_not, Bool.not_eq_true', Bool.not_eq_false', Int.not_lt, Int.not_le, Bool.not_true, Bool.not_false, Int.toNat_natCast, bne_iff_ne, beq_iff_eq, beq_eq_false_iff_ne, ne_eq, Decidable.not_not] at h3)
        refine AWp_skip ?_
        refine AWp_seq ?_
        -- region 10 str.go:77 DRAWN
        refine AWp_drawL #[0, 1, 3, 0, 8, 31] Tryd.mixed (by decide +kernel) (by decide +kernel) ?_
        refine rA rfl rfl rfl rfl (fun _ => op_moveO rfl rfl) ?_
        refine rA rfl rfl rfl rfl (fun _ => op_nilCheck rfl rfl rfl) ?_
        refine rA rfl rfl rfl rfl (fun _ => op_fieldAddrO (fo := 2) rfl Tryd.underlying68 rfl rfl Tryd.sizeOf66 (by decide) rfl trivial) ?_
        refine rA rfl rfl rfl rfl (fun _ => op_moveO rfl rfl) ?_
        refine rA rfl rfl rfl rfl (fun _ => op_index_strB rfl Tryd.underlying9 rfl rfl (by omega) (by rw [show (ByteArray.mk #[34, 92, 47, 8, 12, 10, 13, 9]).size = 8 from rfl]; omega)) ?_
        refine rE rfl rfl rfl rfl (op_callF rfl rfl rfl Tryd.func48 rfl rfl (wbR (bat (⟨#[34, 92, 47, 8, 12, 10, 13, 9]⟩ : ByteArray) k.toNat) ha (by omega))) (trivial) (trivial) ?_
        refine RP.nil rfl ?_
        refine AWp_seq ?_
        -- region 11 str.go:78
        refine AWp_regL ?_
        refine st rfl rfl rfl (op_assignO rfl rfl) ?_
        refine AOps_nil ?_
        refine AWp_ret ?_
        (try simp only [blockQ, thenQ])
        have hix2 : esc (bat s (i + 1)).toNat = some (bat (⟨#[34, 92, 47, 8, 12, 10, 13, 9]⟩ : ByteArray) k.toNat).toNat := by rcases hix with h | h; omega; exact h.2.2
        obtain ⟨e1, e2, e3⟩ := e_yes (s := s) (i := i) (by omega) (by omega) hix2
        rw [e1, e2, e3, if_pos rfl, UInt8.ofNat_toNat]
        exact ResQ_1H (by simp only [rdr_len]) rfl (rdr_closed2 hcl (by rw [rdr_len]; simp [AV.lt])) trivial ⟨rfl, rfl⟩

end Lg
set_option maxRecDepth 20000
set_option maxHeartbeats 4000000
namespace Go.Proofs
open Go.Shelf
def Tryd.lays197_ren : Go.Shelf.Ren := ⟨fun | 197 => 41 | 260 => 56 | n => n, fun | 9 => 9 | 21 => 21 | 3 => 3 | 4 => 4 | 5 => 5 | 105 => 71 | 119 => 86 | 0 => 0 | 46 => 84 | 139 => 89 | 138 => 88 | n => n, fun | 3 => 0 | 4 => 1 | n => n⟩
theorem Tryd.lays197 : Go.Proofs.Lays.n197 Tryd.prog Tryd.lays197_ren := {
  mixed := by kernel_rfl,
  f197 := Tryd.func41.trans (congrArg some (by kernel_rfl)),
  f260 := Tryd.func56.trans (congrArg some (by kernel_rfl)),
  t0 := Tryd.underlying0,
  a0 := Tryd.isAgg0,
  z0 := Tryd.sizeOf0,
  v0 := Tryd.zeroValue0,
  t3 := Tryd.underlying3,
  a3 := Tryd.isAgg3,
  z3 := Tryd.sizeOf3,
  v3 := Tryd.zeroValue3,
  t4 := Tryd.underlying4,
  a4 := Tryd.isAgg4,
  z4 := Tryd.sizeOf4,
  v4 := Tryd.zeroValue4,
  t5 := Tryd.underlying5,
  a5 := Tryd.isAgg5,
  z5 := Tryd.sizeOf5,
  v5 := Tryd.zeroValue5,
  t9 := Tryd.underlying9,
  a9 := Tryd.isAgg9,
  z9 := Tryd.sizeOf9,
  v9 := Tryd.zeroValue9,
  t21 := Tryd.underlying21,
  a21 := Tryd.isAgg21,
  z21 := Tryd.sizeOf21,
  v21 := Tryd.zeroValue21,
  t46 := Tryd.underlying84,
  a46 := Tryd.isAgg84,
  z46 := Tryd.sizeOf84,
  v46 := Tryd.zeroValue84,
  t105 := Tryd.underlying71,
  a105 := Tryd.isAgg71,
  z105 := Tryd.sizeOf71,
  v105 := Tryd.zeroValue71,
  t119 := Tryd.underlying86,
  a119 := Tryd.isAgg86,
  z119 := Tryd.sizeOf86,
  t138 := Tryd.underlying88,
  a138 := Tryd.isAgg88,
  z138 := Tryd.sizeOf88,
  v138 := Tryd.zeroValue88,
  t139 := Tryd.underlying89,
  a139 := Tryd.isAgg89,
  z139 := Tryd.sizeOf89,
  v139 := Tryd.zeroValue89,
  g3 := by kernel_rfl,
  g4 := by kernel_rfl }

end Go.Proofs
namespace Lg
open Go Go.Proofs Go.RowKit Go.Lib
variable [GLay] [U8]
theorem decr_c (s : ByteArray) (σ : List AO) : ACalls Tryd.prog 41 [.str s] σ (Ret (.tup [.int .i32 (decodeGo s).1, .int .i64 (decodeGo s).2]) σ) :=
  ACalls_below fun st cargs g hp => by
    rw [hp.str1]
    exact ⟨.tuple #[.int .i32 (decodeGo s).1, .int .i64 (decodeGo s).2], fun _ => .tup [.int .i32 (decodeGo s).1, .int .i64 (decodeGo s).2] [.int .i32 (decodeGo s).1, .int .i64 (decodeGo s).2] rfl (fun i c v h1 h2 => by
        match i, h1, h2 with
        | 0, h1, h2 => cases h1; cases h2; exact .int _ _
        | 1, h1, h2 => cases h1; cases h2; exact .int _ _), Any.utf8_DecodeRuneInString Tryd.lays197 s st.w (U8.tabs _ g.laid)⟩
theorem dec_u8 (s : ByteArray) (a : Nat) (h : a < s.size) : ((decodeGo (s.extract a s.size)).1 = 65533 ∧ (decodeGo (s.extract a s.size)).2 = 1 ∧ u8 s a = 0) ∨ (¬ ((decodeGo (s.extract a s.size)).1 = 65533 ∧ (decodeGo (s.extract a s.size)).2 = 1) ∧ ((decodeGo (s.extract a s.size)).2 : Int) = u8 s a ∧ u8 s a ≠ 0) := by
  have e : s.extract a s.size = ⟨(s.data.toList.drop a).toArray⟩ := by
    have := ba_suf s.data.toList a
    rw [← ba_eta] at this
    exact this
  have hsz : ¬ (s.extract a s.size).size = 0 := by rw [ByteArray.size_extract]; omega
  have hd : decodeGo (s.extract a s.size) = decodeN (s.size - a) (bat s a).toNat (bat s (a + 1)).toNat (bat s (a + 2)).toNat (bat s (a + 3)).toNat := by
    unfold decodeGo
    rw [if_neg hsz, ← decode_bat, e]; rfl
  have hw := decodeL_width (s.data.toList.drop a)
  rw [decode_bat] at hw
  rw [hd]
  unfold u8 u8N
  by_cases hc : (decodeN (s.size - a) (bat s a).toNat (bat s (a + 1)).toNat (bat s (a + 2)).toNat (bat s (a + 3)).toNat).1 = 65533 ∧ (decodeN (s.size - a) (bat s a).toNat (bat s (a + 1)).toNat (bat s (a + 2)).toNat (bat s (a + 3)).toNat).2 = 1
  · exact .inl ⟨hc.1, hc.2, if_pos hc⟩
  · rw [if_neg hc]; exact .inr ⟨hc, rfl, by omega⟩
end Lg
namespace Lg
open Go Go.RowKit
variable [GLay]
variable {P : Program} {N : Nat} {σ : List AO} {e : Env} {Q : QA} {s : ByteArray} {i : Int} {a : AV} {T : TypeId} {l : List UInt8}
theorem AWp_ghostR {c : Code} (T : TypeId) (k : AWp P N c e (rdrO σ s i a T []) Q) : AWp P N c e (σ ++ [.box [.str s, .int .i64 i, a, .nils]]) Q := by
  refine AWp_ghostInB σ.length 3 T (bs := [.str s, .int .i64 i, a, .nils]) (by simp) rfl ?_
  have : ((σ ++ [AO.box [.str s, .int .i64 i, a, .nils]]) ++ [AO.bytes T []]).set σ.length (.box ([AV.str s, .int .i64 i, a, AV.nils].set 3 (.bts (σ ++ [AO.box [.str s, .int .i64 i, a, .nils]]).length 0))) = rdrO σ s i a T [] := by
    rw [List.append_assoc, List.set_append_right _ _ (Nat.le_refl _), Nat.sub_self, List.length_append]
    rfl
  rw [this]; exact k
theorem rdr_boxD : ((rdrO σ s i a T l).set (σ.length + 1) .dead)[σ.length]? = some (.box [.str s, .int .i64 i, a, .bts (σ.length + 1) l.length]) := by
  rw [List.getElem?_set, if_neg (by omega)]; exact rdr_box
theorem rdr_dead : (rdrO σ s i a T l).set (σ.length + 1) .dead = σ ++ [.box [.str s, .int .i64 i, a, .bts (σ.length + 1) l.length], .dead] := by
  unfold rdrO; rw [List.set_append_right _ _ (by omega), Nat.add_sub_cancel_left]; rfl
def errU (u : UR) : Option (Int × Int) := if u.bad = 0 then none else some (u.at_, u.bad)
end Lg
namespace Lg
open Go
theorem ba_rch (out : BL) (v : Int) : ba out ++ rchar v = ba (out ++ rchL v) := by
  rw [ba_eta (rchar v), ba_app]; rfl
/-- One backslash, on both sides. -/
theorem esc_step (s : ByteArray) (a i : Nat) (out : BL) (hi : i < s.size) (h92 : (bat s i).toNat = 92) :
    (∀ z, eE s i = some z → unqF s a i (ba out) = ⟨e0, 0, z.2, z.1⟩ ∧ z.2 ≠ 0) ∧
    (eE s i = none → ∃ j : Nat, eI s i = j ∧ i < j ∧ j ≤ s.size ∧ (eO s i).length ≤ 4 ∧ unqF s a i (ba out) = unqF s a j (ba (out ++ eO s i))) := by
  by_cases h1 : s.size ≤ i + 1
  · obtain ⟨e1, e2, e3⟩ := e_end h1
    rw [e1]
    refine ⟨fun z hz => ?_, fun h => by cases h⟩
    cases hz
    exact ⟨unqF_last (by omega) h92, by simp⟩
  · by_cases h2 : (bat s (i + 1)).toNat = 117
    · obtain ⟨e1, e2, e3⟩ := e_u h1 h2
      obtain ⟨k1, k2, k3⟩ := hV_ok s i
      rw [e1, e2, e3]
      by_cases hb : 0 ≤ hB s i
      · obtain ⟨f1, f2, f3⟩ := u_bad hb
        rw [f1]
        refine ⟨fun z hz => ?_, fun h => by cases h⟩
        cases hz
        exact ⟨unqF_hb (by omega) h92 h2 hb, by simp⟩
      · have k1 := k1 (by omega)
        have hb' : (rhex s (i + 2)).2 < 0 := by unfold hB at hb; omega
        by_cases hp : uPair s i
        · obtain ⟨f1, f2, f3⟩ := u_pair hb hp
          rw [f1, f2, f3]
          refine ⟨fun z hz => (by cases hz), fun _ => ⟨i + 12, by omega, by omega, ?_, (rchar_size _).2, ?_⟩⟩
          · have := (rlow_iff s (i + 6)).1 hp.2.2
            have := rhex_ok s (i + 6 + 2)
            omega
          · rw [unqF_pair (by omega) h92 h2 hb' hp, ba_rch]; rfl
        · by_cases hs : uSur s i
          · obtain ⟨f1, f2, f3⟩ := u_sur hb hp hs
            rw [f1]
            refine ⟨fun z hz => ?_, fun h => by cases h⟩
            cases hz
            exact ⟨unqF_sur (by omega) h92 h2 hb' hp hs, by simp⟩
          · obtain ⟨f1, f2, f3⟩ := u_plain hb hp hs
            rw [f1, f2, f3]
            refine ⟨fun z hz => (by cases hz), fun _ => ⟨i + 6, by omega, by omega, k1.1, (rchar_size _).2, ?_⟩⟩
            rw [unqF_u (by omega) h92 h2 hb' hp hs, ba_rch]; rfl
    · cases h3 : esc (bat s (i + 1)).toNat with
      | none =>
        obtain ⟨e1, e2, e3⟩ := e_no h1 h2 h3
        rw [e1]
        refine ⟨fun z hz => ?_, fun h => by cases h⟩
        cases hz
        exact ⟨unqF_eb (by omega) h92 h2 h3, by simp⟩
      | some b =>
        obtain ⟨e1, e2, e3⟩ := e_yes h1 h2 h3
        rw [e1, e2, e3]
        refine ⟨fun z hz => (by cases hz), fun _ => ⟨i + 2, by omega, by omega, by omega, by simp, ?_⟩⟩
        rw [unqF_e (by omega) h92 h2 h3, show (⟨#[UInt8.ofNat b]⟩ : ByteArray) = ba [UInt8.ofNat b] from rfl, ba_app]
end Lg
set_option maxRecDepth 20000
set_option maxHeartbeats 4000000
namespace Lg
open Go Go.Proofs Go.RowKit
variable [GLay] [U8]


def aOf (σ : List AO) (w : Bool) : AV := if w = true then .ptr σ.length 2 else .nilT σ.length 68 4
theorem aOf_ok (σ : List AO) (w : Bool) : aOf σ w = .ptr σ.length 2 ∨ ∃ U n, aOf σ w = .nilT σ.length U n ∧ liesAt Tryd.prog Tryd.prog.depth U (n / Tryd.prog.cellsOf U) 2 66 1 = true := by
  cases w
  · exact .inr ⟨_, _, rfl, by kernel_rfl⟩
  · exact .inl rfl
theorem aOf_lt (σ : List AO) (w : Bool) : (aOf σ w).lt (σ.length + 2) := by cases w <;> simp [aOf, AV.lt]
theorem unq_out (s : ByteArray) (at_ : Int) (σ : List AO) (hs : s.size ≤ 1000000) (hat : at_ < 0 ∨ (s.size : Int) ≤ at_) : ACalls Tryd.prog 21 [.str s, .int .i64 at_] σ (Ret (.tup [.str (rUnq s at_).s, .int .i64 (rUnq s at_).n, errV (errU (rUnq s at_))]) σ) := by
  refine ACalls_body Tryd.func21 rfl Tryd.ntmps21 (res3 Tryd.results21) (Nat.le_of_ble_eq_true rfl) (fun hcl hal => ?_)
  have hr : rUnq s at_ = ⟨e0, 0, 1, at_⟩ := by unfold rUnq; rw [if_pos hat]
  refine AWp_seq ?_
  -- region 0 str.go:82
  refine AWp_regL ?_
  refine st rfl rfl rfl (op_assignO rfl rfl) ?_
  refine st rfl rfl rfl (op_assignO rfl rfl) ?_
  refine st rfl rfl rfl (op_assignO rfl rfl) ?_
  refine AOps_nil ?_
  refine AWp_seq ?_
  refine AWp_seq ?_
  -- region 1 str.go:83
  refine AWp_regL ?_
  refine st rfl rfl rfl (op_moveO rfl rfl) ?_
  refine st rfl rfl rfl (op_lss rfl rfl rfl) ?_
  refine st rfl rfl rfl (op_moveO rfl rfl) ?_
  refine AOps_split 14 rfl (fun h1 => ?_) (fun h1 => ?_)
  · rw [h1]; (try simp only [decide_eq_true_eq, decide_eq_false_iff_not, Bool.not_eq_true', Bool.not_eq_false', Int.not_lt, Int.not_le, Bool.not_true, Bool.not_false, Int.toNat_natCast, bne_iff_ne, beq_iff_eq, beq_eq_false_iff_ne, ne_eq, Decidable.not_not] at h1)
    refine stS rfl rfl rfl (.inl rfl) rfl rfl ?_
    refine stS rfl rfl rfl (.inl rfl) rfl rfl ?_
    refine stS rfl rfl rfl (.inl rfl) rfl rfl ?_
    refine stS rfl rfl rfl (.inl rfl) rfl rfl ?_
    refine st rfl rfl rfl (op_pickTO rfl rfl rfl) ?_
    refine st rfl rfl rfl (op_moveO rfl rfl) ?_
    refine stS rfl rfl rfl (.inl rfl) rfl rfl ?_
    refine stS rfl rfl rfl (.inl rfl) rfl rfl ?_
    refine stS rfl rfl rfl (.inl rfl) rfl rfl ?_
    refine stS rfl rfl rfl (.inl rfl) rfl rfl ?_
    refine st rfl rfl rfl (op_pickTO rfl rfl rfl) ?_
    refine AOps_nil ?_
    refine AWp_condT rfl ?_
    refine AWp_seq ?_
    -- region 2 str.go:84
    refine AWp_regL ?_
    refine st rfl rfl rfl (op_moveO rfl rfl) ?_
    refine st rfl rfl rfl (op_callF rfl rfl rfl Tryd.func38 rfl rfl (fail_c at_ 1 _)) ?_
    refine st rfl rfl rfl (op_assignO rfl rfl) ?_
    refine st rfl rfl rfl (op_assignO rfl rfl) ?_
    refine st rfl rfl rfl (op_assignO rfl rfl) ?_
    refine AOps_nil ?_
    refine AWp_ret ?_
    (try simp only [blockQ, thenQ])
    rw [hr]; exact ResQ_30 rfl rfl rfl hcl (by simp [AV.lt, AV.ltL]) (Ret_of rfl)
  · rw [h1]; (try simp only [decide_eq_true_eq, decide_eq_false_iff_not, Bool.not_eq_true', Bool.not_eq_false', Int.not_lt, Int.not_le, Bool.not_true, Bool.not_false, Int.toNat_natCast, bne_iff_ne, beq_iff_eq, beq_eq_false_iff_ne, ne_eq, Decidable.not_not] at h1)
    refine stG rfl rfl rfl rfl rfl rfl (op_moveO rfl rfl) ?_
    refine stG rfl rfl rfl rfl rfl rfl (op_moveO rfl rfl) ?_
    refine stG rfl rfl rfl rfl rfl rfl (op_lenStr rfl rfl Tryd.underlying9 rfl) ?_
    refine stG rfl rfl rfl rfl rfl rfl (op_geq rfl rfl rfl) ?_
    refine st rfl rfl rfl (op_pickFO rfl rfl rfl) ?_
    refine st rfl rfl rfl (op_moveO rfl rfl) ?_
    refine AOps_split 20 rfl (fun h2 => ?_) (fun h2 => ?_)
    · rw [h2]; (try simp only [decide_eq_true_eq, decide_eq_false_iff_not, Bool.not_eq_true', Bool.not_eq_false', Int.not_lt, Int.not_le, Bool.not_true, Bool.not_false, Int.toNat_natCast, bne_iff_ne, beq_iff_eq, beq_eq_false_iff_ne, ne_eq, Decidable.not_not] at h2)
      refine stS rfl rfl rfl (.inl rfl) rfl rfl ?_
      refine stS rfl rfl rfl (.inl rfl) rfl rfl ?_
      refine stS rfl rfl rfl (.inl rfl) rfl rfl ?_
      refine stS rfl rfl rfl (.inl rfl) rfl rfl ?_
      refine st rfl rfl rfl (op_pickTO rfl rfl rfl) ?_
      refine AOps_nil ?_
      refine AWp_condT rfl ?_
      refine AWp_seq ?_
      -- region 2 str.go:84
      refine AWp_regL ?_
      refine st rfl rfl rfl (op_moveO rfl rfl) ?_
      refine st rfl rfl rfl (op_callF rfl rfl rfl Tryd.func38 rfl rfl (fail_c at_ 1 _)) ?_
      refine st rfl rfl rfl (op_assignO rfl rfl) ?_
      refine st rfl rfl rfl (op_assignO rfl rfl) ?_
      refine st rfl rfl rfl (op_assignO rfl rfl) ?_
      refine AOps_nil ?_
      refine AWp_ret ?_
      (try simp only [blockQ, thenQ])
      rw [hr]; exact ResQ_30 rfl rfl rfl hcl (by simp [AV.lt, AV.ltL]) (Ret_of rfl)
    · rw [h2]; (try simp only [decide_eq_true_eq, decide_eq_false_iff_not, Bool.not_eq_true', Bool.not_eq_false', Int.not_lt, Int.not_le, Bool.not_true, Bool.not_false, Int.toNat_natCast, bne_iff_ne, beq_iff_eq, beq_eq_false_iff_ne, ne_eq, Decidable.not_not] at h2)
      exfalso; omega

theorem unq_in (s : ByteArray) (a0 : Nat) (σ : List AO) (hs : s.size ≤ 1000000) (hat : a0 < s.size) : ACalls Tryd.prog 21 [.str s, .int .i64 (a0 : Int)] σ (Ret (.tup [.str (rUnq s (a0 : Int)).s, .int .i64 (rUnq s (a0 : Int)).n, errV (errU (rUnq s (a0 : Int)))]) σ) := by
  refine ACalls_body Tryd.func21 rfl Tryd.ntmps21 (res3 Tryd.results21) (Nat.le_of_ble_eq_true rfl) (fun hcl hal => ?_)
  have hr0 : ¬ (bat s a0).toNat = 34 → rUnq s (a0 : Int) = ⟨e0, 0, 1, (a0 : Int)⟩ := fun h => by unfold rUnq; rw [if_neg (by omega), Int.toNat_natCast, if_pos h]
  have hr1 : (bat s a0).toNat = 34 → rUnq s (a0 : Int) = unqF s a0 (a0 + 1) e0 := fun h => by unfold rUnq; rw [if_neg (by omega), Int.toNat_natCast, if_neg (by omega)]
  refine AWp_seq ?_
  -- region 0 str.go:82
  refine AWp_regL ?_
  refine st rfl rfl rfl (op_assignO rfl rfl) ?_
  refine st rfl rfl rfl (op_assignO rfl rfl) ?_
  refine st rfl rfl rfl (op_assignO rfl rfl) ?_
  refine AOps_nil ?_
  refine AWp_seq ?_
  refine AWp_seq ?_
  -- region 1 str.go:83
  refine AWp_regL ?_
  refine st rfl rfl rfl (op_moveO rfl rfl) ?_
  refine st rfl rfl rfl (op_lss rfl rfl rfl) ?_
  refine st rfl rfl rfl (op_moveO rfl rfl) ?_
  refine AOps_split 14 rfl (fun h1 => ?_) (fun h1 => ?_)
  · rw [h1]; (try simp only [decide_eq_true_eq, decide_eq_false_iff_not, Bool.not_eq_true', Bool.not_eq_false', Int.not_lt, Int.not_le, Bool.not_true, Bool.not_false, Int.toNat_natCast, bne_iff_ne, beq_iff_eq, beq_eq_false_iff_ne, ne_eq, Decidable.not_not] at h1)
    exfalso; omega
  · rw [h1]; (try simp only [decide_eq_true_eq, decide_eq_false_iff_not, Bool.not_eq_true', Bool.not_eq_false', Int.not_lt, Int.not_le, Bool.not_true, Bool.not_false, Int.toNat_natCast, bne_iff_ne, beq_iff_eq, beq_eq_false_iff_ne, ne_eq, Decidable.not_not] at h1)
    refine stG rfl rfl rfl rfl rfl rfl (op_moveO rfl rfl) ?_
    refine stG rfl rfl rfl rfl rfl rfl (op_moveO rfl rfl) ?_
    refine stG rfl rfl rfl rfl rfl rfl (op_lenStr rfl rfl Tryd.underlying9 rfl) ?_
    refine stG rfl rfl rfl rfl rfl rfl (op_geq rfl rfl rfl) ?_
    refine st rfl rfl rfl (op_pickFO rfl rfl rfl) ?_
    refine st rfl rfl rfl (op_moveO rfl rfl) ?_
    refine AOps_split 20 rfl (fun h2 => ?_) (fun h2 => ?_)
    · rw [h2]; (try simp only [decide_eq_true_eq, decide_eq_false_iff_not, Bool.not_eq_true', Bool.not_eq_false', Int.not_lt, Int.not_le, Bool.not_true, Bool.not_false, Int.toNat_natCast, bne_iff_ne, beq_iff_eq, beq_eq_false_iff_ne, ne_eq, Decidable.not_not] at h2)
      exfalso; omega
    · rw [h2]; (try simp only [decide_eq_true_eq, decide_eq_false_iff_not, Bool.not_eq_true', Bool.not_eq_false', Int.not_lt, Int.not_le, Bool.not_true, Bool.not_false, Int.toNat_natCast, bne_iff_ne, beq_iff_eq, beq_eq_false_iff_ne, ne_eq, Decidable.not_not] at h2)
      refine stG rfl rfl rfl rfl rfl rfl (op_moveO rfl rfl) ?_
      refine stG rfl rfl rfl rfl rfl rfl (op_moveO rfl rfl) ?_
      refine stG rfl rfl rfl rfl rfl rfl (op_index_strB rfl Tryd.underlying9 rfl rfl (by omega) (by omega)) ?_
      refine stG rfl rfl rfl rfl rfl rfl (op_neq rfl rfl rfl) ?_
      refine st rfl rfl rfl (op_pickFO rfl rfl rfl) ?_
      refine AOps_nil ?_
      refine AWp_cond rfl (fun h3 => ?_) (fun h3 => ?_)
      · (try rw [h3]); (try simp only [decide_eq_true_eq, decide_eq_false_iff_not, Bool.not_eq_true', Bool.not_eq_false', Int.not_lt, Int.not_le, Bool.not_true, Bool.not_false, Int.toNat_natCast, bne_iff_ne, beq_iff_eq, beq_eq_false_iff_ne, ne_eq, Decidable.not_not] at h3)
        refine AWp_seq ?_
        -- region 2 str.go:84
        refine AWp_regL ?_
        refine st rfl rfl rfl (op_moveO rfl rfl) ?_
        refine st rfl rfl rfl (op_callF rfl rfl rfl Tryd.func38 rfl rfl (fail_c (a0 : Int) 1 _)) ?_
        refine st rfl rfl rfl (op_assignO rfl rfl) ?_
        refine st rfl rfl rfl (op_assignO rfl rfl) ?_
        refine st rfl rfl rfl (op_assignO rfl rfl) ?_
        refine AOps_nil ?_
        refine AWp_ret ?_
        (try simp only [blockQ, thenQ])
        rw [hr0 (by omega)]; exact ResQ_30 rfl rfl rfl hcl (by simp [AV.lt, AV.ltL]) (Ret_of rfl)
      · (try rw [h3]); (try simp only [decide_eq_true_eq, decide_eq_false_iff_not, Bool.not_eq_true', Bool.not_eq_false', Int.not_lt, Int.not_le, Bool.not_true, Bool.not_false, Int.toNat_natCast, bne_iff_ne, beq_iff_eq, beq_eq_false_iff_ne, ne_eq, Decidable.not_not] at h3)
        refine AWp_skip ?_
        refine AWp_seq ?_
        -- region 3 str.go:86
        refine AWp_regL ?_
        refine st rfl rfl rfl (op_moveO rfl rfl) ?_
        refine st rfl rfl rfl (op_moveO rfl rfl) ?_
        refine st rfl rfl rfl (op_add64 rfl rfl rfl (by omega) (by omega)) ?_
        refine st rfl rfl rfl (op_buildP (cs := [_, _, _, _]) [(0, 1), (1, 1), (2, 2)] rfl Tryd.underlying68 Tryd.zeroValue68 ⟨rfl, Tryd.sizeOf9, ⟨rfl, Tryd.sizeOf3, ⟨rfl, Tryd.sizeOf66, trivial⟩⟩⟩ rfl rfl) ?_
        refine st rfl rfl rfl (op_boxT 2 rfl rfl rfl rfl) ?_
        refine st rfl rfl rfl (op_assignO rfl rfl) ?_
        refine AOps_nil ?_
        refine AWp_seq ?_
        refine AWp_block ?_
        -- loop 0 LIVE 0:param 1:param 4:assign 5:assign 6:assign 7:assign
        refine AWp_ghostR (s := s) (i := (a0 : Int) + 1) (a := .nilT σ.length 68 4) 5 ?_
        refine AWp_loop (ι := Nat × BL × Bool) (fun z => z.1 ≤ s.size ∧ z.2.1.length ≤ 4 * z.1 ∧ rUnq s (a0 : Int) = unqF s a0 z.1 (ba z.2.1)) (fun z => ⟨[], [(0, .str s), (1, .int .i64 (a0 : Int)), (4, .str ⟨#[]⟩), (5, .int .i64 0), (6, .nili), (7, .ptr σ.length 0)]⟩) (fun z => rdrO σ s (z.1 : Int) (aOf σ z.2.2) 5 z.2.1) (fun z => s.size - z.1) ((a0 + 1, [], false)) (⟨by simp only; omega, by simp, hr1 (by omega)⟩) ?_ rfl (fun z hi => ?_)
        · exact ⟨rfl, rfl, rfl, rfl, rfl, rfl, rfl, trivial⟩
        obtain ⟨i, out, w⟩ := z
        obtain ⟨hi, ho, hu⟩ := hi
        simp only at hi ho hu ⊢
        refine AWp_seq ?_
        refine AWp_seq ?_
        -- region 4 str.go:87
        refine AWp_regL ?_
        refine st rfl rfl rfl (op_moveO rfl rfl) ?_
        refine st rfl rfl rfl (op_nilCheck rfl rfl rfl) ?_
        refine st rfl rfl rfl (op_fieldAddrO (fo := 1) rfl Tryd.underlying68 rfl rfl Tryd.sizeOf3 (by decide) rfl trivial) ?_
        refine st rfl rfl rfl (op_load1 rfl Tryd.isAgg3 (ldv_ptr rdr_box rfl)) ?_
        refine st rfl rfl rfl (op_moveO rfl rfl) ?_
        refine st rfl rfl rfl (op_lenStr rfl rfl Tryd.underlying9 rfl) ?_
        refine st rfl rfl rfl (op_lss rfl rfl rfl) ?_
        refine AOps_nil ?_
        refine AWp_cond rfl (fun h4 => ?_) (fun h4 => ?_)
        · (try rw [h4]); (try simp only [decide_eq_true_eq, decide_eq_false_iff_not, Bool.not_eq_true', Bool.not_eq_false', Int.not_lt, Int.not_le, Bool.not_true, Bool.not_false, Int.toNat_natCast, bne_iff_ne, beq_iff_eq, beq_eq_false_iff_ne, ne_eq, Decidable.not_not] at h4)
          refine AWp_skip ?_
          refine AWp_block ?_
          refine AWp_seq ?_
          -- region 5 str.go:88
          refine AWp_regL ?_
          refine st rfl rfl rfl (op_moveO rfl rfl) ?_
          refine st rfl rfl rfl (op_moveO rfl rfl) ?_
          refine st rfl rfl rfl (op_nilCheck rfl rfl rfl) ?_
          refine st rfl rfl rfl (op_fieldAddrO (fo := 1) rfl Tryd.underlying68 rfl rfl Tryd.sizeOf3 (by decide) rfl trivial) ?_
          refine st rfl rfl rfl (op_load1 rfl Tryd.isAgg3 (ldv_ptr rdr_box rfl)) ?_
          refine st rfl rfl rfl (op_index_strB rfl Tryd.underlying9 rfl rfl (by omega) (by omega)) ?_
          simp only [Int.toNat_natCast]
          refine st rfl rfl rfl (op_assignO rfl rfl) ?_
          refine AOps_nil ?_
          refine AWp_block ?_
          refine AWp_seq ?_
          -- region 11 str.go:90
          refine AWp_regL ?_
          refine st rfl rfl rfl (op_moveO rfl rfl) ?_
          refine st rfl rfl rfl (op_eql rfl rfl rfl) ?_
          refine st rfl rfl rfl (op_assignO rfl rfl) ?_
          refine AOps_nil ?_
          refine AWp_cond rfl (fun h5 => ?_) (fun h5 => ?_)
          · (try rw [h5]); (try simp only [decide_eq_true_eq, decide_eq_false_iff_not, Bool.not_eq_true', Bool.not_eq_false', Int.not_lt, Int.not_le, Bool.not_true, Bool.not_false, Int.toNat_natCast, bne_iff_ne, beq_iff_eq, beq_eq_false_iff_ne, ne_eq, Decidable.not_not] at h5)
            refine AWp_seq ?_
            -- region 12 str.go:91 DRAWN
            refine AWp_drawL #[0, 1, 3, 7, 0, 16, 48, 112, 240, 0, 1008, 15, 4095, 8191] Tryd.mixed (by decide +kernel) (by decide +kernel) ?_
            refine rA rfl rfl rfl rfl (fun _ => op_moveO rfl rfl) ?_
            refine rA rfl rfl rfl rfl (fun _ => op_nilCheck rfl rfl rfl) ?_
            refine rA rfl rfl rfl rfl (fun _ => op_fieldAddrO (fo := 2) rfl Tryd.underlying68 rfl rfl Tryd.sizeOf66 (by decide) rfl trivial) ?_
            refine rE rfl rfl rfl rfl (op_callF rfl rfl rfl Tryd.func39 rfl rfl (bstr_c (rdr_T (aOf_ok σ w)) (by omega))) (trivial) (trivial) ?_
            refine rA rfl rfl rfl rfl (fun _ => op_moveO rfl rfl) ?_
            refine rA rfl rfl rfl rfl (fun _ => op_nilCheck rfl rfl rfl) ?_
            refine rA rfl rfl rfl rfl (fun _ => op_fieldAddrO (fo := 1) rfl Tryd.underlying68 rfl rfl Tryd.sizeOf3 (by decide) rfl trivial) ?_
            refine rP rfl rfl rfl rfl (op_load1 rfl Tryd.isAgg3 (ldv_ptr rdr_boxD rfl)) (⟨.inr (op_load1 rfl Tryd.isAgg3 (ldv_ptr rdr_box rfl)), trivial⟩) ?_
            refine rA rfl rfl rfl rfl (fun _ => op_add64 rfl rfl rfl (by omega) (by omega)) ?_
            refine rA rfl rfl rfl rfl (fun _ => op_moveO rfl rfl) ?_
            refine rA rfl rfl rfl rfl (fun _ => op_sub64 rfl rfl rfl (by omega) (by omega)) ?_
            refine rA rfl rfl rfl rfl (fun _ => op_assignO rfl rfl) ?_
            refine rA rfl rfl rfl rfl (fun _ => op_assignO rfl rfl) ?_
            refine rA rfl rfl rfl rfl (fun _ => op_assignO rfl rfl) ?_
            refine RP.nil rfl ?_
            refine AWp_ret ?_
            (try simp only [blockQ, thenQ])
            rw [hu, unqF_q (by omega) (by omega), rdr_dead]
            exact ResQ_3 rfl rfl rfl hcl (by simp [AV.lt, AV.ltL, errV]) (Ret_of rfl)
          · (try rw [h5]); (try simp only [decide_eq_true_eq, decide_eq_false_iff_not, Bool.not_eq_true', Bool.not_eq_false', Int.not_lt, Int.not_le, Bool.not_true, Bool.not_false, Int.toNat_natCast, bne_iff_ne, beq_iff_eq, beq_eq_false_iff_ne, ne_eq, Decidable.not_not] at h5)
            refine AWp_seq ?_
            -- region 13 str.go:92
            refine AWp_regL ?_
            refine st rfl rfl rfl (op_moveO rfl rfl) ?_
            refine st rfl rfl rfl (op_lss rfl rfl rfl) ?_
            refine st rfl rfl rfl (op_assignO rfl rfl) ?_
            refine AOps_nil ?_
            refine AWp_cond rfl (fun h6 => ?_) (fun h6 => ?_)
            · (try rw [h6]); (try simp only [decide_eq_true_eq, decide_eq_false_iff_not, Bool.not_eq_true', Bool.not_eq_false', Int.not_lt, Int.not_le, Bool.not_true, Bool.not_false, Int.toNat_natCast, bne_iff_ne, beq_iff_eq, beq_eq_false_iff_ne, ne_eq, Decidable.not_not] at h6)
              refine AWp_seq ?_
              -- region 14 str.go:93
              refine AWp_regL ?_
              refine st rfl rfl rfl (op_moveO rfl rfl) ?_
              refine st rfl rfl rfl (op_nilCheck rfl rfl rfl) ?_
              refine st rfl rfl rfl (op_fieldAddrO (fo := 1) rfl Tryd.underlying68 rfl rfl Tryd.sizeOf3 (by decide) rfl trivial) ?_
              refine st rfl rfl rfl (op_load1 rfl Tryd.isAgg3 (ldv_ptr rdr_box rfl)) ?_
              refine st rfl rfl rfl (op_callF rfl rfl rfl Tryd.func38 rfl rfl (fail_c (i : Int) 1 _)) ?_
              refine st rfl rfl rfl (op_assignO rfl rfl) ?_
              refine st rfl rfl rfl (op_assignO rfl rfl) ?_
              refine st rfl rfl rfl (op_assignO rfl rfl) ?_
              refine AOps_nil ?_
              refine AWp_ret ?_
              (try simp only [blockQ, thenQ])
              rw [hu, unqF_ctl (by omega) (by omega)]
              unfold rdrO
              exact ResQ_3 rfl rfl rfl hcl (by simp [AV.lt, AV.ltL, errV]) (Ret_of rfl)
            · (try rw [h6]); (try simp only [decide_eq_true_eq, decide_eq_false_iff_not, Bool.not_eq_true', Bool.not_eq_false', Int.not_lt, Int.not_le, Bool.not_true, Bool.not_false, Int.toNat_natCast, bne_iff_ne, beq_iff_eq, beq_eq_false_iff_ne, ne_eq, Decidable.not_not] at h6)
              refine AWp_seq ?_
              -- region 15 str.go:94
              refine AWp_regL ?_
              refine st rfl rfl rfl (op_moveO rfl rfl) ?_
              refine st rfl rfl rfl (op_eql rfl rfl rfl) ?_
              refine st rfl rfl rfl (op_assignO rfl rfl) ?_
              refine AOps_nil ?_
              refine AWp_cond rfl (fun h7 => ?_) (fun h7 => ?_)
              · (try rw [h7]); (try simp only [decide_eq_true_eq, decide_eq_false_iff_not, Bool.not_eq_true', Bool.not_eq_false', Int.not_lt, Int.not_le, Bool.not_true, Bool.not_false, Int.toNat_natCast, bne_iff_ne, beq_iff_eq, beq_eq_false_iff_ne, ne_eq, Decidable.not_not] at h7)
                refine AWp_seq ?_
                -- region 16 str.go:95
                refine AWp_regL ?_
                refine st rfl rfl rfl (op_moveO rfl rfl) ?_
                refine st rfl rfl rfl (op_nilCheck rfl rfl rfl) ?_
                refine st rfl rfl rfl (op_fieldAddrO (fo := 1) rfl Tryd.underlying68 rfl rfl Tryd.sizeOf3 (by decide) rfl trivial) ?_
                refine st rfl rfl rfl (op_load1 rfl Tryd.isAgg3 (ldv_ptr rdr_box rfl)) ?_
                refine st rfl rfl rfl (op_add64 rfl rfl rfl (by omega) (by omega)) ?_
                refine st rfl rfl rfl (op_nilCheck rfl rfl rfl) ?_
                refine st rfl rfl rfl (op_fieldAddrO (fo := 1) rfl Tryd.underlying68 rfl rfl Tryd.sizeOf3 (by decide) rfl trivial) ?_
                refine stN rfl rfl (op_storeP (r := [.str s, .int .i64 ((i : Int) + 1), aOf σ w, .bts (σ.length + 1) (out).length]) rfl Tryd.sizeOf3 rfl rfl rfl rdr_box rfl (by decide)) ?_
                rw [rdr_at]
                refine AOps_nil ?_
                refine AWp_seq ?_
                -- region 17 str.go:96
                refine AWp_regL ?_
                refine st rfl rfl rfl (op_moveO rfl rfl) ?_
                refine st rfl rfl rfl (op_callF rfl rfl rfl Tryd.func40 rfl rfl (escape_c s i (aOf_ok σ w) hs (by omega) (by omega))) ?_
                refine st rfl rfl rfl (op_assignO rfl rfl) ?_
                refine AOps_nil ?_
                refine AWp_seq ?_
                -- region 18 str.go:96
                refine AWp_regL ?_
                refine st rfl rfl rfl (op_moveO rfl rfl) ?_
                refine st rfl rfl rfl (op_neErr rfl Tryd.underlying41 rfl) ?_
                refine AOps_nil ?_
                refine AWp_cond rfl (fun h8 => ?_) (fun h8 => ?_)
                · (try rw [h8]); (try simp only [decide_eq_true_eq, decide_eq_false_iff_not, Bool.not_eq_true', Bool.not_eq_false', Int.not_lt, Int.not_le, Bool.not_true, Bool.not_false, Int.toNat_natCast, bne_iff_ne, beq_iff_eq, beq_eq_false_iff_ne, ne_eq, Decidable.not_not] at h8)
                  refine AWp_seq ?_
                  -- region 19 str.go:97
                  refine AWp_regL ?_
                  refine st rfl rfl rfl (op_moveO rfl rfl) ?_
                  refine st rfl rfl rfl (op_assignO rfl rfl) ?_
                  refine st rfl rfl rfl (op_assignO rfl rfl) ?_
                  refine st rfl rfl rfl (op_assignO rfl rfl) ?_
                  refine AOps_nil ?_
                  refine AWp_ret ?_
                  (try simp only [blockQ, thenQ])
                  obtain ⟨z, hz⟩ : ∃ z, eE s i = some z := by cases hz : eE s i with | none => rw [hz] at h8; cases h8 | some z => exact ⟨z, rfl⟩
                  have hst := (esc_step s a0 i out (by omega) (by omega)).1 z hz
                  rw [hu, hst.1, hz]
                  have hER : errU ⟨e0, 0, z.2, z.1⟩ = some z := by unfold errU; rw [if_neg hst.2]
                  rw [hER]
                  unfold rdrO
                  exact ResQ_3 rfl rfl rfl hcl (by simp [AV.lt, AV.ltL, errV]) (Ret_of rfl)
                · (try rw [h8]); (try simp only [decide_eq_true_eq, decide_eq_false_iff_not, Bool.not_eq_true', Bool.not_eq_false', Int.not_lt, Int.not_le, Bool.not_true, Bool.not_false, Int.toNat_natCast, bne_iff_ne, beq_iff_eq, beq_eq_false_iff_ne, ne_eq, Decidable.not_not] at h8)
                  refine AWp_skip ?_
                  have hn : eE s i = none := by cases hz : eE s i with | none => rfl | some z => rw [hz] at h8; cases h8
                  obtain ⟨j, ej, hij, hjs, hol, hstep⟩ := (esc_step s a0 i out (by omega) (by omega)).2 hn
                  rw [ej, if_pos hn]
                  refine ⟨(j, out ++ eO s i, true), σ.length + 2, ⟨hjs, by simp only [List.length_append]; omega, hu.trans hstep⟩, by simp only; omega, by simp [rdrO], ⟨rfl, rfl, rfl, rfl, rfl, rfl, rfl, trivial⟩, rdr_closed hcl (by simp [AV.lt]), ?_, rdr_take⟩
                  simp [ltE, AV.lt]
              · (try rw [h7]); (try simp only [decide_eq_true_eq, decide_eq_false_iff_not, Bool.not_eq_true', Bool.not_eq_false', Int.not_lt, Int.not_le, Bool.not_true, Bool.not_false, Int.toNat_natCast, bne_iff_ne, beq_iff_eq, beq_eq_false_iff_ne, ne_eq, Decidable.not_not] at h7)
                refine AWp_seq ?_
                -- region 6 str.go:100
                refine AWp_regL ?_
                refine st rfl rfl rfl (op_moveO rfl rfl) ?_
                refine st rfl rfl rfl (op_moveO rfl rfl) ?_
                refine st rfl rfl rfl (op_nilCheck rfl rfl rfl) ?_
                refine st rfl rfl rfl (op_fieldAddrO (fo := 1) rfl Tryd.underlying68 rfl rfl Tryd.sizeOf3 (by decide) rfl trivial) ?_
                refine st rfl rfl rfl (op_load1 rfl Tryd.isAgg3 (ldv_ptr rdr_box rfl)) ?_
                refine st rfl rfl rfl (op_slice_str _ _ rfl Tryd.underlying9 rfl (by first | exact ⟨_, rfl⟩ | rfl) (by first | exact ⟨_, rfl⟩ | rfl) (by omega) (by omega) (by omega)) ?_
                simp only [Int.toNat_natCast]
                refine st rfl rfl rfl (op_callF rfl rfl rfl Tryd.func41 rfl rfl (decr_c _ _)) ?_
                have hdu := dec_u8 s i (by omega)
                have hul := u8_le (s := s) (a := i) (by omega)
                generalize (Go.Lib.decodeGo (s.extract i s.size)).1 = dv at hdu ⊢
                generalize (Go.Lib.decodeGo (s.extract i s.size)).2 = dn at hdu ⊢
                refine st rfl rfl rfl (op_moveO rfl rfl) ?_
                refine st rfl rfl rfl (op_extract rfl rfl rfl) ?_
                refine st rfl rfl rfl (op_extract rfl rfl rfl) ?_
                refine st rfl rfl rfl (op_assignO rfl rfl) ?_
                refine st rfl rfl rfl (op_assignO rfl rfl) ?_
                refine AOps_nil ?_
                refine AWp_seq ?_
                refine AWp_seq ?_
                -- region 7 str.go:101
                refine AWp_regL ?_
                refine st rfl rfl rfl (op_moveO rfl rfl) ?_
                refine st rfl rfl rfl (op_eql rfl rfl rfl) ?_
                refine st rfl rfl rfl (op_moveO rfl rfl) ?_
                refine AOps_split 58 rfl (fun h9 => ?_) (fun h9 => ?_)
                · rw [h9]; (try simp only [decide_eq_true_eq, decide_eq_false_iff_not, Bool.not_eq_true', Bool.not_eq_false', Int.not_lt, Int.not_le, Bool.not_true, Bool.not_false, Int.toNat_natCast, bne_iff_ne, beq_iff_eq, beq_eq_false_iff_ne, ne_eq, Decidable.not_not] at h9)
                  refine stG rfl rfl rfl rfl rfl rfl (op_moveO rfl rfl) ?_
                  refine stG rfl rfl rfl rfl rfl rfl (op_eql rfl rfl rfl) ?_
                  refine st rfl rfl rfl (op_pickTO rfl rfl rfl) ?_
                  refine AOps_nil ?_
                  refine AWp_cond rfl (fun h10 => ?_) (fun h10 => ?_)
                  · (try rw [h10]); (try simp only [decide_eq_true_eq, decide_eq_false_iff_not, Bool.not_eq_true', Bool.not_eq_false', Int.not_lt, Int.not_le, Bool.not_true, Bool.not_false, Int.toNat_natCast, bne_iff_ne, beq_iff_eq, beq_eq_false_iff_ne, ne_eq, Decidable.not_not] at h10)
                    refine AWp_seq ?_
                    -- region 8 str.go:102
                    refine AWp_regL ?_
                    refine st rfl rfl rfl (op_moveO rfl rfl) ?_
                    refine st rfl rfl rfl (op_nilCheck rfl rfl rfl) ?_
                    refine st rfl rfl rfl (op_fieldAddrO (fo := 1) rfl Tryd.underlying68 rfl rfl Tryd.sizeOf3 (by decide) rfl trivial) ?_
                    refine st rfl rfl rfl (op_load1 rfl Tryd.isAgg3 (ldv_ptr rdr_box rfl)) ?_
                    refine st rfl rfl rfl (op_callF rfl rfl rfl Tryd.func38 rfl rfl (fail_c (i : Int) 2 _)) ?_
                    refine st rfl rfl rfl (op_assignO rfl rfl) ?_
                    refine st rfl rfl rfl (op_assignO rfl rfl) ?_
                    refine st rfl rfl rfl (op_assignO rfl rfl) ?_
                    refine AOps_nil ?_
                    refine AWp_ret ?_
                    (try simp only [blockQ, thenQ])
                    rw [hu, unqF_bad (by omega) (by omega) (by omega) (by omega) (by rcases hdu with h | h; exact h.2.2; exfalso; omega)]
                    unfold rdrO
                    exact ResQ_3 rfl rfl rfl hcl (by simp [AV.lt, AV.ltL, errV]) (Ret_of rfl)
                  · (try rw [h10]); (try simp only [decide_eq_true_eq, decide_eq_false_iff_not, Bool.not_eq_true', Bool.not_eq_false', Int.not_lt, Int.not_le, Bool.not_true, Bool.not_false, Int.toNat_natCast, bne_iff_ne, beq_iff_eq, beq_eq_false_iff_ne, ne_eq, Decidable.not_not] at h10)
                    refine AWp_skip ?_
                    refine AWp_seq ?_
                    -- region 9 str.go:104 DRAWN
                    refine AWp_drawL #[0, 1, 3, 0, 0, 16, 48, 112, 0, 256, 768, 1792, 0, 7936, 16376, 32767] Tryd.mixed (by decide +kernel) (by decide +kernel) ?_
                    refine rA rfl rfl rfl rfl (fun _ => op_moveO rfl rfl) ?_
                    refine rA rfl rfl rfl rfl (fun _ => op_nilCheck rfl rfl rfl) ?_
                    refine rA rfl rfl rfl rfl (fun _ => op_fieldAddrO (fo := 2) rfl Tryd.underlying68 rfl rfl Tryd.sizeOf66 (by decide) rfl trivial) ?_
                    refine rA rfl rfl rfl rfl (fun _ => op_moveO rfl rfl) ?_
                    refine rA rfl rfl rfl rfl (fun _ => op_moveO rfl rfl) ?_
                    refine rA rfl rfl rfl rfl (fun _ => op_nilCheck rfl rfl rfl) ?_
                    refine rA rfl rfl rfl rfl (fun _ => op_fieldAddrO (fo := 1) rfl Tryd.underlying68 rfl rfl Tryd.sizeOf3 (by decide) rfl trivial) ?_
                    refine rP rfl rfl rfl rfl (op_load1 rfl Tryd.isAgg3 (ldv_ptr rdr_box rfl)) (trivial) ?_
                    refine rA rfl rfl rfl rfl (fun _ => op_moveO rfl rfl) ?_
                    refine rA rfl rfl rfl rfl (fun _ => op_nilCheck rfl rfl rfl) ?_
                    refine rA rfl rfl rfl rfl (fun _ => op_fieldAddrO (fo := 1) rfl Tryd.underlying68 rfl rfl Tryd.sizeOf3 (by decide) rfl trivial) ?_
                    refine rP rfl rfl rfl rfl (op_load1 rfl Tryd.isAgg3 (ldv_ptr rdr_box rfl)) (trivial) ?_
                    refine rA rfl rfl rfl rfl (fun _ => op_moveO rfl rfl) ?_
                    refine rA rfl rfl rfl rfl (fun _ => op_add64 rfl rfl rfl (by omega) (by omega)) ?_
                    refine rA rfl rfl rfl rfl (fun _ => op_slice_str _ _ rfl Tryd.underlying9 rfl (by first | exact ⟨_, rfl⟩ | rfl) (by first | exact ⟨_, rfl⟩ | rfl) (by omega) (by omega) (by omega)) ?_
                    rw [show ((i : Int) + (dn : Int)).toNat = i + dn by omega]
                    simp only [Int.toNat_natCast]
                    have hxs : (s.extract i (i + dn)).size ≤ dn := by rw [ByteArray.size_extract]; omega
                    have hdn : dn ≤ s.size + 1 := by rcases hdu with h | h <;> omega
                    refine rE rfl rfl rfl rfl (op_callF rfl rfl rfl Tryd.func42 rfl rfl (wsR (s.extract i (i + dn)) (aOf_ok σ w) (by omega))) (⟨.inl rfl, ⟨.inl rfl, trivial⟩⟩) (trivial) ?_
                    refine RP.nil rfl ?_
                    -- region 10 str.go:105
                    refine AWp_regL ?_
                    refine st rfl rfl rfl (op_moveO rfl rfl) ?_
                    refine st rfl rfl rfl (op_nilCheck rfl rfl rfl) ?_
                    refine st rfl rfl rfl (op_fieldAddrO (fo := 1) rfl Tryd.underlying68 rfl rfl Tryd.sizeOf3 (by decide) rfl trivial) ?_
                    refine st rfl rfl rfl (op_load1 rfl Tryd.isAgg3 (ldv_ptr rdr_box rfl)) ?_
                    refine st rfl rfl rfl (op_moveO rfl rfl) ?_
                    refine st rfl rfl rfl (op_add64 rfl rfl rfl (by omega) (by omega)) ?_
                    refine st rfl rfl rfl (op_nilCheck rfl rfl rfl) ?_
                    refine st rfl rfl rfl (op_fieldAddrO (fo := 1) rfl Tryd.underlying68 rfl rfl Tryd.sizeOf3 (by decide) rfl trivial) ?_
                    refine stN rfl rfl (op_storeP (r := [.str s, .int .i64 ((i : Int) + (dn : Int)), .ptr σ.length 2, .bts (σ.length + 1) (out ++ (s.extract i (i + dn)).data.toList).length]) rfl Tryd.sizeOf3 rfl rfl rfl rdr_box rfl (by decide)) ?_
                    rw [rdr_at]
                    refine AOps_nil ?_
                    have hd : (dn : Int) = u8 s i ∧ u8 s i ≠ 0 := by rcases hdu with h | h; exfalso; omega; exact h.2
                    have hdu8 : u8 s i = dn := by omega
                    have hx2 : (s.extract i (i + dn)).data.toList.length = dn := by show (s.extract i (i + dn)).size = dn; rw [ByteArray.size_extract]; omega
                    have hstep := unqF_plain (s := s) (a := a0) (i := i) (out := ba out) (by omega) (by omega) (by omega) (by omega) (by omega)
                    rw [hdu8, ba_eta (s.extract i (i + dn)), ba_app] at hstep
                    refine ⟨(i + dn, out ++ (s.extract i (i + dn)).data.toList, true), σ.length + 2, ⟨by simp only; omega, by simp only [List.length_append]; omega, hu.trans hstep⟩, by simp only; omega, by simp [rdrO], ⟨rfl, rfl, rfl, rfl, rfl, rfl, rfl, trivial⟩, rdr_closed hcl (by simp [AV.lt]), ?_, rdr_take⟩
                    simp [ltE, AV.lt]
                · rw [h9]; (try simp only [decide_eq_true_eq, decide_eq_false_iff_not, Bool.not_eq_true', Bool.not_eq_false', Int.not_lt, Int.not_le, Bool.not_true, Bool.not_false, Int.toNat_natCast, bne_iff_ne, beq_iff_eq, beq_eq_false_iff_ne, ne_eq, Decidable.not_not] at h9)
                  refine stS rfl rfl rfl (.inl rfl) rfl rfl ?_
                  refine stS rfl rfl rfl (.inl rfl) rfl rfl ?_
                  refine st rfl rfl rfl (op_pickFO rfl rfl rfl) ?_
                  refine AOps_nil ?_
                  refine AWp_condF rfl ?_
                  refine AWp_skip ?_
                  refine AWp_seq ?_
                  -- region 9 str.go:104 DRAWN
                  refine AWp_drawL #[0, 1, 3, 0, 0, 16, 48, 112, 0, 256, 768, 1792, 0, 7936, 16376, 32767] Tryd.mixed (by decide +kernel) (by decide +kernel) ?_
                  refine rA rfl rfl rfl rfl (fun _ => op_moveO rfl rfl) ?_
                  refine rA rfl rfl rfl rfl (fun _ => op_nilCheck rfl rfl rfl) ?_
                  refine rA rfl rfl rfl rfl (fun _ => op_fieldAddrO (fo := 2) rfl Tryd.underlying68 rfl rfl Tryd.sizeOf66 (by decide) rfl trivial) ?_
                  refine rA rfl rfl rfl rfl (fun _ => op_moveO rfl rfl) ?_
                  refine rA rfl rfl rfl rfl (fun _ => op_moveO rfl rfl) ?_
                  refine rA rfl rfl rfl rfl (fun _ => op_nilCheck rfl rfl rfl) ?_
                  refine rA rfl rfl rfl rfl (fun _ => op_fieldAddrO (fo := 1) rfl Tryd.underlying68 rfl rfl Tryd.sizeOf3 (by decide) rfl trivial) ?_
                  refine rP rfl rfl rfl rfl (op_load1 rfl Tryd.isAgg3 (ldv_ptr rdr_box rfl)) (trivial) ?_
                  refine rA rfl rfl rfl rfl (fun _ => op_moveO rfl rfl) ?_
                  refine rA rfl rfl rfl rfl (fun _ => op_nilCheck rfl rfl rfl) ?_
                  refine rA rfl rfl rfl rfl (fun _ => op_fieldAddrO (fo := 1) rfl Tryd.underlying68 rfl rfl Tryd.sizeOf3 (by decide) rfl trivial) ?_
                  refine rP rfl rfl rfl rfl (op_load1 rfl Tryd.isAgg3 (ldv_ptr rdr_box rfl)) (trivial) ?_
                  refine rA rfl rfl rfl rfl (fun _ => op_moveO rfl rfl) ?_
                  refine rA rfl rfl rfl rfl (fun _ => op_add64 rfl rfl rfl (by omega) (by omega)) ?_
                  refine rA rfl rfl rfl rfl (fun _ => op_slice_str _ _ rfl Tryd.underlying9 rfl (by first | exact ⟨_, rfl⟩ | rfl) (by first | exact ⟨_, rfl⟩ | rfl) (by omega) (by omega) (by omega)) ?_
                  rw [show ((i : Int) + (dn : Int)).toNat = i + dn by omega]
                  simp only [Int.toNat_natCast]
                  have hxs : (s.extract i (i + dn)).size ≤ dn := by rw [ByteArray.size_extract]; omega
                  have hdn : dn ≤ s.size + 1 := by rcases hdu with h | h <;> omega
                  refine rE rfl rfl rfl rfl (op_callF rfl rfl rfl Tryd.func42 rfl rfl (wsR (s.extract i (i + dn)) (aOf_ok σ w) (by omega))) (⟨.inl rfl, ⟨.inl rfl, trivial⟩⟩) (trivial) ?_
                  refine RP.nil rfl ?_
                  -- region 10 str.go:105
                  refine AWp_regL ?_
                  refine st rfl rfl rfl (op_moveO rfl rfl) ?_
                  refine st rfl rfl rfl (op_nilCheck rfl rfl rfl) ?_
                  refine st rfl rfl rfl (op_fieldAddrO (fo := 1) rfl Tryd.underlying68 rfl rfl Tryd.sizeOf3 (by decide) rfl trivial) ?_
                  refine st rfl rfl rfl (op_load1 rfl Tryd.isAgg3 (ldv_ptr rdr_box rfl)) ?_
                  refine st rfl rfl rfl (op_moveO rfl rfl) ?_
                  refine st rfl rfl rfl (op_add64 rfl rfl rfl (by omega) (by omega)) ?_
                  refine st rfl rfl rfl (op_nilCheck rfl rfl rfl) ?_
                  refine st rfl rfl rfl (op_fieldAddrO (fo := 1) rfl Tryd.underlying68 rfl rfl Tryd.sizeOf3 (by decide) rfl trivial) ?_
                  refine stN rfl rfl (op_storeP (r := [.str s, .int .i64 ((i : Int) + (dn : Int)), .ptr σ.length 2, .bts (σ.length + 1) (out ++ (s.extract i (i + dn)).data.toList).length]) rfl Tryd.sizeOf3 rfl rfl rfl rdr_box rfl (by decide)) ?_
                  rw [rdr_at]
                  refine AOps_nil ?_
                  have hd : (dn : Int) = u8 s i ∧ u8 s i ≠ 0 := by rcases hdu with h | h; exfalso; omega; exact h.2
                  have hdu8 : u8 s i = dn := by omega
                  have hx2 : (s.extract i (i + dn)).data.toList.length = dn := by show (s.extract i (i + dn)).size = dn; rw [ByteArray.size_extract]; omega
                  have hstep := unqF_plain (s := s) (a := a0) (i := i) (out := ba out) (by omega) (by omega) (by omega) (by omega) (by omega)
                  rw [hdu8, ba_eta (s.extract i (i + dn)), ba_app] at hstep
                  refine ⟨(i + dn, out ++ (s.extract i (i + dn)).data.toList, true), σ.length + 2, ⟨by simp only; omega, by simp only [List.length_append]; omega, hu.trans hstep⟩, by simp only; omega, by simp [rdrO], ⟨rfl, rfl, rfl, rfl, rfl, rfl, rfl, trivial⟩, rdr_closed hcl (by simp [AV.lt]), ?_, rdr_take⟩
                  simp [ltE, AV.lt]
        · (try rw [h4]); (try simp only [decide_eq_true_eq, decide_eq_false_iff_not, Bool.not_eq_true', Bool.not_eq_false', Int.not_lt, Int.not_le, Bool.not_true, Bool.not_false, Int.toNat_natCast, bne_iff_ne, beq_iff_eq, beq_eq_false_iff_ne, ne_eq, Decidable.not_not] at h4)
          refine AWp_exit ?_
          refine AWp_seq ?_
          -- region 20 str.go:108
          refine AWp_regL ?_
          refine st rfl rfl rfl (op_moveO rfl rfl) ?_
          refine st rfl rfl rfl (op_lenStr rfl rfl Tryd.underlying9 rfl) ?_
          refine st rfl rfl rfl (op_callF rfl rfl rfl Tryd.func38 rfl rfl (fail_c (s.size : Int) 1 _)) ?_
          refine st rfl rfl rfl (op_assignO rfl rfl) ?_
          refine st rfl rfl rfl (op_assignO rfl rfl) ?_
          refine st rfl rfl rfl (op_assignO rfl rfl) ?_
          refine AOps_nil ?_
          refine AWp_ret ?_
          (try simp only [blockQ, thenQ])
          rw [hu, unqF_end (by omega)]
          unfold rdrO
          exact ResQ_3 rfl rfl rfl hcl (by simp [AV.lt, AV.ltL, errV]) (Ret_of rfl)

end Lg
namespace Lg
open Go
theorem unqF_zero (s : ByteArray) (a : Nat) : ∀ (k i : Nat) (out : ByteArray), s.size - i ≤ k → (unqF s a i out).bad = 0 → (unqF s a i out).at_ = 0 := by
  intro k
  induction k with
  | zero =>
    intro i out hk h
    rw [unqF_end (by omega)] at h
    simp at h
  | succ k ih =>
    intro i out hk
    rw [unqF]
    split
    · split
      · intro _; rfl
      · split
        · intro h; simp at h
        · split
          · split
            · intro h; simp at h
            · rename_i hu; exact ih _ _ (by omega)
          · split
            · intro h; simp at h
            · split
              · split
                · intro h; simp at h
                · split
                  · exact ih _ _ (by omega)
                  · split
                    · intro h; simp at h
                    · exact ih _ _ (by omega)
              · split
                · intro h; simp at h
                · exact ih _ _ (by omega)
    · intro h; simp at h
theorem rUnq_zero (s : ByteArray) (a : Int) (h : (rUnq s a).bad = 0) : (rUnq s a).at_ = 0 := by
  unfold rUnq at h ⊢
  split at h
  · simp at h
  · rename_i h1
    rw [if_neg h1]
    split at h
    · simp at h
    · rename_i h2
      rw [if_neg h2]; exact unqF_zero s _ (s.size) _ _ (by omega) h
def exS : ByteArray := ⟨#[34, 97, 92, 117, 48, 48, 52, 49, 34]⟩
theorem exS_hex : rhex exS 4 = (65, -1) := by
  unfold rhex
  rw [hexF_go (by decide) (by decide) (by decide), hexF_go (by decide) (by decide) (by decide), hexF_go (by decide) (by decide) (by decide), hexF_go (by decide) (by decide) (by decide), hexF_done]
  rfl
theorem exS_unq : rUnq exS 0 = ⟨⟨#[97, 65]⟩, 9, 0, 0⟩ := by
  have h0 : rUnq exS 0 = unqF exS 0 1 e0 := by
    unfold rUnq; rw [if_neg (by decide), if_neg (by decide)]; rfl
  have hu : u8 exS 1 = 1 := u8N_1 (by decide)
  rw [h0, unqF_plain (by decide) (by decide) (by decide) (by decide) (by rw [hu]; decide), hu,
    unqF_u (by decide) (by decide) (by decide) (by rw [show (1 + 1 + 2) = 4 from rfl, exS_hex]; decide) (by rw [show (1 + 1 + 2) = 4 from rfl, exS_hex]; rintro ⟨h, _⟩; revert h; decide) (by rw [show (1 + 1 + 2) = 4 from rfl, exS_hex]; rintro ⟨h, _⟩; revert h; decide),
    unqF_q (by decide) (by decide), show (1 + 1 + 2) = 4 from rfl, exS_hex]
  rfl
end Lg
set_option maxRecDepth 20000
set_option maxHeartbeats 4000000
namespace Lg
open Go Go.Proofs Go.RowKit
variable [GLay] [U8]


theorem unq_any (s : ByteArray) (at_ : Int) (σ : List AO) (hs : s.size ≤ 1000000) : ACalls Tryd.prog 21 [.str s, .int .i64 at_] σ (Ret (.tup [.str (rUnq s at_).s, .int .i64 (rUnq s at_).n, errV (errU (rUnq s at_))]) σ) := by
  by_cases h : at_ < 0 ∨ (s.size : Int) ≤ at_
  · exact unq_out s at_ σ hs h
  · have := unq_in s at_.toNat σ hs (by omega)
    rwa [show ((at_.toNat : Nat) : Int) = at_ by omega] at this
theorem spot_u (u : UR) (σ : List AO) (h : u.bad = 0 → u.at_ = 0) : ACalls Tryd.prog 23 [errV (errU u)] σ (Ret (.tup [.int .i64 u.bad, .int .i64 u.at_]) σ) := by
  by_cases hb : u.bad = 0
  · have e : errU u = none := by unfold errU; rw [if_pos hb]
    rw [e, hb, h hb]; exact spot_0 σ
  · have e : errU u = some (u.at_, u.bad) := by unfold errU; rw [if_neg hb]
    rw [e]; exact spot_s u.at_ u.bad σ
theorem quoteS_c (s : ByteArray) (σ : List AO) (hs : s.size ≤ 1000000) : ACalls Tryd.prog 25 [.str s] σ (Ret (.str (ba (quoteL s.data.toList))) σ) := by
  have h := quote_c s.data.toList σ hs
  rwa [← ba_eta] at h
theorem rquoteS_c (s : ByteArray) (σ : List AO) (hs : s.size ≤ 1000000) : ACalls Tryd.prog 26 [.str s] σ (Ret (.str (ba (quoteL s.data.toList))) σ) := by
  have h := rquote_c s.data.toList σ hs
  rwa [← ba_eta] at h
theorem ex_unq (σ : List AO) : ACalls Tryd.prog 21 [.str ⟨#[34, 97, 92, 117, 48, 48, 52, 49, 34]⟩, .int .i64 0] σ (Ret (.tup [.str ⟨#[97, 65]⟩, .int .i64 9, .nili]) σ) := by
  have h := unq_any exS 0 σ (by decide)
  rw [exS_unq] at h; exact h
theorem ex_quo (σ : List AO) : ACalls Tryd.prog 25 [.str ⟨#[34, 10]⟩] σ (Ret (.str ⟨#[34, 92, 34, 92, 117, 48, 48, 48, 97, 34]⟩) σ) := quote_c [34, 10] σ (by decide)
theorem up2_c (σ : List AO) : ACalls Tryd.prog 20 [] σ (Ret (.bool true) σ) := by
  refine ACalls_body Tryd.func20 rfl Tryd.ntmps20 (res1 Tryd.results20) (Nat.le_of_ble_eq_true rfl) (fun hcl hal => ?_)
  refine AWp_seq ?_
  -- region 0 law.go:11
  refine AWp_regL ?_
  refine st rfl rfl rfl (op_assignO rfl rfl) ?_
  refine AOps_nil ?_
  refine AWp_seq ?_
  -- region 1 law.go:12
  refine AWp_regL ?_
  refine st rfl rfl rfl (op_callF rfl rfl rfl Tryd.func21 rfl rfl (ex_unq _)) ?_
  refine st rfl rfl rfl (op_moveO rfl rfl) ?_
  refine st rfl rfl rfl (op_extract rfl rfl rfl) ?_
  refine st rfl rfl rfl (op_extract rfl rfl rfl) ?_
  refine st rfl rfl rfl (op_extract rfl rfl rfl) ?_
  refine st rfl rfl rfl (op_assignO rfl rfl) ?_
  refine st rfl rfl rfl (op_assignO rfl rfl) ?_
  refine st rfl rfl rfl (op_assignO rfl rfl) ?_
  refine AOps_nil ?_
  refine AWp_seq ?_
  -- region 2 law.go:13
  refine AWp_regL ?_
  refine st rfl rfl rfl (op_moveO rfl rfl) ?_
  refine st rfl rfl rfl (op_seqT rfl rfl rfl rfl) ?_
  refine st rfl rfl rfl (op_moveO rfl rfl) ?_
  refine stG rfl rfl rfl rfl rfl rfl (op_moveO rfl rfl) ?_
  refine stG rfl rfl rfl rfl rfl rfl (op_eqlT rfl rfl rfl rfl) ?_
  refine st rfl rfl rfl (op_pickTO rfl rfl rfl) ?_
  refine st rfl rfl rfl (op_moveO rfl rfl) ?_
  refine stG rfl rfl rfl rfl rfl rfl (op_moveO rfl rfl) ?_
  refine stG rfl rfl rfl rfl rfl rfl ((by first | exact op_eqIN rfl Tryd.underlying41 rfl | exact op_eqINil rfl Tryd.underlying41 rfl)) ?_
  refine st rfl rfl rfl (op_pickTO rfl rfl rfl) ?_
  refine st rfl rfl rfl (op_moveO rfl rfl) ?_
  refine stG rfl rfl rfl rfl rfl rfl (op_callF rfl rfl rfl Tryd.func25 rfl rfl (ex_quo _)) ?_
  refine stG rfl rfl rfl rfl rfl rfl (op_seqT rfl rfl rfl rfl) ?_
  refine st rfl rfl rfl (op_pickTO rfl rfl rfl) ?_
  refine st rfl rfl rfl (op_assignO rfl rfl) ?_
  refine AOps_nil ?_
  refine AWp_ret ?_
  (try simp only [blockQ, thenQ])
  exact ResQ_10 rfl hcl trivial ⟨rfl, rfl⟩

end Lg
