/- A part of the proof of The nodes of any schema with their references known, or what is amiss and where: the program's refs.Link answers as the reference's Link.: Lr3 Lw1 W1 Lr4 Lr5 Lg45 Lg46 Lo1 Lr6 Lk9 Lt1 Lt2 Lt3 Lo2 Lo3 Ln9 Ln10 Ln11 Ln12 Le1 Lr7 Le2 Le3 Le4 Lr8 X4 K1 K4 K5 S1 K6 K8 Lk8 Lg47 Lg48 Lg49 Lg53 Le5 Le6 Le7 Le8 Le9 Le10 Le11 Le12 Le13 Le14 Lj1 Lj2 Lg57 Lc1 Lg50. -/
import Derived.Test.YtdacoelmmaiffaaDoorR4
import Derived.Test.YtdacoelmmaiffaaDoorR3
import Derived.SliceStrings
import Derived.HandedShaped
import Derived.Lib.Atoi
import Derived.Lib.SlTrimSet
import Derived.Laws.CopyRow
import Derived.Lib.Overlaps
set_option linter.unusedVariables false
set_option linter.unusedSimpArgs false
set_option linter.unusedSectionVars false
namespace Lg
open Go Go.RowKit
section
variable [GLay] {P : Program} {N : Nat} {σ l : List AO} {e : Env} {Q : QA} {o : Oper}
theorem op_indexAddrA {T E : TypeId} {x y : Operand} {sz p gg len : Nat} {k : IntKind} {n : Int} {cs : List AV} (ho : o.op = .indexAddr T x y) (hu : P.underlying T = some (.slice E))
    (hsz : ∀ w, (Go.sizeOf E).run P w = Result.ok sz w) (hx : opO e x = some (.arr p gg sz 0 len)) (hy : opO e y = some (.int k n)) (h0 : 0 ≤ n) (hlt : n < len) (hσ : σ[p]? = some (.arr sz gg cs)) : AOp P σ e o (.pel p gg (n.toNat * sz)) σ :=
  .of_run fun s a hs g hv => by
    subst hs
    have h1 := opO_eq hx ▸ hv x (by simp [ho, Op.operands])
    have h2 := (opO_eq hy ▸ hv y (by simp [ho, Op.operands])).inv_int
    rcases h1.inv_arr hσ with ⟨_, ⟨ad, h3, h4⟩ | ⟨cap, h3, h4, h5⟩⟩
    · omega
    · refine ⟨_, by simp only [execOp, ho, h3, h2, Sem.run_bind]; rw [run_indexAt_slice (cap := cap) hu hsz h0 hlt]; rfl, ?_⟩
      refine .pel _ _ _ _ rfl ?_
      unfold ArrAt
      rw [hσ]
      exact ⟨Nat.le_refl _, fun _ => by simp⟩
theorem op_indexAddrAO {T E : TypeId} {x y : Operand} {sz j gg len : Nat} {k : IntKind} {n : Int} {cs : List AV} (ho : o.op = .indexAddr T x y) (hu : P.underlying T = some (.slice E))
    (hsz : ∀ w, (Go.sizeOf E).run P w = Result.ok sz w) (hx : opO e x = some (.arr (σ.length + j) gg sz 0 len)) (hy : opO e y = some (.int k n)) (h0 : 0 ≤ n) (hlt : n < len) (hl : l[j]? = some (.arr sz gg cs)) : AOp P (σ ++ l) e o (.pel (σ.length + j) gg (n.toNat * sz)) (σ ++ l) :=
  op_indexAddrA ho hu hsz hx hy h0 hlt (by rw [get_own]; exact hl)
theorem AWp_freezeAO {c : Code} (t k gg sz n : Nat) (es : List (List AV)) (hl : lookO e.l t = some (.arr (σ.length + k) gg sz 0 n)) (hk : l[k]? = some (.arr sz gg es.flatten)) (hel : ∀ r ∈ es, r.length = sz) (hn : es.length = n) (hsz : sz ≠ 0) (h : AWp P N c (e.put (some t) (.sl false sz es)) (σ ++ l.set k .dead) Q) (ht : t < N) : AWp P N c e (σ ++ l) Q := by
  have hf : es.flatten.length = n * sz := by rw [flatten_len hel, hn]
  exact AWp_freezeArr t (σ.length + k) gg sz 0 n hl (by rw [get_own]; exact hk) es (by rw [Nat.zero_mul, List.drop_zero, ← hf, List.take_length]) hel hn hsz (by rw [hf, Nat.zero_add]; exact Nat.le_refl _) (by rw [set_own]; exact h) ht
end
def srow (l : List BL) : List (List AV) := l.map fun x => [AV.str (ba x)]
theorem srow_len (l : List BL) : (srow l).length = l.length := by simp [srow]
theorem srow_get {l : List BL} {i : Nat} {x : BL} (h : l[i]? = some x) : (srow l)[i]? = some [AV.str (ba x)] := by simp [srow, h]
theorem srow_flat (l : List BL) : (srow l).flatten = l.map fun x => AV.str (ba x) := by
  induction l with
  | nil => rfl
  | cons a r ih => show [AV.str (ba a)] ++ (srow r).flatten = _; rw [ih]; rfl
@[simp] theorem srow_lt (m : Nat) (l : List BL) : AV.ltLL m (srow l) := by
  induction l with
  | nil => simp [srow, AV.ltLL]
  | cons a r ih => simpa [srow, AV.ltLL, AV.ltL, AV.lt] using ih
@[simp] theorem smap_lt (m : Nat) (l : List BL) : AV.ltL m (l.map fun x => AV.str (ba x)) := by
  induction l with
  | nil => simp [AV.ltL]
  | cons a r ih => simpa [AV.ltL, AV.lt] using ih
theorem ra1_len (c : UInt8) (nw : BL) (h : nw.length ≤ 2) : ∀ s : BL, (ra [c] nw s).length ≤ 2 * s.length := by
  intro s
  rw [ra_one]
  induction s with
  | nil => simp
  | cons b r ih =>
    rw [List.flatMap_cons, List.length_append, List.length_cons]
    have : (if b = c then nw else [b]).length ≤ 2 := by split <;> simp [h]
    omega
theorem shw_snoc (l : List BL) (x : BL) : shw (l ++ [x]) = shw l ++ 47 :: pesc x := by simp [shw]
theorem shw_len (B : Nat) : ∀ l : List BL, (∀ x ∈ l, x.length ≤ B) → (shw l).length ≤ l.length * (2 * B + 1)
  | [], _ => by simp [shw]
  | x :: l, h => by
    have ih := shw_len B l (fun y hy => h y (by simp [hy]))
    have hx := h x (by simp)
    have he := esc_len x
    rw [shw_cons, List.length_cons, List.length_append, List.length_cons, Nat.add_mul]
    omega
def tbad (s : BL) (i : Nat) : Bool := decide (s[i]? = some 126) && !(decide (s[i + 1]? = some 48) || decide (s[i + 1]? = some 49))
def pE (s : BL) : Option Nat := if s = [] then none else if ¬ s[0]? = some 47 then some 0 else (List.range s.length).find? (tbad s)
def pN (s : BL) : List BL := if s = [] then [] else if (pE s).isSome then [] else (pcs 47 (s.drop 1)).map pune
theorem okP_tbad {s : BL} (h : okP s) (i : Nat) : tbad s i = false := by
  unfold tbad
  by_cases hi : s[i]? = some 126
  · rcases h i hi with h | h <;> simp [hi, h]
  · simp [hi]
theorem pE_none {s : BL} (h0 : ¬ s = []) (h1 : s[0]? = some 47) (h : ∀ i, i < s.length → tbad s i = false) : pE s = none := by
  unfold pE; rw [if_neg h0, if_neg (by simp [h1])]
  exact List.find?_eq_none.2 fun i hi => by simp [h i (List.mem_range.1 hi)]
theorem pN_shw (l : List BL) : pE (shw l) = none ∧ pN (shw l) = l := by
  cases l with
  | nil => exact ⟨rfl, rfl⟩
  | cons x r =>
    have hne : ¬ shw (x :: r) = [] := by rw [shw_cons]; simp
    have hE : pE (shw (x :: r)) = none := pE_none hne (by rw [shw_cons]; rfl) (fun i _ => okP_tbad (okP_shw _) i)
    refine ⟨hE, ?_⟩
    unfold pN; rw [if_neg hne, hE]
    rw [shw_cons]
    exact shw_back x r
end Lg
namespace Lg
open Go
end Lg
namespace Lg
open Go Go.Lib Go.ChangeShapes Go.WideShapes
end Lg
namespace Go
theorem Lg.returns_and_shaped {H : Type} {enc : TypeId × Value → H} {a : Assume} {C : Checked} {os : Os} {f : FuncId} {fn : Func} {s : ChangeSpec} {conds : List PathCond} {apart fresh handsOn again : Bool} {X : World → Array Value → Prop}
    (hX : ∀ (w w' : World) (args : Array Value), w.heap = w'.heap → X w args → X w' args)
    (own : ownKnob C.prog.godebug = none) (started : os.Started) (noInit : C.prog.inits.idxOf? f = none) (hfn : C.prog.funcs[f]? = some fn)
    (witness : ∃ (w : World) (tape : Tape) (i : Input), w.os = os ∧ (w.forCall tape i).Shaped C.prog ∧ i.vars = [] ∧ Input.okWide C.prog (w.forCall tape i) .any w.heap.size f i ∧
      ((s.pre enc C.prog fn conds apart (w.forCall tape i).memory i.args ∧ X (w.forCall tape i).memory i.args) ∧ sizedMet enc C.prog fn (OpenSpec.ofChange s) apart (w.forCall tape i).memory i.args) ∧ a.holds C.prog (lone (Frame.enter C.prog f i.args .normal) [] (w.forCall tape i)))
    (contract : ∀ (W : World) (base : Nat) (args : Array Value) (ds gs : List (DataW H)) (before : List MemPlace),
      (∀ (j : Nat) t v, fn.params[j]? = some t → args[j]? = some v → Value.okWide C.prog W .any base t v) →
      DataW.Whole enc C.prog fn.params.toList s.vars apart W args.toList ds gs before →
      X W args → W.ShapedOpen C.prog →
      Calls C.prog f args W fun e W' => ∃ v, e = .returned v ∧ s.post enc C.prog fn apart fresh handsOn again W args v W') :
    ReturnsInHanded a C os f .any (fun w args => (s.pre enc C.prog fn conds apart w args ∧ X w args) ∧ sizedMet enc C.prog fn (OpenSpec.ofChange s) apart w args) (s.post enc C.prog fn apart fresh handsOn again) := by
  refine returnsInHanded_of_calls own started noInit witness ?_
  intro w tape i _ hsh _ hok hpre _
  obtain ⟨_, _, _, fn', hfn', _, _, _, _, hval⟩ := hok
  obtain rfl : fn' = fn := Option.some.inj (hfn'.symm.trans hfn)
  obtain ⟨⟨⟨ds, gs, before, hw, _⟩, hx⟩, _⟩ := hpre
  refine (contract (w.forCall tape i) w.heap.size i.args ds gs before hval (DataW.Whole.of_heap (w' := w.forCall tape i) (by rfl) hw) (hX _ _ _ (by rfl) hx) hsh).mono fun e W' ⟨v, he, hp⟩ => ?_
  subst he
  exact ChangeSpec.post_blind hp
end Go
set_option maxRecDepth 20000
set_option maxHeartbeats 4000000
namespace Lg
open Go Go.Proofs Go.RowKit
variable [GLay] 


theorem run_c (s : ByteArray) (a : Int) (σ : List AO) (hs : s.size ≤ 1000000000) (h0 : 0 ≤ a) (ha : a ≤ 1000000000) : ACalls Tryd.prog 54 [.str s, .int .i64 a] σ (Ret (.int .i64 (runl s a.toNat : Int)) σ) := by
 refine ACalls_body Tryd.func54 rfl Tryd.ntmps54 (res1 Tryd.results54) (Nat.le_of_ble_eq_true rfl) (fun hcl hal => ?_)
 refine zw1 ?_
 refine zw1 ?_
 refine AWp_seq ?_
 refine AWp_block ?_
 -- loop 0 LIVE 0:param 1:param 4:assign 5:assign
 refine AWp_loop (ι := Nat) (fun i => i + runl s (a.toNat + i) = runl s a.toNat) (fun i => ⟨[], [(0, .str s), (1, .int .i64 a), (5, .int .i64 (i : Int))]⟩) (fun i => σ) (fun i => s.size - (a.toNat + i)) (0) (by simp) ?_ rfl (fun i hi => ?_)
 ·refine ⟨rfl, rfl, rfl, rfl, trivial⟩
 have hle := runl_le s (a.toNat + i)
 have hle0 := runl_le s a.toNat
 have hto : (a + (i : Int)).toNat = a.toNat + i := by omega
 refine AWp_seq ?_
 refine zu7 ?_
 refine zsp 12 rfl (fun h1 => ?_) fun h1 => ?_
 ·rw [h1]; replace h1 := zcl h1
  refine zg8 ?_
  refine zsp 20 rfl (fun h2 => ?_) fun h2 => ?_
  ·rw [h2]; replace h2 := zcl h2
   refine zv7 ?_
   refine AWp_cond rfl (fun h3 => ?_) (fun h3 => ?_)
   ·(try rw [h3]); replace h3 := zcl h3
    refine AWp_skip ?_
    refine AWp_block ?_
    refine AWp_regL ?_
    refine zv3 ?_
    (try simp only [hto] at *)
    have hd : dig s (a.toNat + i) := by simp only [dig]; omega
    have hr := runl_yes (by omega) hd
    refine ⟨i + 1, σ.length, by rw [← Nat.add_assoc]; omega, by omega, Nat.le_refl _, ⟨rfl, rfl, rfl, rfl, trivial⟩, hcl, ?_, List.take_length⟩
    simp [ltE, AV.lt]
   ·(try rw [h3]); replace h3 := zcl h3
    refine AWp_exit ?_
    refine zw2 ?_
    refine zrt ?_
    (try simp only [hto] at *)
    have hr := runl_no (b := s) (i := a.toNat + i) (by simp only [dig]; omega)
    refine ResQ_10 rfl hcl trivial (Ret_of ?_)
    congr 1; omega
  ·rw [h2]; replace h2 := zcl h2
   refine zv7 ?_
   refine AWp_condF rfl ?_
   refine AWp_exit ?_
   refine zw2 ?_
   refine zrt ?_
   (try simp only [hto] at *)
   have hr := runl_no (b := s) (i := a.toNat + i) (by simp only [dig]; omega)
   refine ResQ_10 rfl hcl trivial (Ret_of ?_)
   congr 1; omega
 ·rw [h1]; replace h1 := zcl h1
  refine zg10 ?_
  refine zg5 ?_
  refine zon ?_
  refine AWp_condF rfl ?_
  refine AWp_exit ?_
  refine zw2 ?_
  refine zrt ?_
  (try simp only [hto] at *)
  have hr := runl_no (b := s) (i := a.toNat + i) (by simp only [dig]; omega)
  refine ResQ_10 rfl hcl trivial (Ret_of ?_)
  congr 1; omega

theorem mayNum_c (n : JNum) (σ : List AO) (hn : n.digits.size ≤ 1000000000) : ACalls Tryd.prog 55 [.agg (ncells n)] σ (Ret (.bool (pb (NumMay n))) σ) := by
 refine ACalls_body Tryd.func55 rfl Tryd.ntmps55 (res1 Tryd.results55) (Nat.le_of_ble_eq_true rfl) (fun hcl hal => ?_)
 have hr0 := runl0 n.digits
 refine zw2 ?_
 refine AWp_seq ?_
 refine zw3 ?_
 refine AWp_cond rfl (fun h1 => ?_) (fun h1 => ?_)
 ·(try rw [h1]); replace h1 := zcl h1
  refine zu4 ?_
  refine zsp 9 rfl (fun h2 => ?_) fun h2 => ?_
  ·rw [h2]; replace h2 := zcl h2
   refine zv5 ?_
   refine zrt ?_
   refine ResQ_1 rfl hcl trivial (Ret_of ?_)
   refine bool_of ?_
   by_cases hd : digs n.digits n.digits.size
   ·have hd2 := hr0.2 hd; simp_all [NumMay] <;> omega
   ·have hd2 := mt hr0.1 hd; simp_all [NumMay] <;> omega
  ·rw [h2]; replace h2 := zcl h2
   refine zv5 ?_
   refine zrt ?_
   refine ResQ_1 rfl hcl trivial (Ret_of ?_)
   refine bool_of ?_
   by_cases hd : digs n.digits n.digits.size
   ·have hd2 := hr0.2 hd; simp_all [NumMay] <;> omega
   ·have hd2 := mt hr0.1 hd; simp_all [NumMay] <;> omega
 ·(try rw [h1]); replace h1 := zcl h1
  have hpos := ba_pos h1
  refine AWp_skip ?_
  refine AWp_seq ?_
  refine AWp_seq ?_
  refine AWp_drawL #[0, 1, 3, 7, 15, 31, 63, 127, 255, 511, 1023, 2047, 4095, 8191, 16383, 32767, 65535, 131071, 32767, 294911, 819199, 2097151, 4194303] Tryd.mixed (by decide +kernel) (by decide +kernel) ?_
  refine zd1 ?_
  refine zp1 ?_
  refine zd3 ?_
  refine zspr 18 rfl (fun h3 => ?_) fun h3 => ?_
  ·rw [h3]; replace h3 := zcl h3
   refine zd10 ?_
   refine zd8 ?_
   refine RP.nil rfl ?_
   refine AWp_condT rfl ?_
   refine zw1 ?_
   refine zrt ?_
   refine ResQ_1 rfl hcl trivial (Ret_of ?_)
   refine bool_of ?_
   by_cases hd : digs n.digits n.digits.size
   ·have hd2 := hr0.2 hd; simp_all [NumMay] <;> omega
   ·have hd2 := mt hr0.1 hd; simp_all [NumMay] <;> omega
  ·rw [h3]; replace h3 := zcl h3
   refine zd1 ?_
   refine zp1 ?_
   refine zd3 ?_
   refine zspr 23 rfl (fun h4 => ?_) fun h4 => ?_
   ·rw [h4]; replace h4 := zcl h4
    refine zd10 ?_
    refine zd3 ?_
    refine RP.nil rfl ?_
    refine AWp_condT rfl ?_
    refine zw1 ?_
    refine zrt ?_
    refine ResQ_1 rfl hcl trivial (Ret_of ?_)
    refine bool_of ?_
    by_cases hd : digs n.digits n.digits.size
    ·have hd2 := hr0.2 hd; simp_all [NumMay] <;> omega
    ·have hd2 := mt hr0.1 hd; simp_all [NumMay] <;> omega
   ·rw [h4]; replace h4 := zcl h4
    refine zd1 ?_
    refine zp1 ?_
    refine zd3 ?_
    refine zspr 28 rfl (fun h5 => ?_) fun h5 => ?_
    ·rw [h5]; replace h5 := zcl h5
     refine zd8 ?_
     refine RP.nil rfl ?_
     refine AWp_condT rfl ?_
     refine zw1 ?_
     refine zrt ?_
     refine ResQ_1 rfl hcl trivial (Ret_of ?_)
     refine bool_of ?_
     by_cases hd : digs n.digits n.digits.size
     ·have hd2 := hr0.2 hd; simp_all [NumMay] <;> omega
     ·have hd2 := mt hr0.1 hd; simp_all [NumMay] <;> omega
    ·rw [h5]; replace h5 := zcl h5
     refine zd1 ?_
     refine zp1 ?_
     refine yPG rfl rfl rfl (zc rfl (run_c _ _ _ hn (by omega) (by omega))) (trivial) ?_
     refine zd1 ?_
     refine zp1 ?_
     refine zd3 ?_
     refine RP.nil rfl ?_
     refine AWp_cond rfl (fun h6 => ?_) (fun h6 => ?_)
     ·(try rw [h6]); replace h6 := zcl h6
      refine zw1 ?_
      refine zrt ?_
      refine ResQ_1 rfl hcl trivial (Ret_of ?_)
      refine bool_of ?_
      by_cases hd : digs n.digits n.digits.size
      ·have hd2 := hr0.2 hd; simp_all [NumMay] <;> omega
      ·have hd2 := mt hr0.1 hd; simp_all [NumMay] <;> omega
     ·(try rw [h6]); replace h6 := zcl h6
      refine AWp_skip ?_
      refine zu5 ?_
      refine zsp 41 rfl (fun h7 => ?_) fun h7 => ?_
      ·rw [h7]; replace h7 := zcl h7
       refine zg10 ?_
       refine zon ?_
       refine zrt ?_
       refine ResQ_1 rfl hcl trivial (Ret_of ?_)
       refine bool_of ?_
       by_cases hd : digs n.digits n.digits.size
       ·have hd2 := hr0.2 hd; simp_all [NumMay] <;> omega
       ·have hd2 := mt hr0.1 hd; simp_all [NumMay] <;> omega
      ·rw [h7]; replace h7 := zcl h7
       refine zg10 ?_
       refine zon ?_
       refine zrt ?_
       refine ResQ_1 rfl hcl trivial (Ret_of ?_)
       refine bool_of ?_
       by_cases hd : digs n.digits n.digits.size
       ·have hd2 := hr0.2 hd; simp_all [NumMay] <;> omega
       ·have hd2 := mt hr0.1 hd; simp_all [NumMay] <;> omega


end Lg
namespace Lg
open Go Go.RowKit
variable [GLay] {P : Program} {N : Nat} {σ l : List AO} {e : Env} {Q : QA} {o : Oper}
theorem spl_set (v : AV) : ∀ (i : Nat) (cs : List AV), i < cs.length → spl i cs [v] = some (cs.set i v)
  | 0, [], h => by simp at h
  | 0, c :: cs, _ => by simp [spl, putAt]
  | i + 1, [], h => by simp at h
  | i + 1, c :: cs, h => by simp [spl, spl_set v i cs (by simpa using h)]
theorem ldv_el {j g sz off i : Nat} {cs : List AV} {v : AV} (hl : l[j]? = some (.arr sz g cs)) (hv : cs[i]? = some v) (ho : off = i) : ldv (σ ++ l) 1 (.pel (σ.length + j) g off) = some [v] := by
  subst ho
  simp only [ldv, get_own, hl, if_true]
  have hi := (List.getElem?_eq_some_iff.1 hv).1
  rw [List.drop_eq_getElem_cons hi, (List.getElem?_eq_some_iff.1 hv).2]
  rfl
end Lg
namespace Lg
open Go
theorem pcs_len (c : UInt8) : ∀ l : BL, (pcs c l).length ≤ l.length + 1
  | [] => by simp [pcs]
  | b :: l => by
    have ih := pcs_len c l
    unfold pcs
    split
    · simp only [List.length_cons]; omega
    · split
      · simp
      · rename_i p r h; rw [h] at ih; simp only [List.length_cons] at ih ⊢; omega
end Lg
namespace Lg
open Go
end Lg
namespace Lg
open Go
theorem pune_len (l : BL) (h : okP l) : (pune l).length ≤ l.length := by
  refine okP_ind (M := fun l => (pune l).length ≤ l.length) (Nat.le_refl _) ?_ ?_ ?_ l.length l (Nat.le_refl _) h
  · intro r _ ih; show (126 :: pune r).length ≤ _; simp only [List.length_cons]; omega
  · intro r _ ih; show (47 :: pune r).length ≤ _; simp only [List.length_cons]; omega
  · intro b r hb _ ih; rw [une_c hb]; simp only [List.length_cons]; omega
variable [GLay] {P : Program} {σ : List AO}
end Lg
namespace Lg
open Go
theorem pcs_split (c : UInt8) : ∀ l : BL, ∃ ps p, pcs c l = ps ++ [p]
  | [] => ⟨[], [], rfl⟩
  | b :: l => by
    obtain ⟨ps, p, h⟩ := pcs_split c l
    unfold pcs
    split
    · exact ⟨[] :: ps, p, by rw [h]; rfl⟩
    · rw [h]
      cases ps with
      | nil => exact ⟨[], b :: p, rfl⟩
      | cons q r => exact ⟨(b :: q) :: r, p, rfl⟩
theorem pcs_snoc {b c : UInt8} (hb : ¬ b = c) : ∀ {l : BL} {ps : List BL} {p : BL}, pcs c l = ps ++ [p] → pcs c (l ++ [b]) = ps ++ [p ++ [b]]
  | [], ps, p, h => by
    have : ps = [] ∧ p = [] := by
      rw [pcs] at h
      cases ps with
      | nil => simp at h; exact ⟨rfl, h⟩
      | cons q r => simp at h
    obtain ⟨rfl, rfl⟩ := this
    simp [pcs, hb]
  | a :: l, ps, p, h => by
    obtain ⟨qs, q, hq⟩ := pcs_split c l
    have ih := pcs_snoc hb hq
    rw [List.cons_append, pcs, ih]
    rw [pcs, hq] at h
    split at h
    · rename_i e
      rw [if_pos e]
      have h2 : ([] :: qs) ++ [q] = ps ++ [p] := h
      obtain ⟨h3, h4⟩ := List.append_inj' h2 rfl
      subst h3; simp at h4; subst h4; rfl
    · rename_i e
      rw [if_neg e]
      cases qs with
      | nil =>
        have h2 : [] ++ [a :: q] = ps ++ [p] := h
        obtain ⟨h3, h4⟩ := List.append_inj' h2 rfl
        subst h3; simp at h4; subst h4; rfl
      | cons r rs =>
        have h2 : ((a :: r) :: rs) ++ [q] = ps ++ [p] := h
        obtain ⟨h3, h4⟩ := List.append_inj' h2 rfl
        subst h3; simp at h4; subst h4; rfl
theorem pune_app (m : BL) : ∀ (n : Nat) (l : BL), l.length ≤ n → okP l → pune (l ++ m) = pune l ++ pune m :=
  okP_ind (M := fun l => pune (l ++ m) = pune l ++ pune m) rfl
    (fun r _ ih => by simp only [List.cons_append, pune, ih]) (fun r _ ih => by simp only [List.cons_append, pune, ih])
    (fun b r hb _ ih => by rw [List.cons_append, une_c hb, une_c hb, ih]; rfl)
def nms (u : BL) : List BL := (pcs 47 u).map pune
theorem nms_split (u : BL) : ∃ ps p, nms u = ps ++ [p] := by
  obtain ⟨ps, p, h⟩ := pcs_split 47 u
  exact ⟨ps.map pune, pune p, by simp [nms, h]⟩
theorem nms_e {u : BL} {ps : List BL} {p : BL} {b : UInt8} (h : nms u = ps ++ [p]) (hu : okP u) (hb : b = 48 ∨ b = 49) : nms (u ++ [126, b]) = ps ++ [p ++ [if b = 49 then 47 else 126]] := by
  obtain ⟨qs, q, hq⟩ := pcs_split 47 u
  have hok := pcs_ok u.length u (Nat.le_refl _) hu q (by rw [hq]; simp)
  have h1 := pcs_snoc (b := 126) (c := 47) (by decide) hq
  have h2 := pcs_snoc (b := b) (c := 47) (by rcases hb with rfl | rfl <;> decide) h1
  rw [show u ++ [126, b] = u ++ [126] ++ [b] by simp]
  unfold nms at h ⊢
  rw [h2]
  rw [hq, List.map_append] at h
  obtain ⟨h3, h4⟩ := List.append_inj' h rfl
  simp at h4; subst h3; subst h4
  rw [List.map_append, List.map_cons, List.map_nil, show q ++ [126] ++ [b] = q ++ [126, b] by simp, pune_app [126, b] _ q (Nat.le_refl _) hok.1]
  rcases hb with rfl | rfl <;> rfl
theorem okP_snoc2 {u : BL} {b : UInt8} (h : okP u) (hb : b = 48 ∨ b = 49) : okP (u ++ [126, b]) := fun i hi => by
  rcases Nat.lt_trichotomy i u.length with h1 | h1 | h1
  · rw [List.getElem?_append_left h1] at hi
    have := h i hi
    have h2 : i + 1 < u.length := by
      rcases this with h | h <;> exact (List.getElem?_eq_some_iff.1 h).1
    rwa [List.getElem?_append_left h2]
  · subst h1
    rw [List.getElem?_append_right (by omega), Nat.add_sub_cancel_left]
    rcases hb with rfl | rfl <;> simp
  · rw [List.getElem?_append_right (by omega)] at hi
    obtain ⟨k, hk⟩ : ∃ k, i - u.length = k + 1 := ⟨i - u.length - 1, by omega⟩
    rw [hk] at hi
    cases k with
    | zero => simp at hi; rcases hb with rfl | rfl <;> cases hi
    | succ k => simp at hi
theorem take_b {s : BL} {i : Nat} {b : UInt8} (h : s[i]? = some b) (hi : 1 ≤ i) : (s.take (i + 1)).drop 1 = (s.take i).drop 1 ++ [b] := by
  rw [List.take_add_one, h]
  have hl := (List.getElem?_eq_some_iff.1 h).1
  rw [List.drop_append_of_le_length (by rw [List.length_take]; omega)]; rfl
theorem take_2 {s : BL} {i : Nat} {a b : UInt8} (h : s[i]? = some a) (h2 : s[i + 1]? = some b) (hi : 1 ≤ i) : (s.take (i + 1 + 1)).drop 1 = (s.take i).drop 1 ++ [a, b] := by
  rw [take_b h2 (by omega), take_b h hi]; simp
structure PAt (s : BL) (i : Nat) (L : List BL) : Prop where
  le : i ≤ s.length
  z : i = 0 → L = []
  ok : okP ((s.take i).drop 1)
  nm : 1 ≤ i → L = nms ((s.take i).drop 1)
  bad : ∀ j, j < i → tbad s j = false
theorem PAt.zero (s : BL) : PAt s 0 [] := ⟨Nat.zero_le _, fun _ => rfl, okP_nil, fun h => absurd h (by omega), fun j h => absurd h (by omega)⟩
theorem tb_no {s : BL} {i : Nat} {b : UInt8} (h : s[i]? = some b) (hb : ¬ b = 126) : tbad s i = false := by
  unfold tbad; rw [decide_eq_false (by rw [h]; simpa using hb)]; rfl
theorem PAt.esc {s : BL} {i : Nat} {L ps : List BL} {q : BL} {b : UInt8} (p : PAt s i L) (hi : 1 ≤ i) (hL : L = ps ++ [q]) (h : s[i]? = some 126) (h2 : s[i + 1]? = some b) (hb : b = 48 ∨ b = 49) : PAt s (i + 1 + 1) (ps ++ [q ++ [if b = 49 then 47 else 126]]) where
  le := (List.getElem?_eq_some_iff.1 h2).1
  z := fun e => absurd e (by omega)
  ok := by rw [take_2 h h2 hi]; exact okP_snoc2 p.ok hb
  nm := fun _ => by rw [take_2 h h2 hi]; exact (nms_e ((p.nm hi).symm.trans hL) p.ok hb).symm
  bad := fun j hj => by
    by_cases e : j = i
    · subst e; unfold tbad; rw [h2]; rcases hb with rfl | rfl <;> simp
    · by_cases e2 : j = i + 1
      · subst e2; exact tb_no h2 (by rcases hb with rfl | rfl <;> decide)
      · exact p.bad j (by omega)
theorem PAt.done {s : BL} {L : List BL} (p : PAt s s.length L) (h0 : ¬ s = []) (h1 : s[0]? = some 47) : pE s = none ∧ pN s = L := by
  have hl : 1 ≤ s.length := List.length_pos_iff.2 h0
  have hE : pE s = none := pE_none h0 h1 p.bad
  refine ⟨hE, ?_⟩
  rw [p.nm hl]
  unfold pN; rw [if_neg h0, hE, List.take_length]; rfl
theorem PAt.last {s : BL} {i : Nat} {L : List BL} (p : PAt s i L) (hi : 1 ≤ i) : ∃ ps q, L = ps ++ [q] := by
  obtain ⟨ps, q, h⟩ := nms_split ((s.take i).drop 1)
  exact ⟨ps, q, (p.nm hi).trans h⟩
theorem PAt.len {s : BL} {i : Nat} {L : List BL} (p : PAt s i L) : L.length ≤ i + 1 := by
  by_cases h0 : i = 0
  · rw [p.z h0]; simp
  · rw [p.nm (by omega)]; unfold nms; rw [List.length_map]
    have := pcs_len 47 ((s.take i).drop 1)
    rw [List.length_drop, List.length_take] at this; omega
theorem PAt.el {s : BL} {i : Nat} {L : List BL} (p : PAt s i L) : ∀ x ∈ L, x.length ≤ i := by
  intro x hx
  by_cases h0 : i = 0
  · rw [p.z h0] at hx; cases hx
  · rw [p.nm (by omega)] at hx
    unfold nms at hx
    obtain ⟨y, hy, rfl⟩ := List.mem_map.1 hx
    have h1 := pcs_ok _ _ (Nat.le_refl _) p.ok y hy
    have := pune_len y h1.1
    have h2 := h1.2.2
    rw [List.length_drop, List.length_take] at h2; omega
end Lg
namespace Lg
open Go Go.RowKit
variable [GLay]
variable {P : Program} {N : Nat} {σ : List AO} {e : Env} {o : Oper} {p : Nat}
section
variable {T K E : TypeId} {a b c : Operand} {m : List (Int × AV)} {k : Int} {z : Value}
end
end Lg
namespace Lg
open Go Go.RowKit
variable [GLay]
variable {P : Program} {N : Nat} {e : Env} {σ l : List AO} {Q : QA} {ops : Array Oper} {o : Oper}
theorem AWp_ghostInO {c : Code} (k i sz n : Nat) (hn : l.length = n) {bs : List AV} (hq : l[k]? = some (.box bs)) (hi : bs[i]? = some .nils) (h : AWp P N c e (σ ++ (l ++ [AO.arr sz 0 []]).set k (.box (bs.set i (.arr (σ.length + n) 0 sz 0 0)))) Q) : AWp P N c e (σ ++ l) Q :=
  AWp_ghostIn (σ.length + k) i sz (by rw [get_ownT rfl]; exact hq) hi (by
    have e1 : (σ ++ l).length = σ.length + n := by simp [hn]
    rw [e1, List.append_assoc, set_ownT rfl]; exact h)
theorem AWp_freezeInO {c : Code} (kq i kp gg sz len : Nat) {bs cs : List AV} (hq : l[kq]? = some (.box bs)) (hi : bs[i]? = some (.arr (σ.length + kp) gg sz 0 len)) (hσ : l[kp]? = some (.arr sz gg cs)) (es : List (List AV)) (hes : es.flatten = cs)
    (hel : ∀ r ∈ es, r.length = sz) (hlen : es.length = len) (hsz : sz ≠ 0) (k : AWp P N c e (σ ++ (l.set kp .dead).set kq (.box (bs.set i (.sl false sz es)))) Q) : AWp P N c e (σ ++ l) Q := by
  have hcl : cs.length = len * sz := by rw [← hes, flatten_len hel, hlen]
  refine AWp_freezeIn (σ.length + kq) i (σ.length + kp) gg sz 0 len (by rw [get_ownT rfl]; exact hq) hi (by rw [get_ownT rfl]; exact hσ) es ?_ hel hlen hsz ?_ (by rw [set_ownT rfl, set_ownT rfl]; exact k)
  · rw [Nat.zero_mul, List.drop_zero, ← hcl, List.take_length]; exact hes
  · rw [Nat.zero_add, hcl]; exact Nat.le_refl _
theorem ResQ_K {n0 : Nat} {ts : List Nat} {el : List (Nat × AV)} {v : AV} {R : Out → List AO → Prop} (m : Nat) (hm : n0 ≤ m) (h : resA ts ⟨[], el⟩ = v) (hc : closed m σ) (hv : v.lt m) (hR : R (.ret v) (σ.take m)) : ResQ n0 ts R .ret ⟨[], el⟩ σ :=
  ⟨rfl, m, hm, hc, by rw [h]; exact hv, by rw [h]; exact hR⟩
end Lg
namespace Lg
open Go
structure JOp where
  op : Int
  pa : List BL
  fr : List BL
  v : JV
def ocells (o : JOp) : List AV := .int .i64 o.op :: .sl false 1 (srow o.pa) :: .sl false 1 (srow o.fr) :: vcells o.v
def orows (l : List JOp) : List (List AV) := l.map ocells
section
variable [GLay]
@[simp] theorem ocells_lt (n : Nat) (o : JOp) : AV.ltL n (ocells o) := by
  rw [ocells]; exact ⟨trivial, srow_lt n _, srow_lt n _, vcells_lt n _⟩
@[simp] theorem orows_lt (n : Nat) (l : List JOp) : AV.ltLL n (orows l) := by
  rw [AV.ltLL_iff]; intro e he; simp [orows] at he; obtain ⟨x, _, rfl⟩ := he; exact ocells_lt n x
@[simp] theorem oflat_lt (n : Nat) (l : List JOp) : AV.ltL n (orows l).flatten := by
  rw [AV.ltL_iff]; intro a ha
  obtain ⟨e, he, h⟩ := List.mem_flatten.1 ha
  exact (AV.ltL_iff _ _).1 ((AV.ltLL_iff _ _).1 (orows_lt n l) e he) a h
end
section
variable [GLay]
end
end Lg
namespace Lg
open Go
end Lg
namespace Lg
open Go Go.RowKit
variable [GLay] {P : Program} {N : Nat} {σ l : List AO} {e : Env} {Q : QA} {o : Oper}
end Lg
namespace Lg
open Go
end Lg
namespace Lg
open Go
section
variable [GLay]
end
end Lg
namespace Lg
open Go
def DD (r : RS) (x : JV × RS) : Prop := r.deep ≤ 32 → x.2.bad = 0 → jdepth x.1 + r.deep ≤ 32
section
variable [GLay]
variable {rv : RS → JV × RS} {s : ByteArray} (hs : s.size ≤ 100000) (hrv : ∀ r, ROK s r → VR s r (rv r)) (hd : ∀ r, ROK s r → DD r (rv r))
include hrv hd
include hs
end
section
variable [GLay]
end
section
variable [GLay]
theorem may_nol {v : JV} (h : jmay v) (hk : ¬ v.kind = 4) : v.l = [] := by
  have hb := ((jmay_eq v).1 h).1.2.2.1
  unfold jbare at hb
  simp only [hk, Bool.and_eq_true, Bool.or_eq_true, decide_eq_true_eq, or_false] at hb
  exact List.length_eq_zero_iff.1 hb.2.1
theorem may_nom {v : JV} (h : jmay v) (hk : ¬ v.kind = 5) : v.m = [] := by
  have hb := ((jmay_eq v).1 h).1.2.2.1
  unfold jbare at hb
  simp only [hk, Bool.and_eq_true, Bool.or_eq_true, decide_eq_true_eq, or_false] at hb
  exact List.length_eq_zero_iff.1 hb.2.2
theorem may_get {v : JV} (h : jmay v) {i : Nat} {x : JV} (hx : v.l[i]? = some x) : jmay x := ((jmay_eq v).1 h).2.2 i x hx
theorem may_mget {v : JV} (h : jmay v) {i : Nat} {q : ByteArray × JV} (hq : v.m[i]? = some q) : jmay q.2 :=
  (((jmay_eq v).1 h).2.1 i q (List.getElem?_eq_some_iff.1 hq).1 hq).2
end
end Lg
namespace Lg
open Go
section
variable [GLay]
structure OB (o : JOp) : Prop where
  jb : jb o.v
  pa : o.pa.length ≤ 2000000
  fr : o.fr.length ≤ 2000000
end
end Lg
namespace Lg
open Go
end Lg
namespace Lg
open Go
end Lg
namespace Lg
open Go
end Lg
namespace Lg
open Go
structure JOk (n : JNum) (d : BL) : Prop where
  dig : n.digits = ba d
  ne : d ≠ []
  ad : aD d
  hd : d.head? ≠ some 48
  lst : d.getLast? ≠ some 48
  len : d.length ≤ 60
  lo : -1000 ≤ n.exp
  hi : n.exp ≤ 1000
def JMay (n : JNum) : Prop := n = {} ∨ ∃ d, JOk n d
theorem JOk.nil {n : JNum} {d : BL} (h : JOk n d) : ¬ n.digits = ⟨#[]⟩ := fun e => h.ne (ba_nil.1 (h.dig ▸ e))
theorem JOk.size {n : JNum} {d : BL} (h : JOk n d) : n.digits.size = d.length := by rw [h.dig, ba_size]
theorem JMay.bnd {n : JNum} (h : JMay n) : n.digits.size ≤ 1000000 ∧ -1000000 ≤ n.exp ∧ n.exp ≤ 1000000 := by
  rcases h with rfl | ⟨d, h⟩
  · exact ⟨by decide, by decide, by decide⟩
  · have := h.size; have := h.len; have := h.lo; have := h.hi
    omega
end Lg
namespace Lg
open Go
theorem valL_snoc (l : BL) (c : UInt8) (v : Int) : valL v (l ++ [c]) = 10 * valL v l + (c.toNat : Int) - 48 := by
  unfold valL; rw [List.foldl_append]; rfl
theorem dd_facts (u : Nat) : aD (Lib.decDigits u) ∧ valL 0 (Lib.decDigits u) = u ∧ Lib.decDigits u ≠ [] ∧ (0 < u → (Lib.decDigits u).head? ≠ some 48) := by
  induction u using Nat.strongRecOn with
  | ind u ih =>
    by_cases h : u < 10
    · rw [dd_small h]
      have e : (UInt8.ofNat (48 + u)).toNat = 48 + u := by rw [UInt8.toNat_ofNat']; omega
      refine ⟨fun b hb => ?_, ?_, by simp, ?_⟩
      · have : b = UInt8.ofNat (48 + u) := by simpa using hb
        subst this; rw [isD_iff, e]; omega
      · show 10 * (0 : Int) + ((UInt8.ofNat (48 + u)).toNat : Int) - 48 = u
        rw [e]; omega
      · intro hu hh
        have : UInt8.ofNat (48 + u) = 48 := by simpa using hh
        have := congrArg UInt8.toNat this
        rw [e] at this
        have e48 : (48 : UInt8).toNat = 48 := rfl
        omega
    · rw [dd_big h]
      obtain ⟨h1, h2, h3, h4⟩ := ih (u / 10) (by omega)
      have e : (UInt8.ofNat (48 + u % 10)).toNat = 48 + u % 10 := by rw [UInt8.toNat_ofNat']; omega
      refine ⟨fun b hb => ?_, ?_, by simp, ?_⟩
      · rcases List.mem_append.1 hb with hb | hb
        · exact h1 b hb
        · have : b = UInt8.ofNat (48 + u % 10) := by simpa using hb
          subst this; rw [isD_iff, e]; omega
      · rw [valL_snoc, h2, e]; omega
      · intro hu
        have hd0 : (Lib.decDigits (u / 10) ++ [UInt8.ofNat (48 + u % 10)]).head? = (Lib.decDigits (u / 10)).head? := by
          cases hq : Lib.decDigits (u / 10) with
          | nil => exact absurd hq h3
          | cons => rfl
        rw [hd0]
        exact h4 (by omega)
theorem itoa_pos {n : Int} (h : 0 ≤ n) : Lib.itoa n = Lib.decDigits n.toNat := by unfold Lib.itoa; rw [if_neg (by omega)]
end Lg
namespace Lg
open Go
def jixB (nm : BL) : Prop := nm = [] ∨ ¬ runl (ba nm) 0 = nm.length ∨ (1 < nm.length ∧ (bat (ba nm) 0).toNat = 48) ∨ 18 < nm.length
instance (nm : BL) : Decidable (jixB nm) := by unfold jixB; infer_instance
end Lg
namespace Lg
open Go
theorem aD_run {l : BL} : aD l ↔ runl (ba l) 0 = l.length := by
  rw [runl_ba]
  constructor
  · intro h
    congr 1
    induction l with
    | nil => rfl
    | cons a r ih =>
      rw [List.takeWhile_cons, if_pos (h a (List.mem_cons_self ..)), ih (fun b hb => h b (List.mem_cons_of_mem _ hb))]
  · exact aD_of_len
end Lg
namespace Lg
open Go
variable {op : Int} {x v : JV} {nm : BL} {r : List BL}
variable {last : Bool} {k : Nat}
section
variable {y a : JV} {l : List JV} {i : Nat}
end
end Lg
namespace Lg
end Lg
namespace Lg
open Go
abbrev BJ := ByteArray × JV
variable {last : Bool} {op : Int} {key : ByteArray} {x : JV} {f : JV → JV} {m : List BJ} {i : Nat} {put : Bool} {q : BJ}
end Lg
namespace Lg
end Lg
namespace Lg
open Go
section
variable [GLay]
end
end Lg
namespace Lg
open Go
end Lg
namespace Lg
open Go
end Lg
set_option maxRecDepth 20000
set_option maxHeartbeats 4000000
namespace Lg
open Go Go.Proofs Go.RowKit
variable [GLay] 
theorem rpath_c (f : Bool) (l : List BL) (σ : List AO) (hl : l.length ≤ 2000000) (hx : ∀ x ∈ l, x.length ≤ 1000000) : ACalls Tryd.prog 21 [.sl f 1 (srow l)] σ (Ret (.str (ba (shw l))) σ) := by
 refine ACalls_body Tryd.func21 rfl Tryd.ntmps21 (res1 Tryd.results21) (Nat.le_of_ble_eq_true rfl) (fun hcl hal => ?_)
 have hrl := srow_len l
 refine zw1 ?_
 refine zw1 ?_
 refine AWp_seq ?_
 refine zw1 ?_
 refine AWp_block ?_
 -- loop 0 LIVE 0:param 2:assign 3:assign 4:assign
 refine AWp_loop (ι := Nat) (fun i => i ≤ l.length) (fun i => ⟨[], [(0, .sl f 1 (srow l)), (2, .str ⟨#[]⟩), (3, .str (ba (shw (l.take i)))), (4, .int .i64 (i : Int))]⟩) (fun i => σ) (fun i => l.length - i) (0) (Nat.zero_le _) ?_ rfl (fun i hi => ?_)
 ·exact ⟨rfl, rfl, rfl, rfl, rfl, trivial⟩
 have hsl := shw_len 1000000 (l.take i) (fun x h => hx x (List.mem_of_mem_take h))
 have htl : (l.take i).length ≤ 2000000 := by rw [List.length_take]; omega
 have hsl2 : (shw (l.take i)).length ≤ 2000000 * 2000001 := Nat.le_trans hsl (Nat.mul_le_mul htl (Nat.le_refl _))
 refine AWp_seq ?_
 refine zw4 ?_
 refine AWp_cond rfl (fun h1 => ?_) (fun h1 => ?_)
 ·(try rw [h1]); replace h1 := zcl h1
  obtain ⟨nm, hxi⟩ : ∃ nm, l[i]? = some nm := ⟨_, List.getElem?_eq_getElem (show i < l.length by omega)⟩
  have hxr := srow_get hxi
  have hxl := hx nm (List.mem_of_getElem? hxi)
  have z1 : (ByteArray.mk #[47]).size = 1 := rfl
  have z3 : (ba (shw (l.take i))).size = (shw (l.take i)).length := ba_size _
  refine AWp_skip ?_
  refine AWp_seq ?_
  refine AWp_block ?_
  refine zw3 ?_
  refine zw1 ?_
  refine AWp_block ?_
  -- loop 1 LIVE 0:param 2:assign 3:assign 4:assign 5:assign
  refine AWp_loop (ι := Nat) (fun j => j ≤ nm.length) (fun j => ⟨[], [(0, .sl f 1 (srow l)), (2, .str ⟨#[]⟩), (3, .str (ba (shw (l.take i) ++ 47 :: pesc (nm.take j)))), (4, .int .i64 (i : Int)), (5, .int .i64 (j : Int))]⟩) (fun j => σ) (fun j => nm.length - j) (0) (Nat.zero_le _) ?_ rfl (fun j hj => ?_)
  ·refine ⟨rfl, rfl, rfl, ?_, rfl, rfl, trivial⟩
   rw [show (shw (l.take i) ++ 47 :: pesc (nm.take 0) : BL) = shw (l.take i) ++ [47] by simp [pesc], ← ba_app]; rfl
  refine AWp_seq ?_
  refine zu3 ?_
  refine zt rfl (op_indexAddr rfl Tryd.underlying65 Tryd.sizeOf9 rfl rfl (by omega) (hxr)) ?_
  refine zv3 ?_
  refine AWp_cond rfl (fun h2 => ?_) (fun h2 => ?_)
  ·(try rw [h2]); replace h2 := zcl h2
   have hbn := ba_size nm
   obtain ⟨c, hc⟩ : ∃ c, nm[j]? = some c := ⟨_, List.getElem?_eq_getElem (show j < nm.length by omega)⟩
   have hbc : bat (ba nm) (j : Int).toNat = c := by rw [Int.toNat_natCast, bat_ba, List.getD_eq_getElem?_getD, hc]; rfl
   have hbj : bat (ba nm) j = c := by rw [← hbc, Int.toNat_natCast]
   have he1 := esc_len (nm.take j)
   have htj : (nm.take j).length ≤ 1000000 := by rw [List.length_take]; omega
   have z2 : (ba (shw (l.take i) ++ 47 :: pesc (nm.take j))).size = (shw (l.take i)).length + (pesc (nm.take j)).length + 1 := by rw [ba_size, List.length_append, List.length_cons]; omega
   have z4 : (ByteArray.mk #[126, 48]).size = 2 := rfl
   have z5 : (ByteArray.mk #[126, 49]).size = 2 := rfl
   have z6 : ∀ b : UInt8, (ByteArray.mk #[b]).size = 1 := fun _ => rfl
   refine AWp_skip ?_
   refine AWp_seq ?_
   refine AWp_block ?_
   refine zu2 ?_
   refine zt rfl (op_indexAddr rfl Tryd.underlying65 Tryd.sizeOf9 rfl rfl (by omega) (hxr)) ?_
   refine zv3 ?_
   refine AWp_block ?_
   refine zw2 ?_
   refine AWp_cond rfl (fun h3 => ?_) (fun h3 => ?_)
   ·(try rw [h3]); replace h3 := zcl h3
    have h3 : c = 126 := by rw [hbj] at h3; exact UInt8.toNat_inj.1 (Int.ofNat.inj h3)
    refine AWp_regL ?_
    refine zv3 ?_
    refine AWp_regL ?_
    refine zv3 ?_
    have hes : pesc (nm.take (j + 1)) = pesc (nm.take j) ++ [126, 48] := by rw [ltake_succ hc]; simp [pesc, pesc1, h3]
    refine ⟨j + 1, σ.length, by omega, by omega, Nat.le_refl _, ⟨rfl, rfl, rfl, ?_, rfl, rfl, trivial⟩, hcl, by simp [ltE, AV.lt], List.take_length⟩
    rw [hes, show (shw (l.take i) ++ 47 :: (pesc (nm.take j) ++ [126, 48]) : BL) = (shw (l.take i) ++ 47 :: pesc (nm.take j)) ++ [126, 48] by simp, ← ba_app]; rfl
   ·(try rw [h3]); replace h3 := zcl h3
    have h3 : ¬ c = 126 := fun e => by subst e; rw [hbj] at h3; exact h3 rfl
    refine zw2 ?_
    refine AWp_cond rfl (fun h4 => ?_) (fun h4 => ?_)
    ·(try rw [h4]); replace h4 := zcl h4
     have h4 : c = 47 := by rw [hbj] at h4; exact UInt8.toNat_inj.1 (Int.ofNat.inj h4)
     refine AWp_regL ?_
     refine zv3 ?_
     refine AWp_regL ?_
     refine zv3 ?_
     have hes : pesc (nm.take (j + 1)) = pesc (nm.take j) ++ [126, 49] := by rw [ltake_succ hc]; simp [pesc, pesc1, h3, h4]
     refine ⟨j + 1, σ.length, by omega, by omega, Nat.le_refl _, ⟨rfl, rfl, rfl, ?_, rfl, rfl, trivial⟩, hcl, by simp [ltE, AV.lt], List.take_length⟩
     rw [hes, show (shw (l.take i) ++ 47 :: (pesc (nm.take j) ++ [126, 49]) : BL) = (shw (l.take i) ++ 47 :: pesc (nm.take j)) ++ [126, 49] by simp, ← ba_app]; rfl
    ·(try rw [h4]); replace h4 := zcl h4
     have h4 : ¬ c = 47 := fun e => by subst e; rw [hbj] at h4; exact h4 rfl
     refine AWp_regL ?_
     refine zg3 ?_
     refine zt rfl (op_indexAddr rfl Tryd.underlying65 Tryd.sizeOf9 rfl rfl (by omega) (hxr)) ?_
     refine zg3 ?_
     refine zt rfl (op_buildSlice [[_]] rfl Tryd.underlying87 Tryd.sizeOf5 Tryd.zeroValue5 rfl (by decide) (by decide) rfl rfl rfl rfl rfl) ?_
     refine zt rfl (op_bytesStr (b := ⟨#[bat (ba nm) (j : Int).toNat]⟩) (m := 1) rfl Tryd.underlying87 Tryd.underlying5 Tryd.underlying9 rfl rfl rfl) ?_
     rw [hbc]
     have z7 := z6 c
     refine zv2 ?_
     refine AWp_regL ?_
     refine zv3 ?_
     have hes : pesc (nm.take (j + 1)) = pesc (nm.take j) ++ [c] := by rw [ltake_succ hc]; simp [pesc, pesc1, h3, h4]
     refine ⟨j + 1, σ.length, by omega, by omega, Nat.le_refl _, ⟨rfl, rfl, rfl, ?_, rfl, rfl, trivial⟩, hcl, by simp [ltE, AV.lt], List.take_length⟩
     rw [hes, show (shw (l.take i) ++ 47 :: (pesc (nm.take j) ++ [c]) : BL) = (shw (l.take i) ++ 47 :: pesc (nm.take j)) ++ [c] by simp, ← ba_app]; rfl
  ·(try rw [h2]); replace h2 := zcl h2
   have hbn := ba_size nm
   have hje : j = nm.length := by omega
   subst hje
   rw [List.take_length]
   refine AWp_exit ?_
   refine AWp_regL ?_
   refine zv3 ?_
   refine ⟨i + 1, σ.length, by omega, by omega, Nat.le_refl _, ⟨rfl, rfl, rfl, ?_, rfl, trivial⟩, hcl, by simp [ltE, AV.lt], List.take_length⟩
   rw [ltake_succ hxi, shw_snoc]; rfl
 ·(try rw [h1]); replace h1 := zcl h1
  have hie : i = l.length := by omega
  subst hie
  rw [List.take_length]
  refine AWp_exit ?_
  refine zw2 ?_
  refine zrt ?_
  exact ResQ_10 rfl hcl trivial (Ret_of rfl)
end Lg
set_option maxRecDepth 20000
set_option maxHeartbeats 4000000
namespace Lg
open Go Go.Proofs Go.RowKit
variable [GLay] 




theorem ixs_c (l : List ByteArray) (s : ByteArray) (f : Bool) (σ : List AO) (hl : l.length ≤ 1000000000) : ACalls Tryd.prog 63 [.sl f 1 (l.map fun x => [AV.str x]), .str s] σ (fun o σ' => σ' = σ ∧ ∃ n : Int, o = .ret (.int .i64 n) ∧ ((l.any (fun t => decide (s = t)) = true ∧ 0 ≤ n) ∨ (l.any (fun t => decide (s = t)) = false ∧ n = -1))) := by
 refine ACalls_body Tryd.func63 rfl Tryd.ntmps63 (res1 Tryd.results63) (Nat.le_of_ble_eq_true rfl) (fun hcl hal => ?_)
 refine zw1 ?_
 refine AWp_seq ?_
 refine zw3 ?_
 refine AWp_block ?_
 -- loop 0 LIVE 0:param 1:param 4:assign 7:call 8:move
 refine AWp_loop (ι := Nat) (fun i => i ≤ l.length ∧ ∀ (j : Nat) x, j < i → l[j]? = some x → ¬ s = x) (fun i => ⟨[], [(0, .sl f 1 (l.map fun x => [AV.str x])), (1, .str s), (7, .int .i64 (l.length : Int)), (8, .int .i64 (i : Int))]⟩) (fun i => σ) (fun i => l.length - i) (0) (⟨Nat.zero_le _, fun j x hj => absurd hj (by omega)⟩) ?_ rfl (fun i hi => ?_)
 ·exact ⟨rfl, rfl, rfl, congrArg (fun n : Nat => AV.int .i64 (n : Int)) (List.length_map _), rfl, trivial⟩
 obtain ⟨hi1, hi2⟩ := hi
 refine zw1 ?_
 refine AWp_seq ?_
 refine AWp_cond rfl (fun h1 => ?_) (fun h1 => ?_)
 ·(try rw [h1]); replace h1 := zcl h1
  obtain ⟨x, hx⟩ : ∃ x, l[i]? = some x := ⟨_, List.getElem?_eq_getElem (show i < l.length by omega)⟩
  have hxr : (l.map fun x => [AV.str x])[i]? = some [.str x] := by rw [List.getElem?_map, hx]; rfl
  refine AWp_skip ?_
  refine AWp_seq ?_
  refine AWp_block ?_
  refine zw2 ?_
  refine zu3 ?_
  refine zt rfl (op_indexAddr rfl Tryd.underlying65 Tryd.sizeOf9 rfl rfl (by omega) (hxr)) ?_
  refine zv2 ?_
  refine AWp_cond rfl (fun h2 => ?_) (fun h2 => ?_)
  ·(try rw [h2]); replace h2 := zcl h2
   refine zw2 ?_
   refine zrt ?_
   refine ResQ_10 rfl hcl trivial ⟨rfl, _, rfl, .inl ⟨List.any_eq_true.2 ⟨x, List.mem_of_getElem? hx, by simpa using h2⟩, by omega⟩⟩
  ·(try rw [h2]); replace h2 := zcl h2
   refine AWp_skip ?_
   refine AWp_regL ?_
   refine zv2 ?_
   refine ⟨i + 1, σ.length, ⟨by omega, fun j y hj hy => ?_⟩, by omega, Nat.le_refl _, ⟨rfl, rfl, rfl, rfl, rfl, trivial⟩, hcl, ?_, List.take_length⟩
   ·by_cases e : j = i
    ·subst e; rw [hx] at hy; cases hy; exact h2
    ·exact hi2 j y (by omega) hy
   ·simp [ltE, AV.lt, AV.ltL, ltLL_str]
 ·(try rw [h1]); replace h1 := zcl h1
  refine AWp_exit ?_
  refine zw1 ?_
  refine zrt ?_
  refine ResQ_10 rfl hcl trivial ⟨rfl, _, rfl, .inr ⟨?_, rfl⟩⟩
  rw [List.any_eq_false]
  intro x hx
  obtain ⟨j, hj⟩ := List.getElem?_of_mem hx
  have := hi2 j x (by have := (List.getElem?_eq_some_iff.1 hj).1; omega) hj
  simp [this]

theorem cts_c (l : List ByteArray) (s : ByteArray) (f : Bool) (σ : List AO) (hl : l.length ≤ 1000000000) : ACalls Tryd.prog 50 [.sl f 1 (l.map fun x => [AV.str x]), .str s] σ (Ret (.bool (l.any (fun t => decide (s = t)))) σ) := by
 refine ACalls_body Tryd.func50 rfl Tryd.ntmps50 (res1 Tryd.results50) (Nat.le_of_ble_eq_true rfl) (fun hcl hal => ?_)
 refine zw1 ?_
 refine zu2 ?_
 refine ztR rfl (zcR rfl (ixs_c l s f σ hl)) (fun v1_2 s1_2 hr => ?_) (fun v1_2 s1_2 hr => ?_)
 rotate_left
 ·obtain ⟨_, n, h, _⟩ := hr; cases h
 obtain ⟨rfl, n, h, hn⟩ := hr; cases h
 refine zv2 ?_
 refine zrt ?_
 refine ResQ_10 rfl hcl trivial (Ret_of ?_)
 congr 1
 rcases hn with ⟨h1, h2⟩ | ⟨h1, h2⟩
 ·rw [h1]; simp; exact h2
 ·rw [h1, h2]; rfl
end Lg
set_option maxRecDepth 20000
set_option maxHeartbeats 4000000
namespace Lg
open Go Go.Proofs Go.RowKit
variable [GLay] 

theorem rk8 {n : ByteArray} (h1 : ¬ n = ⟨#[105, 116, 101, 109, 115]⟩) (h2 : ¬ n = ⟨#[97, 100, 100, 105, 116, 105, 111, 110, 97, 108, 80, 114, 111, 112, 101, 114, 116, 105, 101, 115]⟩) : decide (n = ⟨#[110, 111, 116]⟩) = decide (rk n = 8) := by
  by_cases h3 : n = ⟨#[110, 111, 116]⟩
  · subst h3; decide +kernel
  · rw [decide_eq_false h3]
    symm
    rw [decide_eq_false_iff_not]
    intro hk
    unfold rk at hk
    cases h : kwL.find? fun q => decide (n = q.1) with
    | none => rw [h] at hk; simp at hk
    | some q =>
      rw [h] at hk
      have hm := List.mem_of_find?_eq_some h
      have hq := List.find?_some h
      simp only [decide_eq_true_eq] at hq
      simp only [Option.map_some, Option.getD_some] at hk
      have : ∀ q ∈ kwL, q.2 = 8 → q.1 = ⟨#[105, 116, 101, 109, 115]⟩ ∨ q.1 = ⟨#[97, 100, 100, 105, 116, 105, 111, 110, 97, 108, 80, 114, 111, 112, 101, 114, 116, 105, 101, 115]⟩ ∨ q.1 = ⟨#[110, 111, 116]⟩ := by decide +kernel
      rcases this q hm hk with e | e | e
      · exact h1 (hq.trans e)
      · exact h2 (hq.trans e)
      · exact h3 (hq.trans e)
end Lg
set_option maxRecDepth 20000
set_option maxHeartbeats 4000000
namespace Lg
open Go Go.Proofs Go.RowKit
variable [GLay] 
theorem rwhole_c (n : JNum) (σ : List AO) : ACalls Tryd.prog 45 [.agg (ncells n)] σ (Ret (.bool (rWhole n)) σ) := by
 refine ACalls_body Tryd.func45 rfl Tryd.ntmps45 (res1 Tryd.results45) (Nat.le_of_ble_eq_true rfl) (fun hcl hal => ?_)
 refine zw2 ?_
 refine zu4 ?_
 refine zsp 6 rfl (fun h1 => ?_) fun h1 => ?_
 ·rw [h1]; replace h1 := zcl h1
  refine zv5 ?_
  refine zrt ?_
  refine ResQ_1 rfl hcl trivial (Ret_of ?_)
  congr 1; unfold rWhole; simp [*]
 ·rw [h1]; replace h1 := zcl h1
  refine zv5 ?_
  refine zrt ?_
  refine ResQ_1 rfl hcl trivial (Ret_of ?_)
  congr 1; unfold rWhole; simp [*]

theorem rtxt_c (v : JV) (σ : List AO) (hl : v.l.length ≤ 1000000000) : ACalls Tryd.prog 43 [.agg (vcells v)] σ (Ret (.bool (txB v)) σ) := by
 refine ACalls_body Tryd.func43 rfl Tryd.ntmps43 (res1 Tryd.results43) (Nat.le_of_ble_eq_true rfl) (fun hcl hal => ?_)
 rw [vcells_eq v]
 have hll := lcells_length v.l
 refine zw2 ?_
 refine AWp_seq ?_
 refine zw1 ?_
 refine AWp_block ?_
 -- loop 0 LIVE 1:box 2:assign 3:assign
 refine AWp_loop (ι := Nat) (fun i => i ≤ v.l.length ∧ txI v.l i) (fun i => ⟨[], [(1, .ptr (σ.length + 0) 0), (3, .int .i64 (i : Int))]⟩) (fun i => σ ++ [_]) (fun i => v.l.length - i) (0) (⟨Nat.zero_le _, fun a x h => absurd h (by omega)⟩) ?_ rfl (fun i hi => ?_)
 ·exact ⟨rfl, rfl, rfl, trivial⟩
 obtain ⟨hi1, hi2⟩ := hi
 refine AWp_seq ?_
 refine zw5 ?_
 refine AWp_cond rfl (fun h1 => ?_) (fun h1 => ?_)
 ·(try rw [h1]); replace h1 := zcl h1
  obtain ⟨x, hx⟩ : ∃ x, v.l[i]? = some x := ⟨_, List.getElem?_eq_getElem (show i < v.l.length by omega)⟩
  refine AWp_skip ?_
  refine AWp_seq ?_
  refine AWp_block ?_
  refine AWp_seq ?_
  refine zw1 ?_
  refine AWp_block ?_
  -- loop 1 LIVE 1:box 2:assign 3:assign 4:assign
  refine AWp_loop (ι := Nat) (fun k => k ≤ i ∧ ∀ (b : Nat) y, b < k → v.l[b]? = some y → ¬ x.s = y.s) (fun k => ⟨[], [(1, .ptr (σ.length + 0) 0), (3, .int .i64 (i : Int)), (4, .int .i64 (k : Int))]⟩) (fun k => σ ++ [_]) (fun k => i - k) (0) (⟨Nat.zero_le _, fun b y h => absurd h (by omega)⟩) ?_ rfl (fun k hk => ?_)
  ·exact ⟨rfl, rfl, rfl, rfl, trivial⟩
  obtain ⟨hk1, hk2⟩ := hk
  refine AWp_seq ?_
  refine zw3 ?_
  refine AWp_cond rfl (fun h2 => ?_) (fun h2 => ?_)
  ·(try rw [h2]); replace h2 := zcl h2
   obtain ⟨y, hy⟩ : ∃ y, v.l[k]? = some y := ⟨_, List.getElem?_eq_getElem (show k < v.l.length by omega)⟩
   refine AWp_skip ?_
   refine AWp_seq ?_
   refine AWp_block ?_
   refine AWp_seq ?_
   refine AWp_drawL #[0, 1, 0, 7, 15, 31, 0, 64, 0, 448, 960, 1984, 4095] Tryd.mixed (by decide +kernel) (by decide +kernel) ?_
   refine zd1 ?_
   refine zp1 ?_
   refine zd2 ?_
   rw [vcells_eq x]
   refine zd1 ?_
   refine zp1 ?_
   refine zd1 ?_
   refine zp1 ?_
   refine zd2 ?_
   rw [vcells_eq y]
   refine zd1 ?_
   refine zp1 ?_
   refine zd1 ?_
   refine RP.nil rfl ?_
   refine AWp_cond rfl (fun h3 => ?_) (fun h3 => ?_)
   ·(try rw [h3]); replace h3 := zcl h3
    refine zw1 ?_
    refine zrt ?_
    refine ResQ_1 rfl hcl trivial (Ret_of ?_)
    congr 1; unfold txB; rw [pb_f (fun h => (h i x (by omega) hx).2 k y (by omega) hy h3)]; rfl
   ·(try rw [h3]); replace h3 := zcl h3
    refine AWp_skip ?_
    refine AWp_regL ?_
    refine zv3 ?_
    refine ⟨k + 1, σ.length + 1, ⟨by omega, fun b z hb hz => ?_⟩, by omega, by simp, ⟨rfl, rfl, rfl, rfl, trivial⟩, closed_own 1 hcl ?_, ?_, take_own 1⟩
    ·by_cases e : b = k
     ·subst e; rw [hy] at hz; cases hz; exact h3
     ·exact hk2 b z (by omega) hz
    ·simp [ownLt, AO.cells, AV.ltL, AV.lt]
    ·simp [ltE, AV.lt]
  ·(try rw [h2]); replace h2 := zcl h2
   refine AWp_exit ?_
   refine zu4 ?_
   rw [vcells_eq x]
   refine zv3 ?_
   refine AWp_cond rfl (fun h4 => ?_) (fun h4 => ?_)
   ·(try rw [h4]); replace h4 := zcl h4
    refine zw1 ?_
    refine zrt ?_
    refine ResQ_1 rfl hcl trivial (Ret_of ?_)
    congr 1; unfold txB; rw [pb_f (fun h => h4 (h i x (by omega) hx).1)]; rfl
   ·(try rw [h4]); replace h4 := zcl h4
    refine AWp_skip ?_
    refine AWp_regL ?_
    refine zv3 ?_
    refine ⟨i + 1, σ.length + 1, ⟨by omega, txI_step hi2 hx h4 (fun b y hb hy => hk2 b y (by omega) hy)⟩, by omega, by simp, ⟨rfl, rfl, rfl, trivial⟩, closed_own 1 hcl ?_, ?_, take_own 1⟩
    ·simp [ownLt, AO.cells, AV.ltL, AV.lt]
    ·simp [ltE, AV.lt]
 ·(try rw [h1]); replace h1 := zcl h1
  refine AWp_exit ?_
  refine zw4 ?_
  refine zrt ?_
  refine ResQ_1 rfl hcl trivial (Ret_of ?_)
  congr 1; unfold txB; rw [pb_t (show txI v.l v.l.length by rw [← show i = v.l.length by omega]; exact hi2)]; rfl

theorem rtyp_c (v : JV) (σ : List AO) : ACalls Tryd.prog 44 [.agg (vcells v)] σ (Ret (.bool (tyB v)) σ) := by
 refine ACalls_body Tryd.func44 rfl Tryd.ntmps44 (res1 Tryd.results44) (Nat.le_of_ble_eq_true rfl) (fun hcl hal => ?_)
 rw [vcells_eq v]
 have h7 : (tyL.map fun x => [AV.str x]).length = 7 := rfl
 have h7l : tyL.length = 7 := rfl
 refine zw2 ?_
 refine zsr ?_
 refine zt rfl (op_buildSlice [[_], [_], [_], [_], [_], [_], [_]] rfl Tryd.underlying65 Tryd.sizeOf9 Tryd.zeroValue9 rfl (by decide) (by decide) rfl rfl rfl rfl rfl) ?_
 refine zv1 ?_
 refine AWp_seq ?_
 refine zw1 ?_
 refine AWp_block ?_
 -- loop 0 LIVE 1:box 2:assign 3:assign 4:assign
 refine AWp_loop (ι := Nat) (fun i => i ≤ 7 ∧ ∀ (j : Nat) t, j < i → tyL[j]? = some t → ¬ (v.kind = 3 ∧ v.s = t)) (fun i => ⟨[], [(1, .ptr (σ.length + 0) 0), (3, .sl true 1 (tyL.map fun x => [AV.str x])), (4, .int .i64 (i : Int))]⟩) (fun i => σ ++ [_]) (fun i => 7 - i) (0) (⟨Nat.zero_le _, fun j t h => absurd h (by omega)⟩) ?_ rfl (fun i hi => ?_)
 ·exact ⟨rfl, rfl, rfl, rfl, trivial⟩
 obtain ⟨hi1, hi2⟩ := hi
 refine AWp_seq ?_
 refine zw4 ?_
 refine AWp_cond rfl (fun h1 => ?_) (fun h1 => ?_)
 ·(try rw [h1]); replace h1 := zcl h1
  obtain ⟨t, ht⟩ : ∃ t, tyL[i]? = some t := ⟨_, List.getElem?_eq_getElem (show i < tyL.length by omega)⟩
  have htr : (tyL.map fun x => [AV.str x])[i]? = some [.str t] := by rw [List.getElem?_map, ht]; rfl
  refine AWp_skip ?_
  refine AWp_seq ?_
  refine AWp_block ?_
  refine AWp_seq ?_
  refine AWp_drawL #[0, 1, 3, 7, 15, 31, 15, 15, 207, 463, 1023, 2047] Tryd.mixed (by decide +kernel) (by decide +kernel) ?_
  refine zd1 ?_
  refine zp1 ?_
  refine zd2 ?_
  refine zspr 15 rfl (fun h2 => ?_) fun h2 => ?_
  ·rw [h2]; replace h2 := zcl h2
   refine zd1 ?_
   refine zp1 ?_
   refine zd2 ?_
   refine yAG rfl rfl rfl (fun _ => op_indexAddr rfl Tryd.underlying65 Tryd.sizeOf9 rfl rfl (by omega) (htr)) ?_
   refine zp1 ?_
   refine zd2 ?_
   refine RP.nil rfl ?_
   refine AWp_cond rfl (fun h3 => ?_) (fun h3 => ?_)
   ·(try rw [h3]); replace h3 := zcl h3
    refine zw1 ?_
    refine zrt ?_
    refine ResQ_1 rfl hcl trivial (Ret_of ?_)
    congr 1; symm; unfold tyB; rw [decide_eq_true h2, Bool.true_and, List.any_eq_true]; exact ⟨t, List.mem_of_getElem? ht, by simpa using h3⟩
   ·(try rw [h3]); replace h3 := zcl h3
    refine AWp_skip ?_
    refine AWp_regL ?_
    refine zv3 ?_
    refine ⟨i + 1, σ.length + 1, ⟨by omega, fun j u hj hu hc => ?_⟩, by omega, by simp, ⟨rfl, rfl, rfl, rfl, trivial⟩, closed_own 1 hcl ?_, ?_, take_own 1⟩
    ·by_cases e : j = i
     ·subst e; rw [ht] at hu; cases hu; first | exact h3 hc.2 | exact h2 hc.1
     ·exact hi2 j u (by omega) hu hc
    ·simp [ownLt, AO.cells, AV.ltL, AV.lt]
    ·simp [ltE, AV.lt, ltLL_str]
  ·rw [h2]; replace h2 := zcl h2
   refine zd8 ?_
   refine RP.nil rfl ?_
   refine AWp_condF rfl ?_
   refine AWp_skip ?_
   refine AWp_regL ?_
   refine zv3 ?_
   refine ⟨i + 1, σ.length + 1, ⟨by omega, fun j u hj hu hc => ?_⟩, by omega, by simp, ⟨rfl, rfl, rfl, rfl, trivial⟩, closed_own 1 hcl ?_, ?_, take_own 1⟩
   ·by_cases e : j = i
    ·subst e; rw [ht] at hu; cases hu; first | exact h3 hc.2 | exact h2 hc.1
    ·exact hi2 j u (by omega) hu hc
   ·simp [ownLt, AO.cells, AV.ltL, AV.lt]
   ·simp [ltE, AV.lt, ltLL_str]
 ·(try rw [h1]); replace h1 := zcl h1
  refine AWp_exit ?_
  refine zw1 ?_
  refine zrt ?_
  refine ResQ_1 rfl hcl trivial (Ret_of ?_)
  congr 1; symm; unfold tyB
  by_cases h : v.kind = 3
  ·rw [decide_eq_true h, Bool.true_and, List.any_eq_false]
   intro t ht
   obtain ⟨j, hj⟩ := List.getElem?_of_mem ht
   have := hi2 j t (by have := (List.getElem?_eq_some_iff.1 hj).1; omega) hj
   simp only [decide_eq_true_eq]; exact fun e => this ⟨h, e⟩
  ·rw [decide_eq_false h]; rfl

theorem rsch_c (v : JV) (σ : List AO) : ACalls Tryd.prog 14 [.agg (vcells v)] σ (Ret (.bool (schB v)) σ) := by
 refine ACalls_body Tryd.func14 rfl Tryd.ntmps14 (res1 Tryd.results14) (Nat.le_of_ble_eq_true rfl) (fun hcl hal => ?_)
 rw [vcells_eq v]
 refine zw2 ?_
 refine zu4 ?_
 refine zsp 6 rfl (fun h1 => ?_) fun h1 => ?_
 ·rw [h1]; replace h1 := zcl h1
  refine zv5 ?_
  refine zrt ?_
  refine ResQ_1 rfl hcl trivial (Ret_of ?_)
  congr 1; simp [schB, *]
 ·rw [h1]; replace h1 := zcl h1
  refine zv5 ?_
  refine zrt ?_
  refine ResQ_1 rfl hcl trivial (Ret_of ?_)
  congr 1; simp [schB, *]

theorem rall_c (m : List (ByteArray × JV)) (σ : List AO) (hm : m.length ≤ 1000000000) : ACalls Tryd.prog 46 [.sl false 9 (mcells m)] σ (Ret (.bool (m.all fun q => schB q.2)) σ) := by
 refine ACalls_body Tryd.func46 rfl Tryd.ntmps46 (res1 Tryd.results46) (Nat.le_of_ble_eq_true rfl) (fun hcl hal => ?_)
 have hml := mcells_length m
 refine zw1 ?_
 refine AWp_seq ?_
 refine zw1 ?_
 refine AWp_block ?_
 -- loop 0 LIVE 0:param 2:assign 3:assign
 refine AWp_loop (ι := Nat) (fun i => i ≤ m.length ∧ ∀ (j : Nat) q, j < i → m[j]? = some q → schB q.2 = true) (fun i => ⟨[], [(0, .sl false 9 (mcells m)), (3, .int .i64 (i : Int))]⟩) (fun i => σ) (fun i => m.length - i) (0) (⟨Nat.zero_le _, fun j q h => absurd h (by omega)⟩) ?_ rfl (fun i hi => ?_)
 ·exact ⟨rfl, rfl, rfl, trivial⟩
 obtain ⟨hi1, hi2⟩ := hi
 refine AWp_seq ?_
 refine zw4 ?_
 refine AWp_cond rfl (fun h1 => ?_) (fun h1 => ?_)
 ·(try rw [h1]); replace h1 := zcl h1
  obtain ⟨q, hq⟩ : ∃ q, m[i]? = some q := ⟨_, List.getElem?_eq_getElem (show i < m.length by omega)⟩
  refine AWp_skip ?_
  refine AWp_seq ?_
  refine AWp_block ?_
  refine zu3 ?_
  rw [vcells_eq q.2]
  refine zg2 ?_
  refine zt rfl (zc rfl (vcells_eq q.2 ▸ rsch_c q.2 _)) ?_
  refine zv1 ?_
  refine zw2 ?_
  refine AWp_cond rfl (fun h2 => ?_) (fun h2 => ?_)
  ·(try rw [h2]); replace h2 := zcl h2
   refine zw1 ?_
   refine zrt ?_
   refine ResQ_10 rfl hcl trivial (Ret_of ?_)
   congr 1; symm; rw [List.all_eq_false]; exact ⟨q, List.mem_of_getElem? hq, by simpa using h2⟩
  ·(try rw [h2]); replace h2 := zcl h2
   refine AWp_skip ?_
   refine AWp_regL ?_
   refine zv3 ?_
   refine ⟨i + 1, σ.length, ⟨by omega, fun j u hj hu => ?_⟩, by omega, Nat.le_refl _, ⟨rfl, rfl, rfl, trivial⟩, hcl, ?_, List.take_length⟩
   ·by_cases e : j = i
    ·subst e; rw [hq] at hu; cases hu; simpa using h2
    ·exact hi2 j u (by omega) hu
   ·simp [ltE, AV.lt]
 ·(try rw [h1]); replace h1 := zcl h1
  refine AWp_exit ?_
  refine zw1 ?_
  refine zrt ?_
  refine ResQ_10 rfl hcl trivial (Ret_of ?_)
  congr 1; symm; rw [List.all_eq_true]; intro q hq; obtain ⟨j, hj⟩ := List.getElem?_of_mem hq; exact hi2 j q (by have := (List.getElem?_eq_some_iff.1 hj).1; omega) hj

theorem rsingle_c (name : ByteArray) (σ : List AO) : ACalls Tryd.prog 28 [.str name] σ (Ret (.bool (decide (rk name = 8))) σ) := by
 refine ACalls_body Tryd.func28 rfl Tryd.ntmps28 (res1 Tryd.results28) (Nat.le_of_ble_eq_true rfl) (fun hcl hal => ?_)
 refine zw1 ?_
 refine zu3 ?_
 refine zsp 5 rfl (fun h1 => ?_) fun h1 => ?_
 ·rw [h1]; replace h1 := zcl h1
  refine zv8 ?_
  refine zrt ?_
  refine ResQ_10 rfl hcl trivial (Ret_of ?_)
  subst h1; first | rfl | (congr 1; decide +kernel)
 ·rw [h1]; replace h1 := zcl h1
  refine zg4 ?_
  refine zsp 9 rfl (fun h2 => ?_) fun h2 => ?_
  ·rw [h2]; replace h2 := zcl h2
   refine zv4 ?_
   refine zrt ?_
   refine ResQ_10 rfl hcl trivial (Ret_of ?_)
   subst h2; first | rfl | (congr 1; decide +kernel)
  ·rw [h2]; replace h2 := zcl h2
   refine zv4 ?_
   refine zrt ?_
   refine ResQ_10 rfl hcl trivial (Ret_of ?_)
   congr 1; exact rk8 h1 h2
end Lg
set_option maxRecDepth 20000
set_option maxHeartbeats 4000000
namespace Lg
open Go Go.Proofs Go.RowKit
variable [GLay] 
theorem ritoaP (m : Nat) : ∀ (n : Int) (σ : List AO), 0 ≤ n → n < m → n ≤ 9223372036854775807 → ACalls Tryd.prog 68 [.int .i64 n] σ (Ret (.str (itoaB n)) σ) := by
 induction m with
 | zero => intro n σ h1 h2 h3; omega
 | succ m ih =>
 intro n σ hn1 hn2 hn3
 refine ACalls_body Tryd.func68 rfl Tryd.ntmps68 (res1 Tryd.results68) (Nat.le_of_ble_eq_true rfl) (fun hcl hal => ?_)
 have h1s : ∀ x, (ByteArray.mk #[x]).size = 1 := fun x => rfl
 have hsz := itoa_size (n := n / 10) (by omega) (by omega)
 have hsz2 := itoa_size (n := -n) (by omega) (by omega)
 have hs3 := h1s (u8b (48 + n % 10))
 have hs4 := h1s 45
 refine zw1 ?_
 refine AWp_seq ?_
 refine zw2 ?_
 refine AWp_cond rfl (fun h1 => ?_) (fun h1 => ?_)
 ·(try rw [h1]); replace h1 := zcl h1
  exfalso; omega
 ·(try rw [h1]); replace h1 := zcl h1
  refine AWp_skip ?_
  refine AWp_seq ?_
  refine zw2 ?_
  refine AWp_cond rfl (fun h2 => ?_) (fun h2 => ?_)
  ·(try rw [h2]); replace h2 := zcl h2
   refine zu3 ?_
   refine zt rfl (op_buildSlice [[_]] rfl Tryd.underlying87 Tryd.sizeOf5 Tryd.zeroValue5 rfl (by decide) (by decide) rfl rfl rfl rfl rfl) ?_
   refine zt rfl (op_bytesStr (b := _) (m := 1) rfl Tryd.underlying87 Tryd.underlying5 Tryd.underlying9 (bs1 ⟨by omega, by omega⟩) rfl rfl) ?_
   refine zv1 ?_
   refine zrt ?_
   rw [itoa_small (by omega) h2]
   exact ResQ_10 rfl hcl trivial (Ret_of rfl)
  ·(try rw [h2]); replace h2 := zcl h2
   refine AWp_skip ?_
   refine AWp_seq ?_
   refine AWp_drawL #[0, 1, 3, 0, 8, 24, 56, 120, 248, 511, 1023] Tryd.mixed (by decide +kernel) (by decide +kernel) ?_
   refine zd1 ?_
   refine yA rfl rfl (fun _ => op_quo64 rfl rfl rfl (by omega) (by omega) (by omega)) ?_
   refine yP rfl rfl (zc rfl (ih (n / 10) _ (by omega) (by omega) (by omega))) (trivial) ?_
   refine zd1 ?_
   refine yA rfl rfl (fun _ => op_rem64 rfl rfl rfl (by omega) (by omega)) ?_
   refine zd2 ?_
   refine yA rfl rfl (fun _ => op_buildSlice [[_]] rfl Tryd.underlying87 Tryd.sizeOf5 Tryd.zeroValue5 rfl (by decide) (by decide) rfl rfl rfl rfl rfl) ?_
   refine yA rfl rfl (fun _ => op_bytesStr (b := _) (m := 1) rfl Tryd.underlying87 Tryd.underlying5 Tryd.underlying9 (bs1 ⟨by omega, by omega⟩) rfl rfl) ?_
   refine zd2 ?_
   refine RP.nil rfl ?_
   refine zrt ?_
   rw [itoa_big (by omega)]
   exact ResQ_10 rfl hcl trivial (Ret_of rfl)

theorem ritoa_c (n : Int) (σ : List AO) (hn3 : -9223372036854775807 ≤ n) (hn4 : n ≤ 9223372036854775807) : ACalls Tryd.prog 68 [.int .i64 n] σ (Ret (.str (itoaB n)) σ) := by
 refine ACalls_body Tryd.func68 rfl Tryd.ntmps68 (res1 Tryd.results68) (Nat.le_of_ble_eq_true rfl) (fun hcl hal => ?_)
 have h1s : ∀ x, (ByteArray.mk #[x]).size = 1 := fun x => rfl
 have hsz := itoa_size (n := n / 10) (by omega) (by omega)
 have hsz2 := itoa_size (n := -n) (by omega) (by omega)
 have hs3 := h1s (u8b (48 + n % 10))
 have hs4 := h1s 45
 refine zw1 ?_
 refine AWp_seq ?_
 refine zw2 ?_
 refine AWp_cond rfl (fun h1 => ?_) (fun h1 => ?_)
 ·(try rw [h1]); replace h1 := zcl h1
  refine zu1 ?_
  refine zt rfl (op_neg64 rfl rfl (by omega) (by omega)) ?_
  refine zt rfl (zc rfl (ritoaP ((-n).toNat + 1) (-n) _ (by omega) (by omega) (by omega))) ?_
  refine zv2 ?_
  refine zrt ?_
  rw [itoa_neg h1]
  exact ResQ_10 rfl hcl trivial (Ret_of rfl)
 ·(try rw [h1]); replace h1 := zcl h1
  refine AWp_skip ?_
  refine AWp_seq ?_
  refine zw2 ?_
  refine AWp_cond rfl (fun h2 => ?_) (fun h2 => ?_)
  ·(try rw [h2]); replace h2 := zcl h2
   refine zu3 ?_
   refine zt rfl (op_buildSlice [[_]] rfl Tryd.underlying87 Tryd.sizeOf5 Tryd.zeroValue5 rfl (by decide) (by decide) rfl rfl rfl rfl rfl) ?_
   refine zt rfl (op_bytesStr (b := _) (m := 1) rfl Tryd.underlying87 Tryd.underlying5 Tryd.underlying9 (bs1 ⟨by omega, by omega⟩) rfl rfl) ?_
   refine zv1 ?_
   refine zrt ?_
   rw [itoa_small (by omega) h2]
   exact ResQ_10 rfl hcl trivial (Ret_of rfl)
  ·(try rw [h2]); replace h2 := zcl h2
   refine AWp_skip ?_
   refine AWp_seq ?_
   refine AWp_drawL #[0, 1, 3, 0, 8, 24, 56, 120, 248, 511, 1023] Tryd.mixed (by decide +kernel) (by decide +kernel) ?_
   refine zd1 ?_
   refine yA rfl rfl (fun _ => op_quo64 rfl rfl rfl (by omega) (by omega) (by omega)) ?_
   refine yP rfl rfl (zc rfl (ritoaP ((n / 10).toNat + 1) (n / 10) _ (by omega) (by omega) (by omega))) (trivial) ?_
   refine zd1 ?_
   refine yA rfl rfl (fun _ => op_rem64 rfl rfl rfl (by omega) (by omega)) ?_
   refine zd2 ?_
   refine yA rfl rfl (fun _ => op_buildSlice [[_]] rfl Tryd.underlying87 Tryd.sizeOf5 Tryd.zeroValue5 rfl (by decide) (by decide) rfl rfl rfl rfl rfl) ?_
   refine yA rfl rfl (fun _ => op_bytesStr (b := _) (m := 1) rfl Tryd.underlying87 Tryd.underlying5 Tryd.underlying9 (bs1 ⟨by omega, by omega⟩) rfl rfl) ?_
   refine zd2 ?_
   refine RP.nil rfl ?_
   refine zrt ?_
   rw [itoa_big (by omega)]
   exact ResQ_10 rfl hcl trivial (Ret_of rfl)

end Lg
set_option maxRecDepth 20000
set_option maxHeartbeats 4000000
namespace Lg
open Go Go.Proofs Go.RowKit
variable [GLay] 
theorem rplain_c (n : Int) (σ : List AO) (h0 : 0 ≤ n) (h1 : n ≤ 1000000000) : ACalls Tryd.prog 56 [.int .i64 n] σ (Ret (.str (itoaB n)) σ) := by
 refine ACalls_body Tryd.func56 rfl Tryd.ntmps56 (res1 Tryd.results56) (Nat.le_of_ble_eq_true rfl) (fun hcl hal => ?_)
 refine zw1 ?_
 refine zu1 ?_
 refine zt rfl (zc rfl (ritoa_c n _ (by omega) (by omega))) ?_
 refine zv1 ?_
 refine zrt ?_
 exact ResQ_10 rfl hcl trivial (Ret_of rfl)

theorem rdig_c (n : Int) (σ : List AO) (h0 : 0 ≤ n) (h1 : n ≤ 1000000000) : ACalls Tryd.prog 47 [.int .i64 n] σ (Ret (.str (itoaB n)) σ) := by
 refine ACalls_body Tryd.func47 rfl Tryd.ntmps47 (res1 Tryd.results47) (Nat.le_of_ble_eq_true rfl) (fun hcl hal => ?_)
 refine zw1 ?_
 refine zu1 ?_
 refine zt rfl (zc rfl (rplain_c n _ h0 h1)) ?_
 refine zv1 ?_
 refine zrt ?_
 exact ResQ_10 rfl hcl trivial (Ret_of rfl)

theorem rk_mem {n : ByteArray} {c : Nat} (h : rk n = c) (hc : c ≠ 0) : (n, c) ∈ kwL := by
  unfold rk at h
  cases hf : kwL.find? fun q => decide (n = q.1) with
  | none => rw [hf] at h; exact absurd h.symm hc
  | some q =>
    rw [hf] at h
    have hm := List.mem_of_find?_eq_some hf
    have hq := List.find?_some hf
    simp only [decide_eq_true_eq] at hq
    simp only [Option.map_some, Option.getD_some] at h
    obtain ⟨a, b⟩ := q
    simp only at hq h
    subst hq; subst h
    exact hm
theorem kidsM_nil {n : ByteArray} (v : JV) (h8 : ¬ rk n = 8) (h1 : ¬ n = ⟨#[112, 114, 111, 112, 101, 114, 116, 105, 101, 115]⟩) (h2 : ¬ n = ⟨#[36, 100, 101, 102, 115]⟩) (h3 : ¬ n = ⟨#[97, 108, 108, 79, 102]⟩) (h4 : ¬ n = ⟨#[97, 110, 121, 79, 102]⟩) (h5 : ¬ n = ⟨#[111, 110, 101, 79, 102]⟩) : kidsM n v = [] := by
  have h9 : ¬ rk n = 9 := fun e => by
    have := rk_mem e (by decide)
    simp [kwL] at this
    rcases this with h | h
    · exact h1 h
    · exact h2 h
  have h10 : ¬ rk n = 10 := fun e => by
    have := rk_mem e (by decide)
    simp [kwL] at this
    rcases this with h | h | h
    · exact h3 h
    · exact h4 h
    · exact h5 h
  unfold kidsM; rw [if_neg h8, if_neg h9, if_neg h10]
theorem kidsM_8 {n : ByteArray} (v : JV) (h : rk n = 8) : kidsM n v = [(e0, v)] := by unfold kidsM; rw [if_pos h]
theorem kidsM_9 {n : ByteArray} (v : JV) (h : rk n = 9) : kidsM n v = v.m := by unfold kidsM; rw [if_neg (by omega), if_pos h]
theorem kidsM_10 {n : ByteArray} (v : JV) (h : rk n = 10) : kidsM n v = kZ v.l := by unfold kidsM; rw [if_neg (by omega), if_neg (by omega), if_pos h]; rfl
theorem one_cells (v : JV) : mcells [(e0, v)] = [[.str ⟨#[]⟩, .int .i64 v.kind, .bool v.b, .bool v.n.neg, .str v.n.digits, .int .i64 v.n.exp, .str v.s, .sl false 8 (lcells v.l), .sl false 9 (mcells v.m)]] := by
  simp [mcells, vcells_eq v]; rfl
theorem rkids_c (name : ByteArray) (v : JV) (σ : List AO) (hl : v.l.length ≤ 1000000000) : ACalls Tryd.prog 27 [.str name, .agg (vcells v)] σ (Ret (.sl false 9 (mcells (kidsM name v))) σ) := by
 refine ACalls_body Tryd.func27 rfl Tryd.ntmps27 (res1 Tryd.results27) (Nat.le_of_ble_eq_true rfl) (fun hcl hal => ?_)
 rw [vcells_eq v]
 have hll := lcells_length v.l
 refine zw2 ?_
 refine zu1 ?_
 refine zt rfl (zc rfl (rsingle_c name _)) ?_
 refine zv1 ?_
 refine AWp_seq ?_
 refine zw1 ?_
 refine AWp_cond rfl (fun h1 => ?_) (fun h1 => ?_)
 ·(try rw [h1]); replace h1 := zcl h1
  refine zu2 ?_
  refine zt rfl (op_buildSlice [[_, _, _, _, _, _, _, _, _]] rfl Tryd.underlying26 Tryd.sizeOf79 Tryd.zeroValue79 rfl (by decide) (by decide) rfl rfl rfl rfl rfl) ?_
  refine zv1 ?_
  refine AWp_slotLe 4 rfl (AVle.full 9 _) ?_ (by decide)
  refine zrt ?_
  rw [kidsM_8 v h1, one_cells]
  exact ResQ_1 rfl hcl (by simp [AV.lt, AV.ltLL, AV.ltL]) (Ret_of rfl)
 ·(try rw [h1]); replace h1 := zcl h1
  refine AWp_skip ?_
  refine AWp_seq ?_
  refine zu3 ?_
  refine zsp 16 rfl (fun h2 => ?_) fun h2 => ?_
  ·rw [h2]; replace h2 := zcl h2
   refine zv3 ?_
   refine AWp_condT rfl ?_
   refine zw3 ?_
   refine zrt ?_
   rw [kidsM_9 v (show rk name = 9 by rw [h2]; decide +kernel)]
   exact ResQ_1 rfl hcl (by simp [AV.lt]) (Ret_of rfl)
  ·rw [h2]; replace h2 := zcl h2
   refine zv3 ?_
   refine AWp_cond rfl (fun h3 => ?_) (fun h3 => ?_)
   ·(try rw [h3]); replace h3 := zcl h3
    refine zw3 ?_
    refine zrt ?_
    rw [kidsM_9 v (show rk name = 9 by rw [h3]; decide +kernel)]
    exact ResQ_1 rfl hcl (by simp [AV.lt]) (Ret_of rfl)
   ·(try rw [h3]); replace h3 := zcl h3
    refine AWp_skip ?_
    refine zw1 ?_
    refine AWp_seq ?_
    refine zu3 ?_
    refine zsp 24 rfl (fun h4 => ?_) fun h4 => ?_
    ·rw [h4]; replace h4 := zcl h4
     have hk10 : rk name = 10 := by rw [h4]; decide +kernel
     refine zv7 ?_
     refine AWp_condT rfl ?_
     refine AWp_seq ?_
     refine AWp_ghostTO 6 9 1 rfl rfl ?_ (by decide)
     refine AWp_regL ?_
     refine zv1 ?_
     refine AWp_block ?_
     -- loop 0 LIVE 3:box 4:assign 6:assign 7:assign
     refine AWp_loop (ι := Nat) (fun i => i ≤ v.l.length) (fun i => ⟨[], [(6, .arr (σ.length + 1) i 9 0 i), (3, .ptr (σ.length + 0) 0), (7, .int .i64 (i : Int))]⟩) (fun i => σ ++ [.box [.int .i64 v.kind, .bool v.b, .bool v.n.neg, .str v.n.digits, .int .i64 v.n.exp, .str v.s, .sl false 8 (lcells v.l), .sl false 9 (mcells v.m)], .arr 9 i (mcells (kZ (v.l.take i))).flatten]) (fun i => v.l.length - i) (0) (Nat.zero_le _) ?_ rfl (fun i hi => ?_)
     ·exact ⟨rfl, rfl, rfl, rfl, trivial⟩
     have hkl : (kZ (v.l.take i)).length = i := by rw [kZ_len, List.length_take]; omega
     have hfl := mflat_len (kZ (v.l.take i))
     refine AWp_seq ?_
     refine zw5 ?_
     refine AWp_cond rfl (fun h5 => ?_) (fun h5 => ?_)
     ·(try rw [h5]); replace h5 := zcl h5
      obtain ⟨x, hx⟩ : ∃ x, v.l[i]? = some x := ⟨_, List.getElem?_eq_getElem (show i < v.l.length by omega)⟩
      refine AWp_skip ?_
      refine AWp_seq ?_
      refine AWp_block ?_
      refine AWp_drawL #[0, 0, 2, 0, 8, 0, 56, 120, 254, 510, 1023, 2047] Tryd.mixed (by decide +kernel) (by decide +kernel) ?_
      refine zd2 ?_
      refine yP rfl rfl (zc rfl (rdig_c i _ (by omega) (by omega))) (trivial) ?_
      refine zd1 ?_
      refine zp1 ?_
      refine zd2 ?_
      rw [vcells_eq x]
      refine zp1 ?_
      refine zd1 ?_
      refine yA rfl rfl (fun _ => op_buildSlice [[_, _, _, _, _, _, _, _, _]] rfl Tryd.underlying26 Tryd.sizeOf79 Tryd.zeroValue79 rfl (by decide) (by decide) rfl rfl rfl rfl rfl) ?_
      refine yE rfl rfl (op_appendArrT rfl 1 (sz := 9) (m := 1) (len := i) (cs := _) rfl (.inr ⟨_, rfl⟩) Tryd.underlying26 Tryd.underlying26 Tryd.type79 rfl rfl rfl (by decide) rfl rfl (by rw [hfl, hkl]) rfl rfl rfl (by show (i + 1) * 128 ≤ _; omega) (by omega) rfl) (⟨.inl rfl, ⟨.inl rfl, ⟨.inl rfl, trivial⟩⟩⟩) (trivial) ?_
      refine zd1 ?_
      refine RP.nil rfl ?_
      refine AWp_regL ?_
      refine zv3 ?_
      refine ⟨i + 1, σ.length + 2, by omega, by omega, by simp, ⟨rfl, rfl, rfl, rfl, trivial⟩, closed_own 2 hcl ?_, ?_, ?_⟩
      ·simp [ownLt, AO.cells, AV.ltL, AV.lt, ofConst1, ltL_append, mflat_lt]
      ·simp [ltE, AV.lt]; (try omega)
      ·rw [kZ_take hx, mcells_snoc, mrow, vcells_eq x]; exact take_own 2
     ·(try rw [h5]); replace h5 := zcl h5
      have hie : i = v.l.length := by omega
      subst hie
      rw [List.take_length]
      refine AWp_exit ?_
      refine AWp_seq ?_
      first | refine AWp_freezeMO 6 1 _ _ (kZ v.l) (kZ_len _) rfl rfl ?_ (by decide) | refine AWp_slotLe 6 rfl (AVle.nils false 9) ?_ (by decide)
      refine AWp_regL ?_
      refine zv2 ?_
      refine zrt ?_
      rw [kidsM_10 v hk10]
      exact ResQ_1 rfl hcl (by simp [AV.lt]) (Ret_of rfl)
    ·rw [h4]; replace h4 := zcl h4
     refine zg4 ?_
     refine zsp 28 rfl (fun h6 => ?_) fun h6 => ?_
     ·rw [h6]; replace h6 := zcl h6
      have hk10 : rk name = 10 := by rw [h6]; decide +kernel
      refine zv3 ?_
      refine AWp_condT rfl ?_
      refine AWp_seq ?_
      refine AWp_ghostTO 6 9 1 rfl rfl ?_ (by decide)
      refine AWp_regL ?_
      refine zv1 ?_
      refine AWp_block ?_
      -- loop 1 LIVE 3:box 4:assign 6:assign 7:assign
      refine AWp_loop (ι := Nat) (fun i => i ≤ v.l.length) (fun i => ⟨[], [(6, .arr (σ.length + 1) i 9 0 i), (3, .ptr (σ.length + 0) 0), (7, .int .i64 (i : Int))]⟩) (fun i => σ ++ [.box [.int .i64 v.kind, .bool v.b, .bool v.n.neg, .str v.n.digits, .int .i64 v.n.exp, .str v.s, .sl false 8 (lcells v.l), .sl false 9 (mcells v.m)], .arr 9 i (mcells (kZ (v.l.take i))).flatten]) (fun i => v.l.length - i) (0) (Nat.zero_le _) ?_ rfl (fun i hi => ?_)
      ·exact ⟨rfl, rfl, rfl, rfl, trivial⟩
      have hkl : (kZ (v.l.take i)).length = i := by rw [kZ_len, List.length_take]; omega
      have hfl := mflat_len (kZ (v.l.take i))
      refine AWp_seq ?_
      refine zw5 ?_
      refine AWp_cond rfl (fun h7 => ?_) (fun h7 => ?_)
      ·(try rw [h7]); replace h7 := zcl h7
       obtain ⟨x, hx⟩ : ∃ x, v.l[i]? = some x := ⟨_, List.getElem?_eq_getElem (show i < v.l.length by omega)⟩
       refine AWp_skip ?_
       refine AWp_seq ?_
       refine AWp_block ?_
       refine AWp_drawL #[0, 0, 2, 0, 8, 0, 56, 120, 254, 510, 1023, 2047] Tryd.mixed (by decide +kernel) (by decide +kernel) ?_
       refine zd2 ?_
       refine yP rfl rfl (zc rfl (rdig_c i _ (by omega) (by omega))) (trivial) ?_
       refine zd1 ?_
       refine zp1 ?_
       refine zd2 ?_
       rw [vcells_eq x]
       refine zp1 ?_
       refine zd1 ?_
       refine yA rfl rfl (fun _ => op_buildSlice [[_, _, _, _, _, _, _, _, _]] rfl Tryd.underlying26 Tryd.sizeOf79 Tryd.zeroValue79 rfl (by decide) (by decide) rfl rfl rfl rfl rfl) ?_
       refine yE rfl rfl (op_appendArrT rfl 1 (sz := 9) (m := 1) (len := i) (cs := _) rfl (.inr ⟨_, rfl⟩) Tryd.underlying26 Tryd.underlying26 Tryd.type79 rfl rfl rfl (by decide) rfl rfl (by rw [hfl, hkl]) rfl rfl rfl (by show (i + 1) * 128 ≤ _; omega) (by omega) rfl) (⟨.inl rfl, ⟨.inl rfl, ⟨.inl rfl, trivial⟩⟩⟩) (trivial) ?_
       refine zd1 ?_
       refine RP.nil rfl ?_
       refine AWp_regL ?_
       refine zv3 ?_
       refine ⟨i + 1, σ.length + 2, by omega, by omega, by simp, ⟨rfl, rfl, rfl, rfl, trivial⟩, closed_own 2 hcl ?_, ?_, ?_⟩
       ·simp [ownLt, AO.cells, AV.ltL, AV.lt, ofConst1, ltL_append, mflat_lt]
       ·simp [ltE, AV.lt]; (try omega)
       ·rw [kZ_take hx, mcells_snoc, mrow, vcells_eq x]; exact take_own 2
      ·(try rw [h7]); replace h7 := zcl h7
       have hie : i = v.l.length := by omega
       subst hie
       rw [List.take_length]
       refine AWp_exit ?_
       refine AWp_seq ?_
       first | refine AWp_freezeMO 6 1 _ _ (kZ v.l) (kZ_len _) rfl rfl ?_ (by decide) | refine AWp_slotLe 6 rfl (AVle.nils false 9) ?_ (by decide)
       refine AWp_regL ?_
       refine zv2 ?_
       refine zrt ?_
       rw [kidsM_10 v hk10]
       exact ResQ_1 rfl hcl (by simp [AV.lt]) (Ret_of rfl)
     ·rw [h6]; replace h6 := zcl h6
      refine zv3 ?_
      refine AWp_cond rfl (fun h8 => ?_) (fun h8 => ?_)
      ·(try rw [h8]); replace h8 := zcl h8
       have hk10 : rk name = 10 := by rw [h8]; decide +kernel
       refine AWp_seq ?_
       refine AWp_ghostTO 6 9 1 rfl rfl ?_ (by decide)
       refine AWp_regL ?_
       refine zv1 ?_
       refine AWp_block ?_
       -- loop 2 LIVE 3:box 4:assign 6:assign 7:assign
       refine AWp_loop (ι := Nat) (fun i => i ≤ v.l.length) (fun i => ⟨[], [(6, .arr (σ.length + 1) i 9 0 i), (3, .ptr (σ.length + 0) 0), (7, .int .i64 (i : Int))]⟩) (fun i => σ ++ [.box [.int .i64 v.kind, .bool v.b, .bool v.n.neg, .str v.n.digits, .int .i64 v.n.exp, .str v.s, .sl false 8 (lcells v.l), .sl false 9 (mcells v.m)], .arr 9 i (mcells (kZ (v.l.take i))).flatten]) (fun i => v.l.length - i) (0) (Nat.zero_le _) ?_ rfl (fun i hi => ?_)
       ·exact ⟨rfl, rfl, rfl, rfl, trivial⟩
       have hkl : (kZ (v.l.take i)).length = i := by rw [kZ_len, List.length_take]; omega
       have hfl := mflat_len (kZ (v.l.take i))
       refine AWp_seq ?_
       refine zw5 ?_
       refine AWp_cond rfl (fun h9 => ?_) (fun h9 => ?_)
       ·(try rw [h9]); replace h9 := zcl h9
        obtain ⟨x, hx⟩ : ∃ x, v.l[i]? = some x := ⟨_, List.getElem?_eq_getElem (show i < v.l.length by omega)⟩
        refine AWp_skip ?_
        refine AWp_seq ?_
        refine AWp_block ?_
        refine AWp_drawL #[0, 0, 2, 0, 8, 0, 56, 120, 254, 510, 1023, 2047] Tryd.mixed (by decide +kernel) (by decide +kernel) ?_
        refine zd2 ?_
        refine yP rfl rfl (zc rfl (rdig_c i _ (by omega) (by omega))) (trivial) ?_
        refine zd1 ?_
        refine zp1 ?_
        refine zd2 ?_
        rw [vcells_eq x]
        refine zp1 ?_
        refine zd1 ?_
        refine yA rfl rfl (fun _ => op_buildSlice [[_, _, _, _, _, _, _, _, _]] rfl Tryd.underlying26 Tryd.sizeOf79 Tryd.zeroValue79 rfl (by decide) (by decide) rfl rfl rfl rfl rfl) ?_
        refine yE rfl rfl (op_appendArrT rfl 1 (sz := 9) (m := 1) (len := i) (cs := _) rfl (.inr ⟨_, rfl⟩) Tryd.underlying26 Tryd.underlying26 Tryd.type79 rfl rfl rfl (by decide) rfl rfl (by rw [hfl, hkl]) rfl rfl rfl (by show (i + 1) * 128 ≤ _; omega) (by omega) rfl) (⟨.inl rfl, ⟨.inl rfl, ⟨.inl rfl, trivial⟩⟩⟩) (trivial) ?_
        refine zd1 ?_
        refine RP.nil rfl ?_
        refine AWp_regL ?_
        refine zv3 ?_
        refine ⟨i + 1, σ.length + 2, by omega, by omega, by simp, ⟨rfl, rfl, rfl, rfl, trivial⟩, closed_own 2 hcl ?_, ?_, ?_⟩
        ·simp [ownLt, AO.cells, AV.ltL, AV.lt, ofConst1, ltL_append, mflat_lt]
        ·simp [ltE, AV.lt]; (try omega)
        ·rw [kZ_take hx, mcells_snoc, mrow, vcells_eq x]; exact take_own 2
       ·(try rw [h9]); replace h9 := zcl h9
        have hie : i = v.l.length := by omega
        subst hie
        rw [List.take_length]
        refine AWp_exit ?_
        refine AWp_seq ?_
        first | refine AWp_freezeMO 6 1 _ _ (kZ v.l) (kZ_len _) rfl rfl ?_ (by decide) | refine AWp_slotLe 6 rfl (AVle.nils false 9) ?_ (by decide)
        refine AWp_regL ?_
        refine zv2 ?_
        refine zrt ?_
        rw [kidsM_10 v hk10]
        exact ResQ_1 rfl hcl (by simp [AV.lt]) (Ret_of rfl)
      ·(try rw [h8]); replace h8 := zcl h8
       refine AWp_skip ?_
       refine AWp_seq ?_
       first | refine AWp_freezeMO 6 1 _ _ (kZ v.l) (kZ_len _) rfl rfl ?_ (by decide) | refine AWp_slotLe 6 rfl (AVle.nils false 9) ?_ (by decide)
       refine AWp_regL ?_
       refine zv2 ?_
       refine zrt ?_
       rw [kidsM_nil v h1 h2 h3 h4 h6 h8]
       exact ResQ_1 rfl hcl (by simp [AV.lt, AV.ltLL]) (Ret_of rfl)
end Lg
set_option maxRecDepth 20000
set_option maxHeartbeats 4000000
namespace Lg
open Go Go.Proofs Go.RowKit
variable [GLay] 
theorem rshape_c (name : ByteArray) (v : JV) (σ : List AO) (hl : v.l.length ≤ 1000000000) (hm : v.m.length ≤ 1000000000) : ACalls Tryd.prog 26 [.str name, .agg (vcells v)] σ (Ret (.int .i64 (rShape name v)) σ) := by
 refine ACalls_body Tryd.func26 rfl Tryd.ntmps26 (res1 Tryd.results26) (Nat.le_of_ble_eq_true rfl) (fun hcl hal => ?_)
 rw [vcells_eq v]
 have hll := lcells_length v.l
 refine zw2 ?_
 refine zw1 ?_
 refine AWp_join (ι := Unit) (fun b => rk name ≠ 0) (fun b => ⟨[], [(5, .bool (kOK (rk name) v))]⟩) (fun b => σ ++ [.box [.int .i64 v.kind, .bool v.b, .bool v.n.neg, .str v.n.digits, .int .i64 v.n.exp, .str v.s, .sl false 8 (lcells v.l), .sl false 9 (mcells v.m)]]) ?_ (fun b hj => ?_)
 ·skip
  refine zw1 ?_
  refine AWp_block ?_
  refine zw2 ?_
  refine AWp_cond rfl (fun h1 => ?_) (fun h1 => ?_)
  ·(try rw [h1]); replace h1 := zcl h1
   have hk : rk name = 1 := by rw [h1]; decide +kernel
   refine zu1 ?_
   refine zt rfl (zc rfl (vcells_eq v ▸ rtxt_c v _ hl)) ?_
   refine zv1 ?_
   refine zu2 ?_
   refine zsp 19 rfl (fun h2 => ?_) fun h2 => ?_
   ·rw [h2]; replace h2 := zcl h2
    refine zv6 ?_
    refine AWp_seq ?_
    refine zw1 ?_
    refine AWp_block ?_
    -- loop 0 LIVE 0:param 3:box 4:assign 5:assign 7:assign 13:move
    refine AWp_loop (ι := Nat) (fun i => i ≤ v.l.length) (fun i => ⟨[], [(3, .ptr (σ.length + 0) 0), (5, .bool (txB v && decide (0 < v.l.length) && (v.l.take i).all tyB)), (7, .int .i64 (i : Int))]⟩) (fun i => σ ++ [_]) (fun i => v.l.length - i) (0) (Nat.zero_le _) ?_ rfl (fun i hi => ?_)
    ·refine ⟨rfl, rfl, ?_, rfl, trivial⟩
     show AV.bool _ = AV.bool _; congr 1; simp [*]
    refine AWp_seq ?_
    refine zw5 ?_
    refine AWp_cond rfl (fun h3 => ?_) (fun h3 => ?_)
    ·(try rw [h3]); replace h3 := zcl h3
     obtain ⟨x, hx⟩ : ∃ x, v.l[i]? = some x := ⟨_, List.getElem?_eq_getElem (show i < v.l.length by omega)⟩
     refine AWp_skip ?_
     refine AWp_seq ?_
     refine AWp_block ?_
     refine zu4 ?_
     rw [vcells_eq x]
     refine zg1 ?_
     refine zt rfl (zc rfl (vcells_eq x ▸ rtyp_c x _)) ?_
     refine zv1 ?_
     refine AWp_regL ?_
     refine zg2 ?_
     refine zsp 39 rfl (fun h4 => ?_) fun h4 => ?_
     ·rw [h4]; replace h4 := zcl h4
      refine zv3 ?_
      refine AWp_regL ?_
      refine zv3 ?_
      refine ⟨i + 1, σ.length + 1, by omega, by omega, by simp, ⟨rfl, rfl, ?_, rfl, trivial⟩, closed_own 1 hcl ?_, ?_, take_own 1⟩
      ·show AV.bool _ = AV.bool _; congr 1; rw [List.take_add_one, hx]; simp only [Option.toList, List.all_append, List.all_cons, List.all_nil, Bool.and_true]; rw [← Bool.and_assoc]; (first | rw [h4] | rw [h7]); rfl
      ·simp [ownLt, AO.cells, AV.ltL, AV.lt]
      ·simp [ltE, AV.lt]
     ·rw [h4]; replace h4 := zcl h4
      refine zv3 ?_
      refine AWp_regL ?_
      refine zv3 ?_
      refine ⟨i + 1, σ.length + 1, by omega, by omega, by simp, ⟨rfl, rfl, ?_, rfl, trivial⟩, closed_own 1 hcl ?_, ?_, take_own 1⟩
      ·show AV.bool _ = AV.bool _; congr 1; rw [List.take_add_one, hx]; simp only [Option.toList, List.all_append, List.all_cons, List.all_nil, Bool.and_true]; rw [← Bool.and_assoc]; (first | rw [h4] | rw [h7]); rfl
      ·simp [ownLt, AO.cells, AV.ltL, AV.lt]
      ·simp [ltE, AV.lt]
    ·(try rw [h3]); replace h3 := zcl h3
     have hie : i = v.l.length := by omega
     subst hie
     rw [List.take_length]
     refine AWp_exit ?_
     refine zu1 ?_
     refine zt rfl (zc rfl (vcells_eq v ▸ rtyp_c v _)) ?_
     refine zv1 ?_
     refine AWp_regL ?_
     refine zg2 ?_
     refine zsp 45 rfl (fun h5 => ?_) fun h5 => ?_
     ·rw [h5]; replace h5 := zcl h5
      refine zv3 ?_
      show ∃ z : Unit, _ ∧ _ ∧ _
      refine ⟨(), (by rw [hk]; decide), ⟨rfl, ?_, trivial⟩, rfl⟩
      rw [hk]; show AV.bool _ = AV.bool _; congr 1 <;> first | (simp only [kOK]; (first | rw [h5] | rw [h8]); simp; done) | (simp [kOK, lcells_length, *]; done) | ((try simp only [lcells_length] at *); simp [kOK, *] <;> (intros; omega))
     ·rw [h5]; replace h5 := zcl h5
      refine zv3 ?_
      show ∃ z : Unit, _ ∧ _ ∧ _
      refine ⟨(), (by rw [hk]; decide), ⟨rfl, ?_, trivial⟩, rfl⟩
      rw [hk]; show AV.bool _ = AV.bool _; congr 1 <;> first | (simp only [kOK]; (first | rw [h5] | rw [h8]); simp; done) | (simp [kOK, lcells_length, *]; done) | ((try simp only [lcells_length] at *); simp [kOK, *] <;> (intros; omega))
   ·rw [h2]; replace h2 := zcl h2
    refine zv6 ?_
    refine AWp_seq ?_
    refine zw1 ?_
    refine AWp_block ?_
    -- loop 1 LIVE 0:param 3:box 4:assign 5:assign 7:assign 13:move
    refine AWp_loop (ι := Nat) (fun i => i ≤ v.l.length) (fun i => ⟨[], [(3, .ptr (σ.length + 0) 0), (5, .bool (txB v && decide (0 < v.l.length) && (v.l.take i).all tyB)), (7, .int .i64 (i : Int))]⟩) (fun i => σ ++ [_]) (fun i => v.l.length - i) (0) (Nat.zero_le _) ?_ rfl (fun i hi => ?_)
    ·refine ⟨rfl, rfl, ?_, rfl, trivial⟩
     show AV.bool _ = AV.bool _; congr 1; simp [*]
    refine AWp_seq ?_
    refine zw5 ?_
    refine AWp_cond rfl (fun h6 => ?_) (fun h6 => ?_)
    ·(try rw [h6]); replace h6 := zcl h6
     obtain ⟨x, hx⟩ : ∃ x, v.l[i]? = some x := ⟨_, List.getElem?_eq_getElem (show i < v.l.length by omega)⟩
     refine AWp_skip ?_
     refine AWp_seq ?_
     refine AWp_block ?_
     refine zu4 ?_
     rw [vcells_eq x]
     refine zg1 ?_
     refine zt rfl (zc rfl (vcells_eq x ▸ rtyp_c x _)) ?_
     refine zv1 ?_
     refine AWp_regL ?_
     refine zg2 ?_
     refine zsp 39 rfl (fun h7 => ?_) fun h7 => ?_
     ·rw [h7]; replace h7 := zcl h7
      refine zv3 ?_
      refine AWp_regL ?_
      refine zv3 ?_
      refine ⟨i + 1, σ.length + 1, by omega, by omega, by simp, ⟨rfl, rfl, ?_, rfl, trivial⟩, closed_own 1 hcl ?_, ?_, take_own 1⟩
      ·show AV.bool _ = AV.bool _; congr 1; rw [List.take_add_one, hx]; simp only [Option.toList, List.all_append, List.all_cons, List.all_nil, Bool.and_true]; rw [← Bool.and_assoc]; (first | rw [h4] | rw [h7]); rfl
      ·simp [ownLt, AO.cells, AV.ltL, AV.lt]
      ·simp [ltE, AV.lt]
     ·rw [h7]; replace h7 := zcl h7
      refine zv3 ?_
      refine AWp_regL ?_
      refine zv3 ?_
      refine ⟨i + 1, σ.length + 1, by omega, by omega, by simp, ⟨rfl, rfl, ?_, rfl, trivial⟩, closed_own 1 hcl ?_, ?_, take_own 1⟩
      ·show AV.bool _ = AV.bool _; congr 1; rw [List.take_add_one, hx]; simp only [Option.toList, List.all_append, List.all_cons, List.all_nil, Bool.and_true]; rw [← Bool.and_assoc]; (first | rw [h4] | rw [h7]); rfl
      ·simp [ownLt, AO.cells, AV.ltL, AV.lt]
      ·simp [ltE, AV.lt]
    ·(try rw [h6]); replace h6 := zcl h6
     have hie : i = v.l.length := by omega
     subst hie
     rw [List.take_length]
     refine AWp_exit ?_
     refine zu1 ?_
     refine zt rfl (zc rfl (vcells_eq v ▸ rtyp_c v _)) ?_
     refine zv1 ?_
     refine AWp_regL ?_
     refine zg2 ?_
     refine zsp 45 rfl (fun h8 => ?_) fun h8 => ?_
     ·rw [h8]; replace h8 := zcl h8
      refine zv3 ?_
      show ∃ z : Unit, _ ∧ _ ∧ _
      refine ⟨(), (by rw [hk]; decide), ⟨rfl, ?_, trivial⟩, rfl⟩
      rw [hk]; show AV.bool _ = AV.bool _; congr 1 <;> first | (simp only [kOK]; (first | rw [h5] | rw [h8]); simp; done) | (simp [kOK, lcells_length, *]; done) | ((try simp only [lcells_length] at *); simp [kOK, *] <;> (intros; omega))
     ·rw [h8]; replace h8 := zcl h8
      refine zv3 ?_
      show ∃ z : Unit, _ ∧ _ ∧ _
      refine ⟨(), (by rw [hk]; decide), ⟨rfl, ?_, trivial⟩, rfl⟩
      rw [hk]; show AV.bool _ = AV.bool _; congr 1 <;> first | (simp only [kOK]; (first | rw [h5] | rw [h8]); simp; done) | (simp [kOK, lcells_length, *]; done) | ((try simp only [lcells_length] at *); simp [kOK, *] <;> (intros; omega))
  ·(try rw [h1]); replace h1 := zcl h1
   refine zw2 ?_
   refine AWp_cond rfl (fun h9 => ?_) (fun h9 => ?_)
   ·(try rw [h9]); replace h9 := zcl h9
    have hk : rk name = 2 := by rw [h9]; decide +kernel
    refine AWp_regL ?_
    refine zg4 ?_
    refine zsp 53 rfl (fun h10 => ?_) fun h10 => ?_
    ·rw [h10]; replace h10 := zcl h10
     refine zv6 ?_
     show ∃ z : Unit, _ ∧ _ ∧ _
     refine ⟨(), (by rw [hk]; decide), ⟨rfl, ?_, trivial⟩, rfl⟩
     rw [hk]; show AV.bool _ = AV.bool _; congr 1 <;> first | (simp only [kOK]; (first | rw [h5] | rw [h8]); simp; done) | (simp [kOK, lcells_length, *]; done) | ((try simp only [lcells_length] at *); simp [kOK, *] <;> (intros; omega))
    ·rw [h10]; replace h10 := zcl h10
     refine zv6 ?_
     show ∃ z : Unit, _ ∧ _ ∧ _
     refine ⟨(), (by rw [hk]; decide), ⟨rfl, ?_, trivial⟩, rfl⟩
     rw [hk]; show AV.bool _ = AV.bool _; congr 1 <;> first | (simp only [kOK]; (first | rw [h5] | rw [h8]); simp; done) | (simp [kOK, lcells_length, *]; done) | ((try simp only [lcells_length] at *); simp [kOK, *] <;> (intros; omega))
   ·(try rw [h9]); replace h9 := zcl h9
    refine zw2 ?_
    refine AWp_cond rfl (fun h11 => ?_) (fun h11 => ?_)
    ·(try rw [h11]); replace h11 := zcl h11
     have hk : rk name = 3 := by rw [h11]; decide +kernel
     refine AWp_regL ?_
     refine zv1 ?_
     show ∃ z : Unit, _ ∧ _ ∧ _
     refine ⟨(), (by rw [hk]; decide), ⟨rfl, ?_, trivial⟩, rfl⟩
     rw [hk]; show AV.bool _ = AV.bool _; congr 1 <;> first | (simp only [kOK]; (first | rw [h5] | rw [h8]); simp; done) | (simp [kOK, lcells_length, *]; done) | ((try simp only [lcells_length] at *); simp [kOK, *] <;> (intros; omega))
    ·(try rw [h11]); replace h11 := zcl h11
     refine AWp_seq ?_
     refine zw2 ?_
     refine AWp_cond rfl (fun h12 => ?_) (fun h12 => ?_)
     ·(try rw [h12]); replace h12 := zcl h12
      have hk : rk name = 4 := by rw [h12]; decide +kernel
      refine AWp_skip ?_
      refine AWp_condT rfl ?_
      refine AWp_regL ?_
      refine zv4 ?_
      show ∃ z : Unit, _ ∧ _ ∧ _
      refine ⟨(), (by rw [hk]; decide), ⟨rfl, ?_, trivial⟩, rfl⟩
      rw [hk]; show AV.bool _ = AV.bool _; congr 1 <;> first | (simp only [kOK]; (first | rw [h5] | rw [h8]); simp; done) | (simp [kOK, lcells_length, *]; done) | ((try simp only [lcells_length] at *); simp [kOK, *] <;> (intros; omega))
     ·(try rw [h12]); replace h12 := zcl h12
      refine AWp_regL ?_
      refine zv2 ?_
      refine AWp_cond rfl (fun h13 => ?_) (fun h13 => ?_)
      ·(try rw [h13]); replace h13 := zcl h13
       have hk : rk name = 4 := by rw [h13]; decide +kernel
       refine AWp_regL ?_
       refine zv4 ?_
       show ∃ z : Unit, _ ∧ _ ∧ _
       refine ⟨(), (by rw [hk]; decide), ⟨rfl, ?_, trivial⟩, rfl⟩
       rw [hk]; show AV.bool _ = AV.bool _; congr 1 <;> first | (simp only [kOK]; (first | rw [h5] | rw [h8]); simp; done) | (simp [kOK, lcells_length, *]; done) | ((try simp only [lcells_length] at *); simp [kOK, *] <;> (intros; omega))
      ·(try rw [h13]); replace h13 := zcl h13
       refine AWp_seq ?_
       refine zw2 ?_
       refine AWp_cond rfl (fun h14 => ?_) (fun h14 => ?_)
       ·(try rw [h14]); replace h14 := zcl h14
        have hk : rk name = 5 := by rw [h14]; decide +kernel
        refine AWp_skip ?_
        refine AWp_condT rfl ?_
        refine zu2 ?_
        refine zt rfl (zc rfl (rwhole_c v.n _)) ?_
        refine zv1 ?_
        refine AWp_regL ?_
        refine zg4 ?_
        refine zsp 78 rfl (fun h15 => ?_) fun h15 => ?_
        ·rw [h15]; replace h15 := zcl h15
         refine zg3 ?_
         refine zsp 81 rfl (fun h16 => ?_) fun h16 => ?_
         ·rw [h16]; replace h16 := zcl h16
          refine zv6 ?_
          show ∃ z : Unit, _ ∧ _ ∧ _
          refine ⟨(), (by rw [hk]; decide), ⟨rfl, ?_, trivial⟩, rfl⟩
          rw [hk]; show AV.bool _ = AV.bool _; congr 1 <;> first | (simp only [kOK]; (first | rw [h5] | rw [h8]); simp; done) | (simp [kOK, lcells_length, *]; done) | ((try simp only [lcells_length] at *); simp [kOK, *] <;> (intros; omega))
         ·rw [h16]; replace h16 := zcl h16
          refine zv6 ?_
          show ∃ z : Unit, _ ∧ _ ∧ _
          refine ⟨(), (by rw [hk]; decide), ⟨rfl, ?_, trivial⟩, rfl⟩
          rw [hk]; show AV.bool _ = AV.bool _; congr 1 <;> first | (simp only [kOK]; (first | rw [h5] | rw [h8]); simp; done) | (simp [kOK, lcells_length, *]; done) | ((try simp only [lcells_length] at *); simp [kOK, *] <;> (intros; omega))
        ·rw [h15]; replace h15 := zcl h15
         refine zv9 ?_
         show ∃ z : Unit, _ ∧ _ ∧ _
         refine ⟨(), (by rw [hk]; decide), ⟨rfl, ?_, trivial⟩, rfl⟩
         rw [hk]; show AV.bool _ = AV.bool _; congr 1 <;> first | (simp only [kOK]; (first | rw [h5] | rw [h8]); simp; done) | (simp [kOK, lcells_length, *]; done) | ((try simp only [lcells_length] at *); simp [kOK, *] <;> (intros; omega))
       ·(try rw [h14]); replace h14 := zcl h14
        refine zw2 ?_
        refine AWp_cond rfl (fun h17 => ?_) (fun h17 => ?_)
        ·(try rw [h17]); replace h17 := zcl h17
         have hk : rk name = 5 := by rw [h17]; decide +kernel
         refine AWp_skip ?_
         refine AWp_condT rfl ?_
         refine zu2 ?_
         refine zt rfl (zc rfl (rwhole_c v.n _)) ?_
         refine zv1 ?_
         refine AWp_regL ?_
         refine zg4 ?_
         refine zsp 78 rfl (fun h18 => ?_) fun h18 => ?_
         ·rw [h18]; replace h18 := zcl h18
          refine zg3 ?_
          refine zsp 81 rfl (fun h19 => ?_) fun h19 => ?_
          ·rw [h19]; replace h19 := zcl h19
           refine zv6 ?_
           show ∃ z : Unit, _ ∧ _ ∧ _
           refine ⟨(), (by rw [hk]; decide), ⟨rfl, ?_, trivial⟩, rfl⟩
           rw [hk]; show AV.bool _ = AV.bool _; congr 1 <;> first | (simp only [kOK]; (first | rw [h5] | rw [h8]); simp; done) | (simp [kOK, lcells_length, *]; done) | ((try simp only [lcells_length] at *); simp [kOK, *] <;> (intros; omega))
          ·rw [h19]; replace h19 := zcl h19
           refine zv6 ?_
           show ∃ z : Unit, _ ∧ _ ∧ _
           refine ⟨(), (by rw [hk]; decide), ⟨rfl, ?_, trivial⟩, rfl⟩
           rw [hk]; show AV.bool _ = AV.bool _; congr 1 <;> first | (simp only [kOK]; (first | rw [h5] | rw [h8]); simp; done) | (simp [kOK, lcells_length, *]; done) | ((try simp only [lcells_length] at *); simp [kOK, *] <;> (intros; omega))
         ·rw [h18]; replace h18 := zcl h18
          refine zv9 ?_
          show ∃ z : Unit, _ ∧ _ ∧ _
          refine ⟨(), (by rw [hk]; decide), ⟨rfl, ?_, trivial⟩, rfl⟩
          rw [hk]; show AV.bool _ = AV.bool _; congr 1 <;> first | (simp only [kOK]; (first | rw [h5] | rw [h8]); simp; done) | (simp [kOK, lcells_length, *]; done) | ((try simp only [lcells_length] at *); simp [kOK, *] <;> (intros; omega))
        ·(try rw [h17]); replace h17 := zcl h17
         refine zw2 ?_
         refine AWp_cond rfl (fun h20 => ?_) (fun h20 => ?_)
         ·(try rw [h20]); replace h20 := zcl h20
          have hk : rk name = 5 := by rw [h20]; decide +kernel
          refine AWp_skip ?_
          refine AWp_condT rfl ?_
          refine zu2 ?_
          refine zt rfl (zc rfl (rwhole_c v.n _)) ?_
          refine zv1 ?_
          refine AWp_regL ?_
          refine zg4 ?_
          refine zsp 78 rfl (fun h21 => ?_) fun h21 => ?_
          ·rw [h21]; replace h21 := zcl h21
           refine zg3 ?_
           refine zsp 81 rfl (fun h22 => ?_) fun h22 => ?_
           ·rw [h22]; replace h22 := zcl h22
            refine zv6 ?_
            show ∃ z : Unit, _ ∧ _ ∧ _
            refine ⟨(), (by rw [hk]; decide), ⟨rfl, ?_, trivial⟩, rfl⟩
            rw [hk]; show AV.bool _ = AV.bool _; congr 1 <;> first | (simp only [kOK]; (first | rw [h5] | rw [h8]); simp; done) | (simp [kOK, lcells_length, *]; done) | ((try simp only [lcells_length] at *); simp [kOK, *] <;> (intros; omega))
           ·rw [h22]; replace h22 := zcl h22
            refine zv6 ?_
            show ∃ z : Unit, _ ∧ _ ∧ _
            refine ⟨(), (by rw [hk]; decide), ⟨rfl, ?_, trivial⟩, rfl⟩
            rw [hk]; show AV.bool _ = AV.bool _; congr 1 <;> first | (simp only [kOK]; (first | rw [h5] | rw [h8]); simp; done) | (simp [kOK, lcells_length, *]; done) | ((try simp only [lcells_length] at *); simp [kOK, *] <;> (intros; omega))
          ·rw [h21]; replace h21 := zcl h21
           refine zv9 ?_
           show ∃ z : Unit, _ ∧ _ ∧ _
           refine ⟨(), (by rw [hk]; decide), ⟨rfl, ?_, trivial⟩, rfl⟩
           rw [hk]; show AV.bool _ = AV.bool _; congr 1 <;> first | (simp only [kOK]; (first | rw [h5] | rw [h8]); simp; done) | (simp [kOK, lcells_length, *]; done) | ((try simp only [lcells_length] at *); simp [kOK, *] <;> (intros; omega))
         ·(try rw [h20]); replace h20 := zcl h20
          refine AWp_regL ?_
          refine zv2 ?_
          refine AWp_cond rfl (fun h23 => ?_) (fun h23 => ?_)
          ·(try rw [h23]); replace h23 := zcl h23
           have hk : rk name = 5 := by rw [h23]; decide +kernel
           refine zu2 ?_
           refine zt rfl (zc rfl (rwhole_c v.n _)) ?_
           refine zv1 ?_
           refine AWp_regL ?_
           refine zg4 ?_
           refine zsp 78 rfl (fun h24 => ?_) fun h24 => ?_
           ·rw [h24]; replace h24 := zcl h24
            refine zg3 ?_
            refine zsp 81 rfl (fun h25 => ?_) fun h25 => ?_
            ·rw [h25]; replace h25 := zcl h25
             refine zv6 ?_
             show ∃ z : Unit, _ ∧ _ ∧ _
             refine ⟨(), (by rw [hk]; decide), ⟨rfl, ?_, trivial⟩, rfl⟩
             rw [hk]; show AV.bool _ = AV.bool _; congr 1 <;> first | (simp only [kOK]; (first | rw [h5] | rw [h8]); simp; done) | (simp [kOK, lcells_length, *]; done) | ((try simp only [lcells_length] at *); simp [kOK, *] <;> (intros; omega))
            ·rw [h25]; replace h25 := zcl h25
             refine zv6 ?_
             show ∃ z : Unit, _ ∧ _ ∧ _
             refine ⟨(), (by rw [hk]; decide), ⟨rfl, ?_, trivial⟩, rfl⟩
             rw [hk]; show AV.bool _ = AV.bool _; congr 1 <;> first | (simp only [kOK]; (first | rw [h5] | rw [h8]); simp; done) | (simp [kOK, lcells_length, *]; done) | ((try simp only [lcells_length] at *); simp [kOK, *] <;> (intros; omega))
           ·rw [h24]; replace h24 := zcl h24
            refine zv9 ?_
            show ∃ z : Unit, _ ∧ _ ∧ _
            refine ⟨(), (by rw [hk]; decide), ⟨rfl, ?_, trivial⟩, rfl⟩
            rw [hk]; show AV.bool _ = AV.bool _; congr 1 <;> first | (simp only [kOK]; (first | rw [h5] | rw [h8]); simp; done) | (simp [kOK, lcells_length, *]; done) | ((try simp only [lcells_length] at *); simp [kOK, *] <;> (intros; omega))
          ·(try rw [h23]); replace h23 := zcl h23
           refine zw2 ?_
           refine AWp_cond rfl (fun h26 => ?_) (fun h26 => ?_)
           ·(try rw [h26]); replace h26 := zcl h26
            have hk : rk name = 6 := by rw [h26]; decide +kernel
            refine AWp_regL ?_
            refine zv4 ?_
            show ∃ z : Unit, _ ∧ _ ∧ _
            refine ⟨(), (by rw [hk]; decide), ⟨rfl, ?_, trivial⟩, rfl⟩
            rw [hk]; show AV.bool _ = AV.bool _; congr 1 <;> first | (simp only [kOK]; (first | rw [h5] | rw [h8]); simp; done) | (simp [kOK, lcells_length, *]; done) | ((try simp only [lcells_length] at *); simp [kOK, *] <;> (intros; omega))
           ·(try rw [h26]); replace h26 := zcl h26
            refine zw2 ?_
            refine AWp_cond rfl (fun h27 => ?_) (fun h27 => ?_)
            ·(try rw [h27]); replace h27 := zcl h27
             have hk : rk name = 7 := by rw [h27]; decide +kernel
             refine AWp_regL ?_
             refine zg1 ?_
             refine zt rfl (zc rfl (vcells_eq v ▸ rtxt_c v _ hl)) ?_
             refine zv1 ?_
             show ∃ z : Unit, _ ∧ _ ∧ _
             refine ⟨(), (by rw [hk]; decide), ⟨rfl, ?_, trivial⟩, rfl⟩
             rw [hk]; show AV.bool _ = AV.bool _; congr 1 <;> first | (simp only [kOK]; (first | rw [h5] | rw [h8]); simp; done) | (simp [kOK, lcells_length, *]; done) | ((try simp only [lcells_length] at *); simp [kOK, *] <;> (intros; omega))
            ·(try rw [h27]); replace h27 := zcl h27
             refine AWp_seq ?_
             refine zw2 ?_
             refine AWp_cond rfl (fun h28 => ?_) (fun h28 => ?_)
             ·(try rw [h28]); replace h28 := zcl h28
              have hk : rk name = 8 := by rw [h28]; decide +kernel
              refine AWp_skip ?_
              refine AWp_condT rfl ?_
              refine AWp_regL ?_
              refine zg1 ?_
              refine zt rfl (zc rfl (vcells_eq v ▸ rsch_c v _)) ?_
              refine zv1 ?_
              show ∃ z : Unit, _ ∧ _ ∧ _
              refine ⟨(), (by rw [hk]; decide), ⟨rfl, ?_, trivial⟩, rfl⟩
              rw [hk]; show AV.bool _ = AV.bool _; congr 1 <;> first | (simp only [kOK]; (first | rw [h5] | rw [h8]); simp; done) | (simp [kOK, lcells_length, *]; done) | ((try simp only [lcells_length] at *); simp [kOK, *] <;> (intros; omega))
             ·(try rw [h28]); replace h28 := zcl h28
              refine zw2 ?_
              refine AWp_cond rfl (fun h29 => ?_) (fun h29 => ?_)
              ·(try rw [h29]); replace h29 := zcl h29
               have hk : rk name = 8 := by rw [h29]; decide +kernel
               refine AWp_skip ?_
               refine AWp_condT rfl ?_
               refine AWp_regL ?_
               refine zg1 ?_
               refine zt rfl (zc rfl (vcells_eq v ▸ rsch_c v _)) ?_
               refine zv1 ?_
               show ∃ z : Unit, _ ∧ _ ∧ _
               refine ⟨(), (by rw [hk]; decide), ⟨rfl, ?_, trivial⟩, rfl⟩
               rw [hk]; show AV.bool _ = AV.bool _; congr 1 <;> first | (simp only [kOK]; (first | rw [h5] | rw [h8]); simp; done) | (simp [kOK, lcells_length, *]; done) | ((try simp only [lcells_length] at *); simp [kOK, *] <;> (intros; omega))
              ·(try rw [h29]); replace h29 := zcl h29
               refine AWp_regL ?_
               refine zv2 ?_
               refine AWp_cond rfl (fun h30 => ?_) (fun h30 => ?_)
               ·(try rw [h30]); replace h30 := zcl h30
                have hk : rk name = 8 := by rw [h30]; decide +kernel
                refine AWp_regL ?_
                refine zg1 ?_
                refine zt rfl (zc rfl (vcells_eq v ▸ rsch_c v _)) ?_
                refine zv1 ?_
                show ∃ z : Unit, _ ∧ _ ∧ _
                refine ⟨(), (by rw [hk]; decide), ⟨rfl, ?_, trivial⟩, rfl⟩
                rw [hk]; show AV.bool _ = AV.bool _; congr 1 <;> first | (simp only [kOK]; (first | rw [h5] | rw [h8]); simp; done) | (simp [kOK, lcells_length, *]; done) | ((try simp only [lcells_length] at *); simp [kOK, *] <;> (intros; omega))
               ·(try rw [h30]); replace h30 := zcl h30
                refine AWp_seq ?_
                refine zw2 ?_
                refine AWp_cond rfl (fun h31 => ?_) (fun h31 => ?_)
                ·(try rw [h31]); replace h31 := zcl h31
                 have hk : rk name = 9 := by rw [h31]; decide +kernel
                 refine AWp_skip ?_
                 refine AWp_condT rfl ?_
                 refine zu2 ?_
                 refine zt rfl (zc rfl (rall_c v.m _ hm)) ?_
                 refine zv1 ?_
                 refine AWp_regL ?_
                 refine zg4 ?_
                 refine zsp 111 rfl (fun h32 => ?_) fun h32 => ?_
                 ·rw [h32]; replace h32 := zcl h32
                  refine zv3 ?_
                  show ∃ z : Unit, _ ∧ _ ∧ _
                  refine ⟨(), (by rw [hk]; decide), ⟨rfl, ?_, trivial⟩, rfl⟩
                  rw [hk]; show AV.bool _ = AV.bool _; congr 1 <;> first | (simp only [kOK]; (first | rw [h5] | rw [h8]); simp; done) | (simp [kOK, lcells_length, *]; done) | ((try simp only [lcells_length] at *); simp [kOK, *] <;> (intros; omega))
                 ·rw [h32]; replace h32 := zcl h32
                  refine zv3 ?_
                  show ∃ z : Unit, _ ∧ _ ∧ _
                  refine ⟨(), (by rw [hk]; decide), ⟨rfl, ?_, trivial⟩, rfl⟩
                  rw [hk]; show AV.bool _ = AV.bool _; congr 1 <;> first | (simp only [kOK]; (first | rw [h5] | rw [h8]); simp; done) | (simp [kOK, lcells_length, *]; done) | ((try simp only [lcells_length] at *); simp [kOK, *] <;> (intros; omega))
                ·(try rw [h31]); replace h31 := zcl h31
                 refine AWp_regL ?_
                 refine zv2 ?_
                 refine AWp_cond rfl (fun h33 => ?_) (fun h33 => ?_)
                 ·(try rw [h33]); replace h33 := zcl h33
                  have hk : rk name = 9 := by rw [h33]; decide +kernel
                  refine zu2 ?_
                  refine zt rfl (zc rfl (rall_c v.m _ hm)) ?_
                  refine zv1 ?_
                  refine AWp_regL ?_
                  refine zg4 ?_
                  refine zsp 111 rfl (fun h34 => ?_) fun h34 => ?_
                  ·rw [h34]; replace h34 := zcl h34
                   refine zv3 ?_
                   show ∃ z : Unit, _ ∧ _ ∧ _
                   refine ⟨(), (by rw [hk]; decide), ⟨rfl, ?_, trivial⟩, rfl⟩
                   rw [hk]; show AV.bool _ = AV.bool _; congr 1 <;> first | (simp only [kOK]; (first | rw [h5] | rw [h8]); simp; done) | (simp [kOK, lcells_length, *]; done) | ((try simp only [lcells_length] at *); simp [kOK, *] <;> (intros; omega))
                  ·rw [h34]; replace h34 := zcl h34
                   refine zv3 ?_
                   show ∃ z : Unit, _ ∧ _ ∧ _
                   refine ⟨(), (by rw [hk]; decide), ⟨rfl, ?_, trivial⟩, rfl⟩
                   rw [hk]; show AV.bool _ = AV.bool _; congr 1 <;> first | (simp only [kOK]; (first | rw [h5] | rw [h8]); simp; done) | (simp [kOK, lcells_length, *]; done) | ((try simp only [lcells_length] at *); simp [kOK, *] <;> (intros; omega))
                 ·(try rw [h33]); replace h33 := zcl h33
                  refine AWp_seq ?_
                  refine zw2 ?_
                  refine AWp_cond rfl (fun h35 => ?_) (fun h35 => ?_)
                  ·(try rw [h35]); replace h35 := zcl h35
                   have hk : rk name = 10 := by rw [h35]; decide +kernel
                   refine AWp_skip ?_
                   refine AWp_condT rfl ?_
                   refine zu2 ?_
                   refine zt rfl (zc rfl (vcells_eq v ▸ rkids_c name v _ hl)) ?_
                   refine zt rfl (zc rfl (rall_c _ _ (by rw [kidsM_10 v hk, kZ_len]; exact hl))) ?_
                   rw [kidsM_10 v hk, kZ_all schB]
                   refine zv1 ?_
                   refine AWp_regL ?_
                   refine zg4 ?_
                   refine zsp 125 rfl (fun h36 => ?_) fun h36 => ?_
                   ·rw [h36]; replace h36 := zcl h36
                    refine zg6 ?_
                    refine zsp 131 rfl (fun h37 => ?_) fun h37 => ?_
                    ·rw [h37]; replace h37 := zcl h37
                     refine zv3 ?_
                     show ∃ z : Unit, _ ∧ _ ∧ _
                     refine ⟨(), (by rw [hk]; decide), ⟨rfl, ?_, trivial⟩, rfl⟩
                     rw [hk]; show AV.bool _ = AV.bool _; congr 1 <;> first | (simp only [kOK]; (first | rw [h5] | rw [h8]); simp; done) | (simp [kOK, lcells_length, *]; done) | ((try simp only [lcells_length] at *); simp [kOK, *] <;> (intros; omega))
                    ·rw [h37]; replace h37 := zcl h37
                     refine zv3 ?_
                     show ∃ z : Unit, _ ∧ _ ∧ _
                     refine ⟨(), (by rw [hk]; decide), ⟨rfl, ?_, trivial⟩, rfl⟩
                     rw [hk]; show AV.bool _ = AV.bool _; congr 1 <;> first | (simp only [kOK]; (first | rw [h5] | rw [h8]); simp; done) | (simp [kOK, lcells_length, *]; done) | ((try simp only [lcells_length] at *); simp [kOK, *] <;> (intros; omega))
                   ·rw [h36]; replace h36 := zcl h36
                    refine zv9 ?_
                    show ∃ z : Unit, _ ∧ _ ∧ _
                    refine ⟨(), (by rw [hk]; decide), ⟨rfl, ?_, trivial⟩, rfl⟩
                    rw [hk]; show AV.bool _ = AV.bool _; congr 1 <;> first | (simp only [kOK]; (first | rw [h5] | rw [h8]); simp; done) | (simp [kOK, lcells_length, *]; done) | ((try simp only [lcells_length] at *); simp [kOK, *] <;> (intros; omega))
                  ·(try rw [h35]); replace h35 := zcl h35
                   refine zw2 ?_
                   refine AWp_cond rfl (fun h38 => ?_) (fun h38 => ?_)
                   ·(try rw [h38]); replace h38 := zcl h38
                    have hk : rk name = 10 := by rw [h38]; decide +kernel
                    refine AWp_skip ?_
                    refine AWp_condT rfl ?_
                    refine zu2 ?_
                    refine zt rfl (zc rfl (vcells_eq v ▸ rkids_c name v _ hl)) ?_
                    refine zt rfl (zc rfl (rall_c _ _ (by rw [kidsM_10 v hk, kZ_len]; exact hl))) ?_
                    rw [kidsM_10 v hk, kZ_all schB]
                    refine zv1 ?_
                    refine AWp_regL ?_
                    refine zg4 ?_
                    refine zsp 125 rfl (fun h39 => ?_) fun h39 => ?_
                    ·rw [h39]; replace h39 := zcl h39
                     refine zg6 ?_
                     refine zsp 131 rfl (fun h40 => ?_) fun h40 => ?_
                     ·rw [h40]; replace h40 := zcl h40
                      refine zv3 ?_
                      show ∃ z : Unit, _ ∧ _ ∧ _
                      refine ⟨(), (by rw [hk]; decide), ⟨rfl, ?_, trivial⟩, rfl⟩
                      rw [hk]; show AV.bool _ = AV.bool _; congr 1 <;> first | (simp only [kOK]; (first | rw [h5] | rw [h8]); simp; done) | (simp [kOK, lcells_length, *]; done) | ((try simp only [lcells_length] at *); simp [kOK, *] <;> (intros; omega))
                     ·rw [h40]; replace h40 := zcl h40
                      refine zv3 ?_
                      show ∃ z : Unit, _ ∧ _ ∧ _
                      refine ⟨(), (by rw [hk]; decide), ⟨rfl, ?_, trivial⟩, rfl⟩
                      rw [hk]; show AV.bool _ = AV.bool _; congr 1 <;> first | (simp only [kOK]; (first | rw [h5] | rw [h8]); simp; done) | (simp [kOK, lcells_length, *]; done) | ((try simp only [lcells_length] at *); simp [kOK, *] <;> (intros; omega))
                    ·rw [h39]; replace h39 := zcl h39
                     refine zv9 ?_
                     show ∃ z : Unit, _ ∧ _ ∧ _
                     refine ⟨(), (by rw [hk]; decide), ⟨rfl, ?_, trivial⟩, rfl⟩
                     rw [hk]; show AV.bool _ = AV.bool _; congr 1 <;> first | (simp only [kOK]; (first | rw [h5] | rw [h8]); simp; done) | (simp [kOK, lcells_length, *]; done) | ((try simp only [lcells_length] at *); simp [kOK, *] <;> (intros; omega))
                   ·(try rw [h38]); replace h38 := zcl h38
                    refine AWp_regL ?_
                    refine zv2 ?_
                    refine AWp_cond rfl (fun h41 => ?_) (fun h41 => ?_)
                    ·(try rw [h41]); replace h41 := zcl h41
                     have hk : rk name = 10 := by rw [h41]; decide +kernel
                     refine zu2 ?_
                     refine zt rfl (zc rfl (vcells_eq v ▸ rkids_c name v _ hl)) ?_
                     refine zt rfl (zc rfl (rall_c _ _ (by rw [kidsM_10 v hk, kZ_len]; exact hl))) ?_
                     rw [kidsM_10 v hk, kZ_all schB]
                     refine zv1 ?_
                     refine AWp_regL ?_
                     refine zg4 ?_
                     refine zsp 125 rfl (fun h42 => ?_) fun h42 => ?_
                     ·rw [h42]; replace h42 := zcl h42
                      refine zg6 ?_
                      refine zsp 131 rfl (fun h43 => ?_) fun h43 => ?_
                      ·rw [h43]; replace h43 := zcl h43
                       refine zv3 ?_
                       show ∃ z : Unit, _ ∧ _ ∧ _
                       refine ⟨(), (by rw [hk]; decide), ⟨rfl, ?_, trivial⟩, rfl⟩
                       rw [hk]; show AV.bool _ = AV.bool _; congr 1 <;> first | (simp only [kOK]; (first | rw [h5] | rw [h8]); simp; done) | (simp [kOK, lcells_length, *]; done) | ((try simp only [lcells_length] at *); simp [kOK, *] <;> (intros; omega))
                      ·rw [h43]; replace h43 := zcl h43
                       refine zv3 ?_
                       show ∃ z : Unit, _ ∧ _ ∧ _
                       refine ⟨(), (by rw [hk]; decide), ⟨rfl, ?_, trivial⟩, rfl⟩
                       rw [hk]; show AV.bool _ = AV.bool _; congr 1 <;> first | (simp only [kOK]; (first | rw [h5] | rw [h8]); simp; done) | (simp [kOK, lcells_length, *]; done) | ((try simp only [lcells_length] at *); simp [kOK, *] <;> (intros; omega))
                     ·rw [h42]; replace h42 := zcl h42
                      refine zv9 ?_
                      show ∃ z : Unit, _ ∧ _ ∧ _
                      refine ⟨(), (by rw [hk]; decide), ⟨rfl, ?_, trivial⟩, rfl⟩
                      rw [hk]; show AV.bool _ = AV.bool _; congr 1 <;> first | (simp only [kOK]; (first | rw [h5] | rw [h8]); simp; done) | (simp [kOK, lcells_length, *]; done) | ((try simp only [lcells_length] at *); simp [kOK, *] <;> (intros; omega))
                    ·(try rw [h41]); replace h41 := zcl h41
                     refine zw2 ?_
                     refine AWp_cond rfl (fun h44 => ?_) (fun h44 => ?_)
                     ·(try rw [h44]); replace h44 := zcl h44
                      have hk : rk name = 11 := by rw [h44]; decide +kernel
                      refine AWp_regL ?_
                      refine zv4 ?_
                      show ∃ z : Unit, _ ∧ _ ∧ _
                      refine ⟨(), (by rw [hk]; decide), ⟨rfl, ?_, trivial⟩, rfl⟩
                      rw [hk]; show AV.bool _ = AV.bool _; congr 1 <;> first | (simp only [kOK]; (first | rw [h5] | rw [h8]); simp; done) | (simp [kOK, lcells_length, *]; done) | ((try simp only [lcells_length] at *); simp [kOK, *] <;> (intros; omega))
                     ·(try rw [h44]); replace h44 := zcl h44
                      refine zw1 ?_
                      refine zrt ?_
                      have hk : rk name = 0 := by simp [rk, kwL, *]
                      exact ResQ_1 rfl hcl trivial (Ret_of (by unfold rShape; rw [if_pos hk]))
 ·skip
  refine AWp_seq ?_
  refine zw2 ?_
  refine AWp_cond rfl (fun h45 => ?_) (fun h45 => ?_)
  ·(try rw [h45]); replace h45 := zcl h45
   refine zw1 ?_
   refine zrt ?_
   exact ResQ_1 rfl hcl trivial (Ret_of (by congr 1; simp [rShape, *]))
  ·(try rw [h45]); replace h45 := zcl h45
   refine AWp_skip ?_
   refine zw1 ?_
   refine zrt ?_
   exact ResQ_1 rfl hcl trivial (Ret_of (by congr 1; simp [rShape, *]))
end Lg
namespace Lg
open Go
theorem may_whole {v : JV} (h : jmay v) : rWhole v.n = decide (0 ≤ v.n.exp) := by
  have h := ((jmay_eq v).1 h).1.2.2.2.1
  unfold rWhole
  rcases h with ⟨h1, _, h3⟩ | ⟨h1, _⟩
  · rw [h3]; simp [h1]
  · rw [decide_eq_false h1]; rfl
theorem kZ_get {l : List JV} {i : Nat} {q : ByteArray × JV} (h : (kZ l)[i]? = some q) : l[i]? = some q.2 := by
  unfold kZ at h
  rw [List.getElem?_map, List.getElem?_zipIdx] at h
  cases hx : l[i]? with
  | none => rw [hx] at h; simp at h
  | some x => rw [hx] at h; simp at h; rw [← h]
theorem kids_jb {n : ByteArray} {v : JV} (hv : jb v) {i : Nat} {q : ByteArray × JV} (h : (kidsM n v)[i]? = some q) : jb q.2 ∧ jsize q.2 ≤ jsize v := by
  obtain ⟨_, _, _, _, h5, h6⟩ := (jb_eq v).1 hv
  have hs := jsize_eq v
  have hl := lsize_nn v.l
  have hm := msize_nn v.m
  unfold kidsM at h
  split at h
  · have hi := (List.getElem?_eq_some_iff.1 h).1
    have : i = 0 := by simp at hi; exact hi
    subst this
    cases h
    exact ⟨hv, by simp⟩
  · split at h
    · have := msize_mem h
      exact ⟨(mb_get h6 h).2, by omega⟩
    · split at h
      · have hx := kZ_get (l := v.l) h
        have := lsize_mem hx
        exact ⟨lb_get h5 hx, by omega⟩
      · simp at h
theorem kids_len {n : ByteArray} {v : JV} (hv : jb v) : (kidsM n v).length ≤ 1000000 := by
  obtain ⟨_, _, h3, h4, _, _⟩ := (jb_eq v).1 hv
  unfold kidsM
  split
  · simp
  · split
    · exact h4
    · split
      · have := kZ_len v.l; unfold kZ at this; omega
      · simp
theorem kids_one {n : ByteArray} {v : JV} (h : rk n = 8) : (kidsM n v).length = 1 := by
  unfold kidsM; rw [if_pos h]; rfl
end Lg
namespace Lg
open Go Go.RowKit
variable [GLay]
variable {P : Program} {N : Nat} {e : Env} {σ l : List AO} {Q : QA} {o : Oper}
end Lg
namespace Lg
open Go Go.RowKit
variable [GLay]
variable {P : Program} {N : Nat} {e : Env} {σ l : List AO} {Q : QA} {o : Oper}
end Lg
namespace Lg
open Go Go.RowKit
variable [GLay]
variable {P : Program} {N : Nat} {e : Env} {σ l : List AO} {Q : QA} {o : Oper} {p : Nat} {x y z : AO} {f : FuncId} {args : List AV} {v : AV}
section
variable {T K E : TypeId} {a b c : Operand} {m : List (Int × AV)} {k : Int} {zv : Value}
end
end Lg
namespace Lg
open Go Go.RowKit
variable [GLay]
section
variable {P : Program} {σ : List AO} {e : Env} {o : Oper}
end
end Lg
namespace Lg
open Go Go.RowKit
variable [GLay]
end Lg
namespace Lg
open Go
variable {sz : Nat} {rows : List (List AV)} {row : List AV} {i : Nat}
end Lg
namespace Lg
open Go
section
variable [GLay] {σ : List AO} {p : Nat} {X y z : AO}
end
variable {sz : Nat} {rows : List (List AV)} {row : List AV} {i : Nat}
end Lg
namespace Lg
open Go
end Lg
namespace Lg
open Go
end Lg
namespace Lg
end Lg
namespace Lg
open Go
end Lg
namespace Lg
open Go
end Lg
namespace Lg
open Go
def msorted (m : List BJ) : Prop := m.Pairwise fun p q => blt p.1 q.1 = true
theorem blt_irr [GLay] (a : ByteArray) : blt a a = false := by
  cases h : blt a a with
  | false => rfl
  | true => have := blt_le (a := a) (b := a) (by simp [h]); rw [h] at this; cases this
end Lg
namespace Lg
open Go
end Lg
namespace Lg
open Go
end Lg
namespace Lg
open Go
variable {g : JV → JV × Bool} {nm : BL} {r : List BL} {v : JV}
end Lg
namespace Lg
open Go
theorem may_ms [GLay] {v : JV} (h : jmay v) : msorted v.m := by
  have hm := ((jmay_eq v).1 h).2.1
  refine List.pairwise_iff_getElem.2 fun i j hi hj hij => ?_
  induction j with
  | zero => omega
  | succ j ih =>
    have hs := ((hm (j + 1) v.m[j + 1] hj (List.getElem?_eq_getElem hj)).1).2 v.m[j] (by omega) (by rw [Nat.add_sub_cancel]; exact List.getElem?_eq_getElem (by omega))
    by_cases e : i = j
    · subst e; exact hs
    · exact blt_trans (ih (by omega) (by omega)) hs
inductive jst : JV → Prop where
  | mk (k : Int) (b : Bool) (n : JNum) (s : ByteArray) (l : List JV) (m : List BJ) (h4 : ¬ k = 4 → l = []) (h5 : ¬ k = 5 → m = []) (hs : msorted m) (hl : ∀ x ∈ l, jst x) (hm : ∀ q ∈ m, jst q.2) : jst (.mk k b n s l m)
theorem st_eq (v : JV) : jst v ↔ (¬ v.kind = 4 → v.l = []) ∧ (¬ v.kind = 5 → v.m = []) ∧ msorted v.m ∧ (∀ x ∈ v.l, jst x) ∧ (∀ q ∈ v.m, jst q.2) := by
  constructor
  · intro h
    cases h with
    | mk k b n s l m h4 h5 hs hl hm => exact ⟨h4, h5, hs, hl, hm⟩
  · intro h
    cases v with
    | mk k b n s l m => exact .mk k b n s l m h.1 h.2.1 h.2.2.1 h.2.2.2.1 h.2.2.2.2
theorem st_ms {v : JV} (h : jst v) : msorted v.m := ((st_eq v).1 h).2.2.1
theorem st_get {v : JV} (h : jst v) {i : Nat} {x : JV} (hx : v.l[i]? = some x) : jst x := ((st_eq v).1 h).2.2.2.1 x (List.mem_of_getElem? hx)
theorem st_mget {v : JV} (h : jst v) {i : Nat} {q : BJ} (hq : v.m[i]? = some q) : jst q.2 := ((st_eq v).1 h).2.2.2.2 q (List.mem_of_getElem? hq)
theorem may_st0 [GLay] : ∀ (n : Nat) (v : JV), (jsize v).toNat ≤ n → jmay v → jst v
  | 0, v, h, _ => by have := jsize_pos v; omega
  | n + 1, v, h, hm => by
    have h1 := jsize_eq v
    have h2 := lsize_nn v.l
    have h3 := msize_nn v.m
    rw [st_eq]
    refine ⟨may_nol hm, may_nom hm, may_ms hm, fun x hx => ?_, fun q hq => ?_⟩
    · obtain ⟨i, hi⟩ := List.getElem?_of_mem hx
      have := lsize_mem hi
      have := jsize_pos x
      exact may_st0 n x (by omega) (may_get hm hi)
    · obtain ⟨i, hi⟩ := List.getElem?_of_mem hq
      have := msize_mem hi
      have := jsize_pos q.2
      exact may_st0 n q.2 (by omega) (may_mget hm hi)
theorem may_st [GLay] {v : JV} (h : jmay v) : jst v := may_st0 _ v (Nat.le_refl _) h
end Lg
namespace Lg
open Go
section
variable {last : Bool} {op : Int} {k : Nat} {x y : JV} {l : List JV}
end
section
variable [GLay] {last : Bool} {op : Int} {key : ByteArray} {x : JV} {f : JV → JV}
theorem blt_ne {a b : ByteArray} (h : blt a b = true) : ¬ a = b := fun e => by subst e; rw [blt_irr] at h; cases h
end
end Lg
namespace Lg
open Go
variable [GLay]
variable {op : Int} {x : JV} {g : JV → JV × Bool} {r0 : List BL}
end Lg
namespace Lg
open Go
variable [GLay]
end Lg
namespace Lg
end Lg
namespace Lg
open Go
end Lg
namespace Lg
open Go
section
variable [GLay] {key : ByteArray} {x y : JV}
end
section
variable [GLay] {nm : BL} {r : List BL} {v : JV}
end
section
variable [GLay] {g : JV → JV × Bool}
end
section
variable [GLay] {nm : BL} {x u : JV}
theorem itoa_ix {n : Nat} (h : n ≤ 1000000) : ¬ jixB (Lib.itoa (n : Int)) ∧ valL 0 (Lib.itoa (n : Int)) = n := by
  rw [itoa_pos (by omega), Int.toNat_natCast]
  obtain ⟨h1, h2, h3, h4⟩ := dd_facts n
  refine ⟨?_, h2⟩
  have hr : runl (ba (Lib.decDigits n)) 0 = (Lib.decDigits n).length := aD_run.1 h1
  have hl := dd_len n 6 (by omega)
  rintro (e | e | ⟨e1, e2⟩ | e)
  · exact h3 e
  · exact e hr
  · have hn : ¬ n < 10 := fun hn => by rw [dd_small hn] at e1; simp at e1
    have := h4 (by omega)
    apply this
    cases hd : Lib.decDigits n with
    | nil => exact absurd hd h3
    | cons c r =>
      rw [hd] at e2
      have : bat (ba (c :: r)) 0 = c := by rw [bat_ba]; rfl
      rw [this] at e2
      have : c = 48 := UInt8.toNat_inj.1 e2
      rw [this]; rfl
  · omega
end
section
variable [GLay] {x z v : JV} {l0 : List BL} {nm : BL}
end
end Lg
namespace Lg
open Go
end Lg
namespace Lg
open Go
section
variable [GLay] {g : JV → JV × Bool} {C : Int}
end
structure OPB (o : JOp) : Prop where
  lo : 1 ≤ o.op
  hi : o.op ≤ 6
  jb : Lg.jb o.v
  st : jst o.v
  sz : jsize o.v ≤ 3000
  pa : o.pa.length ≤ 2000000
  fr : o.fr.length ≤ 2000000
  pan : ∀ n ∈ o.pa, n.length ≤ 1000000
  frn : ∀ n ∈ o.fr, n.length ≤ 1000000
section
variable [GLay] {v : JV} {o : JOp}
theorem shw_inj {a b : List BL} : ba (shw a) = ba (shw b) ↔ a = b := by
  constructor
  · intro h
    have h1 := congrArg (fun x => x.data.toList) h
    simp only [ba_toList] at h1
    have h2 := congrArg pN h1
    rwa [(pN_shw a).2, (pN_shw b).2] at h2
  · intro h; rw [h]
end
end Lg
namespace Lg
open Go Go.RowKit
variable [GLay]
section
variable {P : Program} {N : Nat} {ops : Array Oper} {tb : Array Nat} {QR : Env → List AO → Prop} {X : AV → List AO → Prop} {i : Nat} {e : Env} {o : Oper} {σ : List AO} {past : List (Nat × List AO)} {held : List (Nat × (List AO → Prop))}
end
end Lg
namespace Lg
open Go Go.RowKit
variable [GLay]
end Lg
namespace Lg
open Go
structure JKid where
  key : ByteArray
  node : Int
structure JKey where
  name : ByteArray
  v : JV
  kids : List JKid
structure JNode where
  path : ByteArray
  all : Bool
  pass : Bool
  keys : List JKey
def kidc (k : JKid) : List AV := [.str k.key, .int .i64 k.node]
def kidr (l : List JKid) : List (List AV) := l.map kidc
def keyc (k : JKey) : List AV := .str k.name :: (vcells k.v ++ [.sl false 2 (kidr k.kids)])
def keyr (l : List JKey) : List (List AV) := l.map keyc
def nodec (n : JNode) : List AV := [.str n.path, .bool n.all, .bool n.pass, .sl false 10 (keyr n.keys)]
def noder (l : List JNode) : List (List AV) := l.map nodec
theorem keyc_eq (k : JKey) : keyc k = [.str k.name, .int .i64 k.v.kind, .bool k.v.b, .bool k.v.n.neg, .str k.v.n.digits, .int .i64 k.v.n.exp, .str k.v.s, .sl false 8 (lcells k.v.l), .sl false 9 (mcells k.v.m), .sl false 2 (kidr k.kids)] := by
  rw [keyc, vcells_eq]; rfl
theorem kidr_len (l : List JKid) : (kidr l).length = l.length := by simp [kidr]
theorem keyr_len (l : List JKey) : (keyr l).length = l.length := by simp [keyr]
theorem noder_len (l : List JNode) : (noder l).length = l.length := by simp [noder]
theorem kidr_el (l : List JKid) : ∀ r ∈ kidr l, r.length = 2 := by
  intro r hr; simp [kidr] at hr; obtain ⟨x, _, rfl⟩ := hr; rfl
theorem keyr_el (l : List JKey) : ∀ r ∈ keyr l, r.length = 10 := by
  intro r hr; simp [keyr] at hr; obtain ⟨x, _, rfl⟩ := hr; rw [keyc_eq]; rfl
theorem noder_el (l : List JNode) : ∀ r ∈ noder l, r.length = 4 := by
  intro r hr; simp [noder] at hr; obtain ⟨x, _, rfl⟩ := hr; rfl
theorem noder_get {l : List JNode} {i : Nat} {x : JNode} (h : l[i]? = some x) : (noder l)[i]? = some (nodec x) := by simp [noder, h]
theorem keyr_get {l : List JKey} {i : Nat} {x : JKey} (h : l[i]? = some x) : (keyr l)[i]? = some (keyc x) := by simp [keyr, h]
theorem kidr_get {l : List JKid} {i : Nat} {x : JKid} (h : l[i]? = some x) : (kidr l)[i]? = some (kidc x) := by simp [kidr, h]
section
variable [GLay]
theorem dflat_len (l : List JKid) : (kidr l).flatten.length = l.length * 2 := by rw [flatten_len (kidr_el l), kidr_len]
theorem yflat_len (l : List JKey) : (keyr l).flatten.length = l.length * 10 := by rw [flatten_len (keyr_el l), keyr_len]
theorem nflat_len (l : List JNode) : (noder l).flatten.length = l.length * 4 := by rw [flatten_len (noder_el l), noder_len]
theorem kidr_snoc (l : List JKid) (x : JKid) : (kidr (l ++ [x])).flatten = (kidr l).flatten ++ kidc x := by simp [kidr]
theorem keyr_snoc (l : List JKey) (x : JKey) : (keyr (l ++ [x])).flatten = (keyr l).flatten ++ keyc x := by simp [keyr]
theorem noder_snoc (l : List JNode) (x : JNode) : (noder (l ++ [x])).flatten = (noder l).flatten ++ nodec x := by simp [noder]
@[simp] theorem kidr_lt (n : Nat) (l : List JKid) : AV.ltLL n (kidr l) := by
  rw [AV.ltLL_iff]; intro e he; simp [kidr] at he; obtain ⟨x, _, rfl⟩ := he; exact ⟨trivial, trivial, trivial⟩
@[simp] theorem keyc_lt (n : Nat) (k : JKey) : AV.ltL n (keyc k) := by
  rw [keyc_eq]; exact ⟨trivial, trivial, trivial, trivial, trivial, trivial, trivial, lcells_lt n _, mcells_lt n _, kidr_lt n _, trivial⟩
@[simp] theorem keyr_lt (n : Nat) (l : List JKey) : AV.ltLL n (keyr l) := by
  rw [AV.ltLL_iff]; intro e he; simp [keyr] at he; obtain ⟨x, _, rfl⟩ := he; exact keyc_lt n x
@[simp] theorem noder_lt (n : Nat) (l : List JNode) : AV.ltLL n (noder l) := by
  rw [AV.ltLL_iff]; intro e he; simp [noder] at he; obtain ⟨x, _, rfl⟩ := he; exact ⟨trivial, trivial, trivial, keyr_lt n _, trivial⟩
theorem fl_lt {n : Nat} {es : List (List AV)} (h : AV.ltLL n es) : AV.ltL n es.flatten := by
  rw [AV.ltL_iff]; intro a ha
  obtain ⟨e, he, h1⟩ := List.mem_flatten.1 ha
  exact (AV.ltL_iff _ _).1 ((AV.ltLL_iff _ _).1 h e he) a h1
@[simp] theorem dflat_lt (n : Nat) (l : List JKid) : AV.ltL n (kidr l).flatten := fl_lt (kidr_lt n l)
@[simp] theorem yflat_lt (n : Nat) (l : List JKey) : AV.ltL n (keyr l).flatten := fl_lt (keyr_lt n l)
@[simp] theorem nflat_lt (n : Nat) (l : List JNode) : AV.ltL n (noder l).flatten := fl_lt (noder_lt n l)
end
structure MS where
  l : List JNode
  bad : Int
  path : ByteArray
def pth (n : ByteArray) : ByteArray := ba (shw [n.data.toList])
def rkids (f : ByteArray → JV → MS → MS) (under : ByteArray) (single : Bool) : List BJ → MS → List JKid × MS
  | [], m => ([], m)
  | (k, x) :: r, m => (⟨k, m.l.length⟩ :: (rkids f under single r (f (if single = true then under else under ++ pth k) x m)).1, (rkids f under single r (f (if single = true then under else under ++ pth k) x m)).2)
noncomputable def rmems (f : ByteArray → JV → MS → MS) (path : ByteArray) : List BJ → List JKey → MS → Bool × List JKey × MS
  | [], ks, m => (false, ks, m)
  | (nm, x) :: r, ks, m => if ¬ m.bad = 0 then (false, ks, m) else if ¬ rShape nm x = 0 then (true, ks, ⟨m.l, rShape nm x, path ++ pth nm⟩) else
    rmems f path r (ks ++ [⟨nm, x, (rkids f (path ++ pth nm) (decide (rk nm = 8)) (kidsM nm x) m).1⟩]) (rkids f (path ++ pth nm) (decide (rk nm = 8)) (kidsM nm x) m).2
def setk (l : List JNode) (i : Nat) (ks : List JKey) : List JNode := l.modify i fun n => ⟨n.path, n.all, n.pass, ks⟩
def m1 (m : MS) (path : ByteArray) (v : JV) : MS := ⟨m.l ++ [⟨path, decide (v.kind = 1), v.b, []⟩], m.bad, m.path⟩
noncomputable def rnd : Nat → ByteArray → JV → MS → MS
  | 0, _, _, m => m
  | n + 1, path, v, m => if ¬ m.bad = 0 then m else if m.l.length = 200 then ⟨m.l, 5, path⟩ else
    if (rmems (rnd n) path v.m [] (m1 m path v)).1 = true then (rmems (rnd n) path v.m [] (m1 m path v)).2.2 else
      ⟨setk (rmems (rnd n) path v.m [] (m1 m path v)).2.2.l m.l.length (rmems (rnd n) path v.m [] (m1 m path v)).2.1, (rmems (rnd n) path v.m [] (m1 m path v)).2.2.bad, (rmems (rnd n) path v.m [] (m1 m path v)).2.2.path⟩
theorem rnd_b {n : Nat} {path : ByteArray} {v : JV} {m : MS} (h : ¬ m.bad = 0) : rnd (n + 1) path v m = m := by rw [rnd, if_pos h]
theorem rnd_m {n : Nat} {path : ByteArray} {v : JV} {m : MS} (h : m.bad = 0) (hl : m.l.length = 200) : rnd (n + 1) path v m = ⟨m.l, 5, path⟩ := by rw [rnd, if_neg (fun z => z h), if_pos hl]
theorem rnd_t {n : Nat} {path : ByteArray} {v : JV} {m : MS} {ks : List JKey} {m' : MS} (h : m.bad = 0) (hl : ¬ m.l.length = 200) (hr : rmems (rnd n) path v.m [] (m1 m path v) = (true, ks, m')) : rnd (n + 1) path v m = m' := by rw [rnd, if_neg (fun z => z h), if_neg hl, hr, if_pos rfl]
theorem rnd_f {n : Nat} {path : ByteArray} {v : JV} {m : MS} {ks : List JKey} {m' : MS} (h : m.bad = 0) (hl : ¬ m.l.length = 200) (hr : rmems (rnd n) path v.m [] (m1 m path v) = (false, ks, m')) : rnd (n + 1) path v m = ⟨setk m'.l m.l.length ks, m'.bad, m'.path⟩ := by rw [rnd, if_neg (fun z => z h), if_neg hl, hr, if_neg (fun z => by cases z)]
theorem rmems_e {f : ByteArray → JV → MS → MS} {path : ByteArray} {r : List BJ} {ks : List JKey} {m : MS} (h : r = [] ∨ ¬ m.bad = 0) : rmems f path r ks m = (false, ks, m) := by
  cases r with
  | nil => rfl
  | cons q r => obtain ⟨a, b⟩ := q; rw [rmems, if_pos (h.resolve_left (by simp))]
theorem rmems_s {f : ByteArray → JV → MS → MS} {path nm : ByteArray} {x : JV} {r : List BJ} {ks : List JKey} {m : MS} (h : m.bad = 0) (hs : ¬ rShape nm x = 0) : rmems f path ((nm, x) :: r) ks m = (true, ks, ⟨m.l, rShape nm x, path ++ pth nm⟩) := by rw [rmems, if_neg (fun z => z h), if_pos hs]
theorem rmems_k {f : ByteArray → JV → MS → MS} {path nm : ByteArray} {x : JV} {r : List BJ} {ks : List JKey} {m m' : MS} {kd : List JKid} (h : m.bad = 0) (hs : rShape nm x = 0) (hk : rkids f (path ++ pth nm) (decide (rk nm = 8)) (kidsM nm x) m = (kd, m')) : rmems f path ((nm, x) :: r) ks m = rmems f path r (ks ++ [⟨nm, x, kd⟩]) m' := by rw [rmems, if_neg (fun z => z h), if_neg (fun z => z hs), hk]
def LenOK (f : ByteArray → JV → MS → MS) : Prop := ∀ p x m, m.l.length ≤ 200 → m.l.length ≤ (f p x m).l.length ∧ (f p x m).l.length ≤ 200
theorem rkids_ok {f : ByteArray → JV → MS → MS} (hf : LenOK f) (under : ByteArray) (sg : Bool) : ∀ (r : List BJ) (m : MS), m.l.length ≤ 200 → m.l.length ≤ (rkids f under sg r m).2.l.length ∧ (rkids f under sg r m).2.l.length ≤ 200
  | [], m, h => ⟨Nat.le_refl _, h⟩
  | (k, x) :: r, m, h => by
    have h1 := hf (if sg = true then under else under ++ pth k) x m h
    have h2 := rkids_ok hf under sg r _ h1.2
    rw [rkids]; exact ⟨Nat.le_trans h1.1 h2.1, h2.2⟩
theorem rmems_ok {f : ByteArray → JV → MS → MS} (hf : LenOK f) (path : ByteArray) : ∀ (r : List BJ) (ks : List JKey) (m : MS), m.l.length ≤ 200 → m.l.length ≤ (rmems f path r ks m).2.2.l.length ∧ (rmems f path r ks m).2.2.l.length ≤ 200
  | [], ks, m, h => ⟨Nat.le_refl _, h⟩
  | (nm, x) :: r, ks, m, h => by
    rw [rmems]
    split
    · exact ⟨Nat.le_refl _, h⟩
    · split
      · exact ⟨Nat.le_refl _, h⟩
      · have h1 := rkids_ok hf (path ++ pth nm) (decide (rk nm = 8)) (kidsM nm x) m h
        have h2 := rmems_ok hf path r (ks ++ [⟨nm, x, (rkids f (path ++ pth nm) (decide (rk nm = 8)) (kidsM nm x) m).1⟩]) _ h1.2
        exact ⟨Nat.le_trans h1.1 h2.1, h2.2⟩
theorem setk_len (l : List JNode) (i : Nat) (ks : List JKey) : (setk l i ks).length = l.length := by simp [setk]
theorem rnd_ok : ∀ n, LenOK (rnd n)
  | 0, p, x, m, h => ⟨Nat.le_refl _, h⟩
  | n + 1, p, x, m, h => by
    by_cases hb : m.bad = 0
    · by_cases hl : m.l.length = 200
      · rw [rnd_m hb hl]; exact ⟨Nat.le_refl _, h⟩
      · have hm : (m1 m p x).l.length = m.l.length + 1 := by simp [m1]
        have h1 := rmems_ok (rnd_ok n) p x.m [] (m1 m p x) (by omega)
        cases hr : rmems (rnd n) p x.m [] (m1 m p x) with
        | mk b q =>
          obtain ⟨ks, m'⟩ := q
          rw [hr] at h1
          simp only at h1
          cases b with
          | true => rw [rnd_t hb hl hr]; omega
          | false => rw [rnd_f hb hl hr]; show m.l.length ≤ (setk m'.l m.l.length ks).length ∧ (setk m'.l m.l.length ks).length ≤ 200; rw [setk_len]; omega
    · rw [rnd_b hb]; exact ⟨Nat.le_refl _, h⟩
section
variable [GLay]
theorem setk_cells : ∀ (l : List JNode) (i : Nat) (ks : List JKey), i < l.length → (noder l).flatten.set (i * 4 + 3) (.sl false 10 (keyr ks)) = (noder (setk l i ks)).flatten
  | [], i, ks, h => by simp at h
  | a :: r, 0, ks, _ => by simp [noder, setk, nodec]
  | a :: r, i + 1, ks, h => by
    have ih := setk_cells r i ks (by simpa using h)
    have e1 : (noder (a :: r)).flatten = nodec a ++ (noder r).flatten := by simp [noder]
    have e2 : (noder (setk (a :: r) (i + 1) ks)).flatten = nodec a ++ (noder (setk r i ks)).flatten := by simp [noder, setk]
    rw [e1, e2, ← ih, List.set_append_right _ _ (by show 4 ≤ _; omega)]
    congr 1
    show List.set _ ((i + 1) * 4 + 3 - 4) _ = _
    congr 1; omega
theorem pth_size (n : ByteArray) : (pth n).size ≤ 2 * n.size + 1 := by
  have h : n.data.toList.length = n.size := Array.length_toList ..
  have h2 := shw_len n.size [n.data.toList] (by intro x hx; rw [List.mem_singleton.1 hx]; omega)
  unfold pth; rw [ba_size]
  simp only [List.length_singleton, Nat.one_mul] at h2; exact h2
end
end Lg
namespace Lg
open Go
section
variable [GLay]
theorem rmems_sq {f : ByteArray → JV → MS → MS} {path : ByteArray} {q : BJ} {r : List BJ} {ks : List JKey} {m : MS} (h : m.bad = 0) (hs : ¬ rShape q.1 q.2 = 0) : rmems f path (q :: r) ks m = (true, ks, ⟨m.l, rShape q.1 q.2, path ++ pth q.1⟩) := by
  obtain ⟨a, b⟩ := q; exact rmems_s h hs
theorem rmems_kq {f : ByteArray → JV → MS → MS} {path : ByteArray} {q : BJ} {r : List BJ} {ks : List JKey} {m m' : MS} {kd : List JKid} (h : m.bad = 0) (hs : rShape q.1 q.2 = 0) (hk : rkids f (path ++ pth q.1) (decide (rk q.1 = 8)) (kidsM q.1 q.2) m = (kd, m')) : rmems f path (q :: r) ks m = rmems f path r (ks ++ [⟨q.1, q.2, kd⟩]) m' := by
  obtain ⟨a, b⟩ := q; exact rmems_k h hs hk
theorem rkids_q {f : ByteArray → JV → MS → MS} {under : ByteArray} {sg : Bool} {k : BJ} {r : List BJ} {m : MS} : rkids f under sg (k :: r) m = (⟨k.1, m.l.length⟩ :: (rkids f under sg r (f (if sg = true then under else under ++ pth k.1) k.2 m)).1, (rkids f under sg r (f (if sg = true then under else under ++ pth k.1) k.2 m)).2) := by
  obtain ⟨a, b⟩ := k; rw [rkids]
theorem zi_get {l : List JV} {i : Nat} {q : BJ} (h : (l.zipIdx.map fun q => (itoaB q.2, q.1))[i]? = some q) : q.1.size ≤ 21 ∨ 2000000000 < i := by
  rw [List.getElem?_map, List.getElem?_zipIdx] at h
  cases hx : l[i]? with
  | none => rw [hx] at h; cases h
  | some x =>
    rw [hx] at h
    simp only [Option.map_some, Option.some.injEq] at h
    subst h
    by_cases hi : i ≤ 2000000000
    · left; exact itoa_size (by omega) (by omega)
    · right; omega
theorem kids_ks {n : ByteArray} {v : JV} (hv : jb v) {i : Nat} {q : BJ} (h : (kidsM n v)[i]? = some q) : q.1.size ≤ 1000000 := by
  unfold kidsM at h
  have hb := (jb_eq v).1 hv
  split at h
  · cases i with
    | zero => simp at h; subst h; show e0.size ≤ 1000000; decide
    | succ i => simp at h
  · split at h
    · exact (mb_get hb.2.2.2.2.2 h).1
    · split at h
      · have hlt := (List.getElem?_eq_some_iff.1 h).1
        simp at hlt
        rcases zi_get h with h1 | h1
        · omega
        · have := hb.2.2.1; omega
      · simp at h
end
end Lg
namespace Lg
open Go
noncomputable def rnode (v : JV) : MS := rnd (jsize v).toNat e0 v ⟨[], 0, e0⟩
noncomputable def jcomp (v : JV) : List JNode × Int × ByteArray := if schB v = false then ([], 14, e0) else if ¬ (rnode v).bad = 0 then ([], (rnode v).bad, (rnode v).path) else ((rnode v).l, 0, e0)
theorem jcomp_n {v : JV} (h : schB v = false) : jcomp v = ([], 14, e0) := by unfold jcomp; rw [if_pos h]
theorem jcomp_b {v : JV} (h : schB v = true) (hb : ¬ (rnode v).bad = 0) : jcomp v = ([], (rnode v).bad, (rnode v).path) := by unfold jcomp; rw [if_neg (by rw [h]; decide), if_pos hb]
theorem jcomp_y {v : JV} (h : schB v = true) (hb : (rnode v).bad = 0) : jcomp v = ((rnode v).l, 0, e0) := by unfold jcomp; rw [if_neg (by rw [h]; decide), if_neg (fun z => z hb)]
end Lg
namespace Lg
open Go Go.RowKit
variable [GLay]
def PastG (P : Program) (tb : Array Nat) (i : Nat) (e : Env) (o : Oper) (v : AV) : List (Nat × (Bool → List AO)) → Prop
  | [] => True
  | (j, σ) :: r => (befB tb j i = true ∨ ∀ b, AOp P (σ b) e o v (σ b)) ∧ PastG P tb i e o v r
def HeldG (tb : Array Nat) (i : Nat) (σ : Bool → List AO) : List (Nat × (List AO → Prop)) → Prop
  | [] => True
  | (k, p) :: r => (befB tb k i = true ∨ ∀ b, p (σ b)) ∧ HeldG tb i σ r
def ChainG (tb : Array Nat) (i : Nat) : List (Nat × (Bool → List AO)) → Prop
  | [] => True
  | (j, _) :: r => befB tb j i = true ∧ ChainG tb i r
inductive RT (P : Program) (N : Nat) (ops : Array Oper) (tb : Array Nat) (Q : Env → List AO → Prop) : Nat → Env → List AO → Prop
  | nil {i e σ} (hi : i = ops.size) (h : Q e σ) : RT P N ops tb Q i e σ
  | op {i e σ} (o : Oper) (v : AV) (σ' : List AO) (ho : ops[i]? = some o) (hg : GuardA ops N e o true) (hd : ∀ d, o.dst = some d → d < N) (h : AOp P σ e o v σ') (hall : ((List.range i).all fun j => befB tb j i) = true)
      (k : RT P N ops tb Q (i + 1) (e.put o.dst v) σ') : RT P N ops tb Q i e σ
def Twin (B : AO) (L : Nat) (σ : Bool → List AO) : Prop := (σ false).length = L ∧ σ true = σ false ++ [B]
inductive RG (P : Program) (N : Nat) (ops : Array Oper) (tb : Array Nat) (B : AO) (L : Nat) (Q : Env → List AO → Prop) : Nat → Env → (Bool → List AO) → List (Nat × (Bool → List AO)) → List (Nat × (List AO → Prop)) → Prop
  | pure {i e σ past held} (o : Oper) (v : AV) (ho : ops[i]? = some o) (hg : GuardA ops N e o true) (hd : ∀ d, o.dst = some d → d < N) (h : ∀ b, AOp P (σ b) e o v (σ b)) (hp : PastG P tb i e o v past)
      (k : RG P N ops tb B L Q (i + 1) (e.put o.dst v) σ past ((i, fun σ' => AOp P σ' e o v σ') :: held)) : RG P N ops tb B L Q i e σ past held
  | eff {i e σ past held} (o : Oper) (v : AV) (σ' : Bool → List AO) (ho : ops[i]? = some o) (hg : GuardA ops N e o true) (hd : ∀ d, o.dst = some d → d < N) (h : ∀ b, AOp P (σ b) e o v (σ' b)) (ht : Twin B L σ') (hh : HeldG tb i σ' held) (hc : ChainG tb i past)
      (k : RG P N ops tb B L Q (i + 1) (e.put o.dst v) σ' ((i, σ) :: past) held) : RG P N ops tb B L Q i e σ past held
  | flt {i e σ past held} (o : Oper) (ho : ops[i]? = some o) (hg : GuardA ops N e o true) (hd : ∀ d, o.dst = some d → d < N) (h : ∀ τ : List AO, τ.length = L → AOp P τ e o (.ptr L 0) (τ ++ [B]))
      (k : RT P N ops tb Q (i + 1) (e.put o.dst (.ptr L 0)) (σ true)) : RG P N ops tb B L Q i e σ past held
structure TrG (P : Program) (N : Nat) (ops : Array Oper) (tb : Array Nat) (B : AO) (L : Nat) (Q : Env → List AO → Prop) (i0 f : Nat) (E : Nat → Env) (H : Bool → Nat → List AO) (val : Nat → AV) (kd : Nat → Kd) : Prop where
  le : i0 ≤ f
  fl : f < ops.size
  twin : ∀ i, i0 ≤ i → i ≤ f → Twin B L fun b => H b i
  pre : ∀ i, i0 ≤ i → i < f → ∃ o, ops[i]? = some o ∧ (∀ d, o.dst = some d → d < N) ∧ E (i + 1) = (E i).put o.dst (val i) ∧ GuardA ops N (E i) o true ∧
    ((kd i = .pure ∧ (∀ b, AOp P (H b i) (E i) o (val i) (H b i) ∧ H b (i + 1) = H b i) ∧
      (∀ j, i0 ≤ j → j < i → kd j = .eff → befB tb j i = true ∨ ∀ b, AOp P (H b j) (E i) o (val i) (H b j)) ∧
      (∀ j, i < j → j < f → kd j = .eff → befB tb i j = true ∨ ∀ b, AOp P (H b (j + 1)) (E i) o (val i) (H b (j + 1)))) ∨
    (kd i = .eff ∧ (∀ b, AOp P (H b i) (E i) o (val i) (H b (i + 1))) ∧ (∀ j, i0 ≤ j → j < i → kd j = .eff → befB tb j i = true)))
  flt : ∃ o, ops[f]? = some o ∧ (∀ d, o.dst = some d → d < N) ∧ E (f + 1) = (E f).put o.dst (val f) ∧ GuardA ops N (E f) o true ∧ kd f = .skip ∧ (∀ b, H b (f + 1) = H b f) ∧
    ∀ τ : List AO, τ.length = L → AOp P τ (E f) o (val f) (τ ++ [B])
  tail : ∀ i, f < i → i < ops.size → ∃ o, ops[i]? = some o ∧ (∀ d, o.dst = some d → d < N) ∧ E (i + 1) = (E i).put o.dst (val i) ∧ GuardA ops N (E i) o true ∧ kd i = .eff ∧
    AOp P (H true i) (E i) o (val i) (H true (i + 1)) ∧ ∀ j, j < i → befB tb j i = true
  fin : Q (E ops.size) (H true ops.size)
section rp
variable {P : Program} {N : Nat} {ops : Array Oper} {tb : Array Nat} {Q : Env → List AO → Prop} {B : AO} {L : Nat}
theorem PastG.mem {i : Nat} {e : Env} {o : Oper} {v : AV} : ∀ {past : List (Nat × (Bool → List AO))}, PastG P tb i e o v past → ∀ q ∈ past, befB tb q.1 i = true ∨ ∀ b, AOp P (q.2 b) e o v (q.2 b)
  | [], _, q, h => by simp at h
  | (j, σ) :: r, ⟨h1, h2⟩, q, h => by
    rcases List.mem_cons.1 h with rfl | h
    · exact h1
    · exact PastG.mem h2 q h
theorem HeldG.mem {i : Nat} {σ : Bool → List AO} : ∀ {held : List (Nat × (List AO → Prop))}, HeldG tb i σ held → ∀ q ∈ held, befB tb q.1 i = true ∨ ∀ b, q.2 (σ b)
  | [], _, q, h => by simp at h
  | (j, p) :: r, ⟨h1, h2⟩, q, h => by
    rcases List.mem_cons.1 h with rfl | h
    · exact h1
    · exact HeldG.mem h2 q h
theorem ChainG.mem {i : Nat} : ∀ {past : List (Nat × (Bool → List AO))}, ChainG tb i past → ∀ q ∈ past, befB tb q.1 i = true
  | [], _, q, h => by simp at h
  | (j, σ) :: r, ⟨h1, h2⟩, q, h => by
    rcases List.mem_cons.1 h with rfl | h
    · exact h1
    · exact ChainG.mem h2 q h
theorem RT.trace {i : Nat} {e : Env} {σ : List AO} (h : RT P N ops tb Q i e σ) (hi : i ≤ ops.size) :
    ∃ (E : Nat → Env) (H : Nat → List AO) (val : Nat → AV), E i = e ∧ H i = σ ∧ (∀ j, i ≤ j → j < ops.size → ∃ o, ops[j]? = some o ∧ (∀ d, o.dst = some d → d < N) ∧ E (j + 1) = (E j).put o.dst (val j) ∧ GuardA ops N (E j) o true ∧
      AOp P (H j) (E j) o (val j) (H (j + 1)) ∧ ∀ k, k < j → befB tb k j = true) ∧ Q (E ops.size) (H ops.size) := by
  induction h with
  | nil hi' h =>
    rename_i i e σ
    exact ⟨fun _ => e, fun _ => σ, fun _ => .any, rfl, rfl, fun j h1 h2 => by omega, h⟩
  | op o v σ' ho hg hd h hall k ih =>
    rename_i i e σ
    have hlt : i < ops.size := (Array.getElem?_eq_some_iff.1 ho).1
    obtain ⟨E, H, val, hE, hH, hs, hQ⟩ := ih (by omega)
    refine ⟨fun j => if j = i then e else E j, fun j => if j = i then σ else H j, fun j => if j = i then v else val j, if_pos rfl, if_pos rfl, fun j h1 h2 => ?_, ?_⟩
    · by_cases hji : j = i
      · subst hji
        refine ⟨o, ho, hd, ?_, by simpa using hg, ?_, fun k hk => List.all_eq_true.1 hall k (List.mem_range.2 hk)⟩
        · simp [hE]
        · simp only [if_true, if_neg (show j + 1 ≠ j by omega), hH]; exact h
      · simp only [if_neg hji, if_neg (show j + 1 ≠ i by omega)]; exact hs j (by omega) h2
    · simp only [if_neg (show ops.size ≠ i by omega)]; exact hQ
theorem RG.trace {i : Nat} {e : Env} {σ : Bool → List AO} {past : List (Nat × (Bool → List AO))} {held : List (Nat × (List AO → Prop))} (h : RG P N ops tb B L Q i e σ past held) (htw : Twin B L σ) :
    ∃ f E H val kd, E i = e ∧ (∀ b, H b i = σ b) ∧ TrG P N ops tb B L Q i f E H val kd ∧
      (∀ j, i ≤ j → j < f → kd j = .pure → ∀ q ∈ past, ∃ o, ops[j]? = some o ∧ (befB tb q.1 j = true ∨ ∀ b, AOp P (q.2 b) (E j) o (val j) (q.2 b))) ∧
      (∀ j, i ≤ j → j < f → kd j = .eff → (∀ q ∈ held, befB tb q.1 j = true ∨ ∀ b, q.2 (H b (j + 1))) ∧ ∀ q ∈ past, befB tb q.1 j = true) := by
  induction h with
  | flt o ho hg hd h k =>
    rename_i i e σ past held
    have hlt : i < ops.size := (Array.getElem?_eq_some_iff.1 ho).1
    obtain ⟨E, H, val, hE, hH, hs, hQ⟩ := k.trace (by omega)
    refine ⟨i, fun j => if j = i then e else E j, fun b j => if j ≤ i + 1 then σ b else H j, fun j => if j = i then .ptr L 0 else val j, fun j => if j = i then .skip else .eff, if_pos rfl, fun b => if_pos (by omega), ⟨Nat.le_refl _, hlt, fun j h1 h2 => ?_, fun j h1 h2 => by omega, ⟨o, ho, hd, ?_, by simpa using hg, if_pos rfl, fun b => ?_, fun τ hτ => ?_⟩, fun j h1 h2 => ?_, ?_⟩, fun j h1 h2 => by omega, fun j h1 h2 => by omega⟩
    · simp only [if_pos (show j ≤ i + 1 by omega)]; exact htw
    · simp [hE]
    · simp
    · simp only [if_true]; exact h τ hτ
    · obtain ⟨o', a1, a2, a3, a4, a5, a6⟩ := hs j (by omega) h2
      refine ⟨o', a1, a2, ?_, ?_, ?_, ?_, a6⟩
      · simp only [if_neg (show j ≠ i by omega), if_neg (show j + 1 ≠ i by omega)]; exact a3
      · simp only [if_neg (show j ≠ i by omega)]; exact a4
      · simp only [if_neg (show j ≠ i by omega)]
      · simp only [if_neg (show j ≠ i by omega), if_neg (show ¬ j + 1 ≤ i + 1 by omega)]
        by_cases hj : j ≤ i + 1
        · have : j = i + 1 := by omega
          subst this
          simp only [Nat.le_refl, if_true]; rw [← hH]; exact a5
        · simp only [if_neg hj]; exact a5
    · simp only [if_neg (show ops.size ≠ i by omega)]
      by_cases hj : ops.size ≤ i + 1
      · simp only [if_pos hj]; have : ops.size = i + 1 := by omega
        rw [this] at hQ ⊢; rw [← hH]; exact hQ
      · simp only [if_neg hj]; exact hQ
  | pure o v ho hg hd h hp k ih =>
    rename_i i e σ past held
    obtain ⟨f, E, H, val, kd, hE, hH, ht, h1, h2⟩ := ih htw
    have hif := ht.le
    refine ⟨f, fun j => if j = i then e else E j, fun b j => if j = i then σ b else H b j, fun j => if j = i then v else val j, fun j => if j = i then .pure else kd j, if_pos rfl, fun b => if_pos rfl, ⟨by omega, ht.fl, fun j h3 h4 => ?_, fun j hj1 hj2 => ?_, ?_, fun j h3 h4 => ?_, ?_⟩, fun j hj1 hj2 hk q hq => ?_, fun j hj1 hj2 hk => ?_⟩
    · by_cases hji : j = i
      · simp only [if_pos hji]; exact htw
      · simp only [if_neg hji]; exact ht.twin j (by omega) h4
    · by_cases hji : j = i
      · subst hji
        refine ⟨o, ho, hd, by simp [hE], by simpa using hg, .inl ⟨by simp, fun b => ⟨by simpa using h b, by simp [hH]⟩, fun j' h4 h5 => by omega, fun j' h4 h5 hk => ?_⟩⟩
        simp only [if_neg (show j' ≠ j by omega), if_neg (show j' + 1 ≠ j by omega)] at hk ⊢
        simp only [if_true]
        exact (h2 j' (by omega) h5 hk).1 (j, fun σ' => AOp P σ' e o v σ') (by simp)
      · obtain ⟨o', ho', hd', hE', hg', hc⟩ := ht.pre j (by omega) hj2
        simp only [if_neg hji, if_neg (show j + 1 ≠ i by omega)]
        refine ⟨o', ho', hd', hE', hg', ?_⟩
        rcases hc with ⟨a0, a1, a4, a5⟩ | ⟨a0, a1, a3⟩
        · refine .inl ⟨a0, a1, fun j' h4 h5 hk' => ?_, fun j' h4 h5 hk' => ?_⟩
          · by_cases hj' : j' = i
            · subst hj'; simp at hk'
            · simp only [if_neg hj'] at hk' ⊢; exact a4 j' (by omega) h5 hk'
          · simp only [if_neg (show j' ≠ i by omega), if_neg (show j' + 1 ≠ i by omega)] at hk' ⊢; exact a5 j' h4 h5 hk'
        · refine .inr ⟨a0, a1, fun j' h4 h5 hk' => ?_⟩
          by_cases hj' : j' = i
          · subst hj'; simp at hk'
          · simp only [if_neg hj'] at hk'; exact a3 j' (by omega) h5 hk'
    · have := ht.flt; simpa only [if_neg (show f ≠ i by omega), if_neg (show f + 1 ≠ i by omega)] using this
    · have := ht.tail j h3 h4; simpa only [if_neg (show j ≠ i by omega), if_neg (show j + 1 ≠ i by omega)] using this
    · have := ht.fin; have h9 := ht.fl; simpa only [if_neg (show ops.size ≠ i by omega)] using this
    · by_cases hji : j = i
      · subst hji; exact ⟨o, ho, by simp only [if_true]; exact hp.mem q hq⟩
      · simp only [if_neg hji] at hk ⊢; exact h1 j (by omega) hj2 hk q hq
    · by_cases hji : j = i
      · subst hji; simp at hk
      · simp only [if_neg hji, if_neg (show j + 1 ≠ i by omega)] at hk ⊢
        obtain ⟨b1, b2⟩ := h2 j (by omega) hj2 hk
        exact ⟨fun q hq => b1 q (List.mem_cons_of_mem _ hq), b2⟩
  | eff o v σ' ho hg hd h htw' hh hc k ih =>
    rename_i i e σ past held
    obtain ⟨f, E, H, val, kd, hE, hH, ht, h1, h2⟩ := ih htw'
    have hif := ht.le
    refine ⟨f, fun j => if j = i then e else E j, fun b j => if j = i then σ b else H b j, fun j => if j = i then v else val j, fun j => if j = i then .eff else kd j, if_pos rfl, fun b => if_pos rfl, ⟨by omega, ht.fl, fun j h3 h4 => ?_, fun j hj1 hj2 => ?_, ?_, fun j h3 h4 => ?_, ?_⟩, fun j hj1 hj2 hk q hq => ?_, fun j hj1 hj2 hk => ?_⟩
    · by_cases hji : j = i
      · simp only [if_pos hji]; exact htw
      · simp only [if_neg hji]; exact ht.twin j (by omega) h4
    · by_cases hji : j = i
      · subst hji
        refine ⟨o, ho, hd, by simp [hE], by simpa using hg, .inr ⟨by simp, fun b => ?_, fun j' h4 h5 => by omega⟩⟩
        simp only [if_true, if_neg (show j + 1 ≠ j by omega), hH]; exact h b
      · obtain ⟨o', ho', hd', hE', hg', hc'⟩ := ht.pre j (by omega) hj2
        simp only [if_neg hji, if_neg (show j + 1 ≠ i by omega)]
        refine ⟨o', ho', hd', hE', hg', ?_⟩
        rcases hc' with ⟨a0, a1, a4, a5⟩ | ⟨a0, a1, a3⟩
        · refine .inl ⟨a0, a1, fun j' h4 h5 hk' => ?_, fun j' h4 h5 hk' => ?_⟩
          · by_cases hj' : j' = i
            · subst hj'
              obtain ⟨o2, ho2, hx⟩ := h1 j (by omega) hj2 a0 (j', σ) (by simp)
              rw [ho'] at ho2; cases ho2
              simp only [if_true]; exact hx
            · simp only [if_neg hj'] at hk' ⊢; exact a4 j' (by omega) h5 hk'
          · simp only [if_neg (show j' ≠ i by omega), if_neg (show j' + 1 ≠ i by omega)] at hk' ⊢; exact a5 j' h4 h5 hk'
        · refine .inr ⟨a0, a1, fun j' h4 h5 hk' => ?_⟩
          by_cases hj' : j' = i
          · subst hj'; exact (h2 j (by omega) hj2 a0).2 (j', σ) (by simp)
          · simp only [if_neg hj'] at hk'; exact a3 j' (by omega) h5 hk'
    · have := ht.flt; simpa only [if_neg (show f ≠ i by omega), if_neg (show f + 1 ≠ i by omega)] using this
    · have := ht.tail j h3 h4; simpa only [if_neg (show j ≠ i by omega), if_neg (show j + 1 ≠ i by omega)] using this
    · have := ht.fin; have h9 := ht.fl; simpa only [if_neg (show ops.size ≠ i by omega)] using this
    · by_cases hji : j = i
      · subst hji; simp at hk
      · simp only [if_neg hji] at hk ⊢; exact h1 j (by omega) hj2 hk q (List.mem_cons_of_mem _ hq)
    · by_cases hji : j = i
      · subst hji
        exact ⟨fun q hq => by simp only [if_neg (show j + 1 ≠ j by omega), hH]; exact hh.mem q hq, hc.mem⟩
      · simp only [if_neg hji, if_neg (show j + 1 ≠ i by omega)] at hk ⊢
        obtain ⟨b1, b2⟩ := h2 j (by omega) hj2 hk
        exact ⟨b1, fun q hq => b2 q (List.mem_cons_of_mem _ hq)⟩
end rp
end Lg
