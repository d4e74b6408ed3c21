/- A part of the proof of For every text and every number the law TreeBuilds answers true, and both read afterwards as before; no condition.: Lg48 Lg49 T1 T2 Lr1 Lr2 Lr3 Lr4 T3 T4 T5 W5 W8 Lt4 T6 T7 T8 W11 W10. -/
import Derived.Test.YtjnofdnoboibpaaP5
import Derived.Test.YtjnofdnoboibpaaP3
import Derived.Test.YtjnofdnoboibpaaP4
import Derived.Lib.SplitLaws
import Derived.Lib.ReplaceLaws
set_option linter.unusedVariables false
set_option linter.unusedSimpArgs false
set_option linter.unusedSectionVars false
namespace Lg
open Go Go.RowKit
variable [GLay]
variable {P : Program} {N : Nat} {e : Env} {σ l : List AO} {Q : QA} {o : Oper}
theorem op_copyA {x y : Operand} {t u E : TypeId} {sz m n p g off len : Nat} {cs ds : List AV} {yv : AV} (ho : o.op = .call { callee := .builtin .copy, args := #[x, y], argTypes := #[t, u] }) (ht : P.underlying t = some (.slice E)) (hsz : ∀ w, (Go.sizeOf E).run P w = Result.ok sz w)
    (hx : opO e x = some (.arr p g sz off len)) (hσ : σ[p]? = some (.arr sz g cs)) (hlen : 0 < len) (hsz0 : sz ≠ 0) (hfit : (off + len) * sz ≤ cs.length) (hy : opO e y = some yv) (hsrc : SrcN P σ yv sz m n ds) (hn : min m len = n) (hds : ds.length = n * sz) (h1 : ones ds = true) :
    AOp P σ e o (.int .i64 n) (σ.set p (.arr sz g (cs.take (off * sz) ++ ds ++ cs.drop (off * sz + ds.length)))) :=
  op_copyN ho ht hsz hx hσ hlen hsz0 hfit hy hsrc hn hds (fun a ha => .inl ((ones_iff _).1 h1 a ha)) (fun s vs hp _ _ _ => one_of_pw hp h1)
/-- append of as many zeros: a slice whose capacity is known, and too small. -/
theorem run_appendZ {w : World} {t u ty E : TypeId} {i : TypeInfo} {z : Value} {A : Option Addr} {sLen sCap k : Nat} {olds : List Value}
    (ht : P.underlying t = some (.slice E)) (hu : P.underlying u = some (.int .i64)) (hi : P.info? E = some i) (hz : i.zero = some z) (hz0 : z.cells.size = i.size)
    (hfo : (Builtin.firstCells i.size sLen (.slice A sLen sCap)).run P w.drew = .ok olds.toArray w.drew)
    (hroom : sCap < sLen + k) (h63 : sLen + k ≤ 9223372036854775807) (hby : (sLen + k) * i.bytes ≤ 140737488355328) :
    ∃ rest : List Value, ∃ cap : Nat, sLen + k ≤ cap ∧ rest.length = (cap - sLen) * z.cells.size ∧ (Builtin.append_ #[t, u] ty #[.slice A sLen sCap, .int .i64 k]).run P w =
      .ok (.slice (some ⟨w.heap.size, 0, none⟩) (sLen + k) cap) (w.drew.alloc (.cells (olds ++ rest).toArray E (0, 0))) := by
  have hn : ¬ (sLen + k ≤ sCap) := by omega
  have hfit := growslice_fits (need := sLen + k) (old := sCap) (bytes := i.bytes) hroom hby
  have hkb : k * i.bytes ≤ 140737488355328 := Nat.le_trans (Nat.mul_le_mul_right _ (by omega)) hby
  have h48' : ¬ (281474976710656 < Builtin.nextslicecap (sLen + k) sCap * i.bytes) := by omega
  have hk63 : k ≤ 9223372036854775807 := by omega
  have hwr : IntKind.i64.wrap (k : Int) = k := wrap64_in (by omega) (by omega)
  have h63' : ¬ (9223372036854775807 < ((sLen : Int) + (k : Int))) := by omega
  have hneg : ¬ ((k : Int) < 0) := by omega
  have hlk : ¬ ((281474976710656 : Int) < (k : Int) * (i.bytes : Int)) := by
    have h0 : ((k * i.bytes : Nat) : Int) ≤ ((140737488355328 : Nat) : Int) := Int.ofNat_le.2 hkb
    rw [Int.natCast_mul] at h0
    generalize (k : Int) * (i.bytes : Int) = q at h0 ⊢
    omega
  have hmax : max (k : Int) 0 = k := by omega
  have hge := grownCap_ge w (sLen + k) sCap E
  refine ⟨((if k * i.size = 0 then #[] else Builtin.zeroCells z.cells k) ++ Builtin.zeroCells z.cells (grownCap w (sLen + k) sCap E - (sLen + k))).toList, grownCap w (sLen + k) sCap E, hge, ?_, ?_⟩
  · rw [Array.length_toList, Array.size_append, size_zeroCells]
    have : (if k * i.size = 0 then (#[] : Array Value) else Builtin.zeroCells z.cells k).size = k * z.cells.size := by
      split
      · rename_i h; rw [hz0, h]; rfl
      · exact size_zeroCells _ _
    rw [this, ← Nat.add_mul]; congr 1; omega
  · simp only [Builtin.append_, List.getElem?_toArray, List.getElem?_cons_zero, List.getElem?_cons_succ]
    by_cases hk0 : k * i.size = 0
    · simp [run_underlying ht, run_underlying hu, Go.sizeOf, typeInfo, zeroValue, hi, hz, hn, h48', asInt, asIntOf, hwr, hmax, hneg, hlk, h63', hk0, Question.forced, hfo, newRow, grownCap]
      congr 2
      apply Array.ext'
      simp
    · simp [run_underlying ht, run_underlying hu, Go.sizeOf, typeInfo, zeroValue, hi, hz, hn, h48', asInt, asIntOf, hwr, hmax, hneg, hlk, h63', hk0, Question.forced, hfo, newRow, grownCap]
      congr 2
      apply Array.ext'
      simp

/-- append of k zeros to a slice of known capacity that is too small: a new array. -/
theorem op_appendZ {x y : Operand} {t u E : TypeId} {i : TypeInfo} {z : Value} {sz p g off len cap k : Nat} {cs : List AV} (ho : o.op = .call { callee := .builtin .append, args := #[x, y], argTypes := #[t, u] })
    (ht : P.underlying t = some (.slice E)) (hu : P.underlying u = some (.int .i64)) (hi : P.info? E = some i) (hz : i.zero = some z) (hsz : i.size = sz) (hzs : z.cells.size = sz)
    (hx : opO e x = some (.arrC p g sz off len cap)) (hσ : σ[p]? = some (.arr sz g cs)) (hsz0 : sz ≠ 0) (hc0 : 0 < cap) (hfit : (off + len) * sz ≤ cs.length) (hy : opO e y = some (.int .i64 k)) (hroom : cap < len + k) (hby : (len + k) * i.bytes ≤ 140737488355328) (h63 : len + k ≤ 9223372036854775807) :
    AOp P σ e o (.arr σ.length 0 sz 0 (len + k)) (σ ++ [.arr sz 0 ((cs.drop (off * sz)).take (len * sz) ++ List.replicate (k * sz) .any)]) := by
  intro s a hs gd hv K Q hk _
  subst hs
  subst hsz
  have hxv := (opO_eq hx ▸ hv x (by simp [ho, Op.operands, Call.operands])).inv_arrC hσ
  have hyv := (opO_eq hy ▸ hv y (by simp [ho, Op.operands, Call.operands])).inv_int
  obtain ⟨_, hA, hlc, hft⟩ := hxv
  have hlive : s.live p := by
    unfold CS.live; rw [hσ]
    show (s.μ p).tot ≠ 0
    have : 0 < (off + cap) * i.size := Nat.mul_pos (by omega) (Nat.pos_of_ne_zero hsz0)
    omega
  obtain ⟨_, vs, T, hb, ht0, h7, h8, hpv⟩ := gd.rep hσ hlive
  have hfl : off * i.size + len * i.size ≤ cs.length := by rw [← Nat.add_mul]; exact hfit
  have hpo := (hpv.drop (off * i.size)).take (len * i.size)
  have hol := hpo.1.trans (show _ = len * i.size by rw [List.length_take, List.length_drop]; omega)
  obtain ⟨rest, cap', hc1, hc2, hrun⟩ := run_appendZ (ty := o.type) (A := some ⟨(s.μ p).b, (s.μ p).base + off * i.size, none⟩) (sLen := len) (sCap := cap) (k := k) (w := s.w) ht hu hi hz (by rw [hzs]) (run_firstCells_some s.w.drew i.size len _ len cap _ hol fun j v hj => by
    rw [add_none]
    rw [List.getElem?_take] at hj
    split at hj
    · rw [List.getElem?_drop, List.getElem?_take] at hj
      split at hj
      · rw [List.getElem?_drop] at hj
        show s.w.cell? _ = _
        rw [cells_get hb, Nat.add_assoc]; exact hj
      · cases hj
    · cases hj) hroom h63 hby
  generalize hol2 : List.take (len * i.size) (List.drop (off * i.size) (List.take cs.length (List.drop (s.μ p).base vs))) = olds at hrun hpo hol
  have hkl : k * i.size ≤ rest.length := by rw [hc2, hzs]; exact Nat.mul_le_mul_right _ (by omega)
  have hL : ((cs.drop (off * i.size)).take (len * i.size) ++ List.replicate (k * i.size) AV.any).length = len * i.size + k * i.size := by simp; omega
  obtain ⟨s', e1, e2, g', x', hμ⟩ := gd.newArr (sz := i.size) (cs := (cs.drop (off * i.size)).take (len * i.size) ++ List.replicate (k * i.size) .any) (vs := olds ++ rest) (by
    rw [hL, ← hol, List.take_length_add_append, hol]
    exact hpo.append (PW.anysN (by rw [List.length_take]; omega))) (by rw [hL, List.length_append, hol]; omega) E (w := s.w.drew) (Below.refl _ _).drew rfl
  refine wp_value (w' := s'.w) (cv := .slice (some ⟨s.w.heap.size, 0, none⟩) (len + k) cap') ?_ (hk _ _ s' ⟨rfl, e1⟩ g' x' ?_)
  · rw [e2]
    simp only [execOp, ho, resolve, invoke, builtin, Sem.run_bind, Sem.run_pure, Result.andThen_ok, List.map_toArray, List.map_cons, List.map_nil, hA, hyv]
    rw [hrun]; rfl
  · refine V.newArr (cs := (cs.drop (off * i.size)).take (len * i.size) ++ List.replicate (k * i.size) .any) (by rw [e1]; simp) hμ hc1 ?_
    rw [List.length_append, hol, hc2, hzs, ← Nat.add_mul]
    exact Nat.mul_le_mul_right _ (by omega)

/-- append in place: a slice of known capacity that has the room. -/
theorem op_appendIn {x y : Operand} {t u E : TypeId} {i : TypeInfo} {z : Value} {d : TypeDesc} {sz p g off len cap m : Nat} {cs ds : List AV} {yv : AV} (ho : o.op = .call { callee := .builtin .append, args := #[x, y], argTypes := #[t, u] })
    (hd : d = .string ∨ ∃ E', d = .slice E') (ht : P.underlying t = some (.slice E)) (hu : P.underlying u = some d) (hi : P.info? E = some i) (hsz : i.size = sz)
    (hx : opO e x = some (.arrC p g sz off len cap)) (hσ : σ[p]? = some (.arr sz g cs)) (hsz0 : sz ≠ 0) (hc0 : 0 < cap) (hy : opO e y = some yv) (hsrc : SrcN P σ yv sz m m ds) (hds : ds.length = m * sz) (h1 : ones ds = true) (hroom : len + m ≤ cap) (hfit : (off + (len + m)) * sz ≤ cs.length) :
    AOp P σ e o (.arrC p g sz off (len + m) cap) (σ.set p (.arr sz g (cs.take (off * sz + len * sz) ++ ds ++ cs.drop (off * sz + len * sz + ds.length)))) := by
  intro s a hs gd hv K Q hk _
  subst hs
  subst hsz
  have hplt : p < s.σ.length := (List.getElem?_eq_some_iff.1 hσ).1
  have hxv := (opO_eq hx ▸ hv x (by simp [ho, Op.operands, Call.operands])).inv_arrC hσ
  have hyv := opO_eq hy ▸ hv y (by simp [ho, Op.operands, Call.operands])
  obtain ⟨_, hA, hlc, hft⟩ := hxv
  have hlive : s.live p := by
    unfold CS.live; rw [hσ]
    show (s.μ p).tot ≠ 0
    have : 0 < (off + cap) * i.size := Nat.mul_pos (by omega) (Nat.pos_of_ne_zero hsz0)
    omega
  obtain ⟨_, vs, T, hb, ht0, h7, h8, hpv⟩ := gd.rep hσ hlive
  obtain ⟨ws, hp, hl, hf⟩ := hsrc s _ rfl gd hyv
  have hwl : ws.length = ds.length := hp.1
  have hfl : off * i.size + len * i.size + m * i.size ≤ cs.length := by rw [Nat.add_assoc, ← Nat.add_mul, ← Nat.add_mul]; exact hfit
  have hrun := run_append_room' (ty := o.type) (b := (s.μ p).b) (off := (s.μ p).base + off * i.size) (sLen := len) (sCap := cap) (x := a.eval y) (news := ws) (cur := vs) (T := T) hd ht hu hi hl hf hroom hb (by omega) (one_of_pw hp h1)
  rw [show (s.μ p).base + off * i.size + len * i.size = (s.μ p).base + (off * i.size + len * i.size) by omega] at hrun
  have hsp := splice_list (vs := vs) (news := ws) (base := (s.μ p).base) (i := off * i.size + len * i.size) (L := cs.length) (by omega) (by omega)
  have hps := hpv.splice hp (off * i.size + len * i.size)
  have hcl : (cs.take (off * i.size + len * i.size) ++ ds ++ cs.drop (off * i.size + len * i.size + ds.length)).length = cs.length := by
    simp only [List.length_append, List.length_take, List.length_drop]; omega
  obtain ⟨s', e1, e2, g', x', hμ, hok⟩ := gd.setObj hσ hlive (o' := .arr i.size g (cs.take (off * i.size + len * i.size) ++ ds ++ cs.drop (off * i.size + len * i.size + ds.length))) (.arr _ _ _ _ _ (Nat.le_refl _) fun _ => hcl.symm) rfl
    (vs := vs.take ((s.μ p).base + (off * i.size + len * i.size)) ++ ws ++ vs.drop ((s.μ p).base + (off * i.size + len * i.size) + ws.length)) ⟨ht0, by simp only [List.length_append, List.length_take, List.length_drop]; omega, by rw [hcl]; exact h8, by rw [hcl, hsp]; exact hps⟩
  refine wp_value (w' := s'.w) (cv := .slice (some ⟨(s.μ p).b, (s.μ p).base + off * i.size, none⟩) (len + m) cap) ?_ (hk _ _ s' ⟨rfl, e1⟩ g' x' ?_)
  · rw [e2]
    simp only [execOp, ho, resolve, invoke, builtin, Sem.run_bind, Sem.run_pure, Result.andThen_ok, List.map_toArray, List.map_cons, List.map_nil, hA]
    rw [hrun]; rfl
  · refine .arrC _ _ _ _ _ _ _ rfl (.mk (cs := cs.take (off * i.size + len * i.size) ++ ds ++ cs.drop (off * i.size + len * i.size + ds.length)) (by rw [e1]; simp [hplt]) ⟨rfl, by rw [hμ], hroom, by rw [hμ]; exact hft⟩)
/-- clear: nothing is known of what is there. -/
theorem op_clearA {x : Operand} {t E : TypeId} {z : Value} {sz p g off len : Nat} {cs : List AV} {c : Array TypeId} (ho : o.op = .call { callee := .builtin .clear, args := #[x], argTypes := c }) (hc : c[0]? = some t) (ht : P.underlying t = some (.slice E)) (hz : ∀ w, (zeroValue E).run P w = Result.ok z w) (hzs : z.cells.size = sz) (hz1 : ∀ v ∈ z.cells.toList, v.oneCell' = true)
    (hx : opO e x = some (.arr p g sz off len)) (hσ : σ[p]? = some (.arr sz g cs)) (hlen : 0 < len) (hsz0 : sz ≠ 0) (hfit : (off + len) * sz ≤ cs.length) :
    AOp P σ e o (.tup []) (σ.set p (.arr sz g (cs.take (off * sz) ++ List.replicate (len * sz) .any ++ cs.drop (off * sz + len * sz)))) := by
  intro s a hs gd hv K Q hk _
  subst hs
  have hxv := (opO_eq hx ▸ hv x (by simp [ho, Op.operands, Call.operands])).inv_arr hσ
  obtain ⟨_, ⟨A, hA, h0⟩ | ⟨cap, hA, hlc, hft⟩⟩ := hxv
  · omega
  · have hlive : s.live p := by
      unfold CS.live; rw [hσ]
      show (s.μ p).tot ≠ 0
      have : 0 < (off + cap) * sz := Nat.mul_pos (by omega) (Nat.pos_of_ne_zero hsz0)
      omega
    obtain ⟨_, vs, T, hb, ht0, h7, h8, hpv⟩ := gd.rep hσ hlive
    have hfl : off * sz + len * sz ≤ cs.length := by rw [← Nat.add_mul]; exact hfit
    have hwl : (Builtin.zeroCells z.cells len).toList.length = len * sz := by rw [Array.length_toList, size_zeroCells, hzs]
    have hw1 : ∀ v ∈ (Builtin.zeroCells z.cells len).toList, v.oneCell' = true := by
      intro v hv
      simp only [Builtin.zeroCells, Array.toList_map, List.mem_map, Array.toList_range, List.mem_range] at hv
      obtain ⟨j, hj, rfl⟩ := hv
      have hj2 : j % z.cells.size < z.cells.size := Nat.mod_lt _ (by rw [hzs]; omega)
      rw [getElem!_pos z.cells (j % z.cells.size) hj2]
      exact hz1 _ (by simp)
    generalize hws : (Builtin.zeroCells z.cells len).toList = ws at hwl hw1
    obtain ⟨q, rfl⟩ : ∃ q, len = q + 1 := ⟨len - 1, by omega⟩
    have hst := run_storeCells_at P (s.μ p).b ((s.μ p).base + off * sz) T ws 0 vs.toArray s.w hb (by simp; omega) hw1
    simp only [Nat.add_zero] at hst
    have hrun : (Builtin.clear_ c o.type #[.slice (some ⟨(s.μ p).b, (s.μ p).base + off * sz, none⟩) (q + 1) cap]).run P s.w = .ok (.tuple #[]) (s.w.setRow (s.μ p).b (vs.take ((s.μ p).base + off * sz) ++ ws ++ vs.drop ((s.μ p).base + off * sz + ws.length)).toArray) := by
      simp [Builtin.clear_, hc, run_underlying ht, hz, hws, hst]
    have hsp := splice_list (vs := vs) (news := ws) (base := (s.μ p).base) (i := off * sz) (L := cs.length) (by omega) (by omega)
    have hps := hpv.splice (PW.anysN (s := s) hwl) (off * sz)
    rw [List.length_replicate] at hps
    have hcl : (cs.take (off * sz) ++ List.replicate ((q + 1) * sz) AV.any ++ cs.drop (off * sz + (q + 1) * sz)).length = cs.length := by
      simp only [List.length_append, List.length_take, List.length_drop, List.length_replicate]; omega
    obtain ⟨s', e1, e2, g', x', hμ, hok⟩ := gd.setObj hσ hlive (o' := .arr sz g (cs.take (off * sz) ++ List.replicate ((q + 1) * sz) AV.any ++ cs.drop (off * sz + (q + 1) * sz))) (.arr _ _ _ _ _ (Nat.le_refl _) fun _ => hcl.symm) rfl
      (vs := vs.take ((s.μ p).base + off * sz) ++ ws ++ vs.drop ((s.μ p).base + off * sz + ws.length)) ⟨ht0, by simp only [List.length_append, List.length_take, List.length_drop]; omega, by rw [hcl]; exact h8, by rw [hcl, hsp]; exact hps⟩
    refine wp_value (w' := s'.w) (cv := .tuple #[]) ?_ (hk _ _ s' ⟨rfl, e1⟩ g' x' (V.tup (s := s') [] [] rfl (fun i c v h _ => by simp at h)))
    rw [e2]
    simp only [execOp, ho, resolve, invoke, builtin, Sem.run_bind, Sem.run_pure, Result.andThen_ok, List.map_toArray, List.map_cons, List.map_nil, hA]
    rw [hrun]; rfl
end Lg
namespace Lg
open Go Go.RowKit
variable [GLay]
variable {P : Program} {N : Nat} {e : Env} {σ l : List AO} {Q : QA} {o : Oper} {p : Nat} {x y z : AO} {f : FuncId} {args : List AV} {v : AV}
/-- A call that answers a pointer to a new box of its own, and writes the caller's object p. -/
theorem callFA {n : Nat} (hn : l.length = n) (hp : p < σ.length) (h : ACalls P f args (σ.set p x ++ l) (Ret (.ptr (σ.set p x ++ l).length 0) ((σ.set p x ++ l).set p y ++ [z]))) :
    ACalls P f args (σ.set p x ++ l) (Ret (.ptr (σ.length + n) 0) (σ.set p y ++ (l ++ [z]))) := by
  rw [List.set_append_left _ _ (by simpa using hp), List.set_set, List.length_append, List.length_set, hn, List.append_assoc] at h
  exact h
theorem AWp_freezeBoxS {c : Code} (t k : Nat) {cs : List AV} (hl : lookO e.l t = some (.ptr (σ.length + k) 0)) (hk : l[k]? = some (.box cs)) (h : AWp P N c (e.put (some t) (.pp cs)) (σ.set p x ++ l.set k .gone) Q) (ht : t < N) : AWp P N c e (σ.set p x ++ l) Q :=
  AWp_freeze t (σ.length + k) 0 hl (by rw [get_ownS]; exact hk) (by rw [set_ownS]; exact h) ht
section
variable {T K E : TypeId} {a b c : Operand} {m : List (Int × AV)} {k : Int} {zv : Value}
theorem op_lookupI2N {q : Nat} (ho : o.op = .lookup T a b true) (hu : P.underlying T = some (.map K E)) (hK : P.underlying K = some (.int .i64)) (hz : ∀ w, (zeroValue E).run P w = Result.ok zv w) (hx : opO e a = some (.mapv q)) (hy : opO e b = some (.int .i64 k))
    (hσ : σ[q]? = some (.map (imap m))) (hn : iget m k = none) : AOp P σ e o (.tup [ofConst zv, .bool false]) σ := by
  have h := op_lookupI2 ho hu hK hz hx hy hσ
  rw [hn] at h; exact h
theorem op_lookupIS {q : Nat} {w : AV} (ho : o.op = .lookup T a b false) (hu : P.underlying T = some (.map K E)) (hK : P.underlying K = some (.int .i64)) (hz : ∀ w, (zeroValue E).run P w = Result.ok zv w) (hx : opO e a = some (.mapv q)) (hy : opO e b = some (.int .i64 k))
    (hσ : σ[q]? = some (.map (imap m))) (hn : (iget m k).map (·.2) = some w) : AOp P σ e o w σ := by
  have h := op_lookupI ho hu hK hz hx hy hσ
  rw [hn] at h; exact h
end
end Lg
set_option maxRecDepth 20000
set_option maxHeartbeats 4000000
namespace Lg
open Go Go.Proofs Go.RowKit
variable [GLay] 
theorem scloneN_c (σ : List AO) : ACalls Try.prog 25 [.nils] σ (Ret .nils σ) := by
 refine ACalls_body Try.func25 rfl Try.ntmps25 (res1 Try.results25) (Nat.le_of_ble_eq_true rfl) (fun hcl hal => ?_)
 refine zw1 ?_
 refine AWp_seq ?_
 refine zu1 ?_
 refine zt rfl (op_eqNils rfl Try.underlying42 rfl) ?_
 refine zon ?_
 refine AWp_condT rfl ?_
 refine zw1 ?_
 refine zrt ?_
 exact ResQ_10 rfl hcl trivial (Ret_of rfl)

theorem ncloneN_c (σ : List AO) : ACalls Try.prog 26 [.nils] σ (Ret .nils σ) := by
 refine ACalls_body Try.func26 rfl Try.ntmps26 (res1 Try.results26) (Nat.le_of_ble_eq_true rfl) (fun hcl hal => ?_)
 refine zw1 ?_
 refine AWp_seq ?_
 refine zu1 ?_
 refine zt rfl (op_eqNils rfl Try.underlying43 rfl) ?_
 refine zon ?_
 refine AWp_condT rfl ?_
 refine zw1 ?_
 refine zrt ?_
 exact ResQ_10 rfl hcl trivial (Ret_of rfl)

theorem fresh_c (k : Int) (b ng : Bool) (d s : ByteArray) (x i0 next : Int) (p : Nat) (σ : List AO) (hσ : σ[p]? = some (.box [.int .i64 next])) (hb : 0 ≤ next ∧ next ≤ 1000000000) : ACalls Try.prog 16 [.ptr p 0, .agg [.int .i64 i0, .int .i64 k, .bool b, .bool ng, .str d, .int .i64 x, .str s, .nils, .nils, .nils, .nils]] σ (Ret (.ptr σ.length 0) (σ.set p (.box [.int .i64 (next + 1)]) ++ [.box [.int .i64 next, .int .i64 k, .bool b, .bool ng, .str d, .int .i64 x, .str s, .nils, .nils, .nils, .nils]])) := by
 have hp : p < σ.length := (List.getElem?_eq_some_iff.1 hσ).1
 refine ACalls_body Try.func16 rfl Try.ntmps16 (res1 Try.results16) (Nat.le_of_ble_eq_true rfl) (fun hcl hal => ?_)
 refine AWp_heap (set_same hσ) ?_
 refine zw2 ?_
 refine zw6 ?_
 refine zw8 ?_
 refine AWp_seq ?_
 refine AWp_drawL #[0, 1, 3, 0, 8, 31, 63, 127, 255, 511] Try.mixed (by decide +kernel) (by decide +kernel) ?_
 refine zd1 ?_
 refine zp1 ?_
 refine yP rfl rfl (zc rfl (scloneN_c _)) (trivial) ?_
 refine zd1 ?_
 refine zp1 ?_
 refine yP rfl rfl (zc rfl (ncloneN_c _)) (trivial) ?_
 refine zd1 ?_
 refine yEN rfl rfl rfl (zoa) (⟨.inl rfl, ⟨.inl rfl, ⟨.inl rfl, ⟨.inl rfl, trivial⟩⟩⟩⟩) (trivial) ?_
 refine zd1 ?_
 refine yEN rfl rfl rfl (zoa) (⟨.inl rfl, ⟨.inl rfl, ⟨.inl rfl, ⟨.inl rfl, trivial⟩⟩⟩⟩) (⟨rfl, trivial⟩) ?_
 refine RP.nil rfl ?_
 refine zw1 ?_
 refine zrt ?_
 refine ResQ_K (v := .ptr (σ.length + 0) 0) (σ.length + 1) (by omega) rfl (closed_ownS (x := .box [.int .i64 (next + 1)]) 1 hcl (by simp [AO.cells, AV.ltL, AV.lt]) (by simp [ownLt, AO.cells, AV.ltL, AV.lt])) (by simp [AV.lt]) ?_
 rw [take_ownS]
 exact ⟨rfl, rfl⟩
end Lg
set_option maxRecDepth 20000
set_option maxHeartbeats 4000000
namespace Lg
open Go Go.Proofs Go.RowKit
variable [GLay] 
theorem build_any (n : Nat) : ∀ (v : JV) (next : Int) (p : Nat) (σ : List AO), jsize v ≤ n → jb v → σ[p]? = some (.box [.int .i64 next]) → 0 ≤ next → next + jsize v ≤ 1000000000 → ACalls Try.prog 13 [.ptr p 0, .agg (vcells v)] σ (Ret (.pp (tcells v next)) (σ.set p (.box [.int .i64 (next + jsize v)]))) := by
 induction n with
 | zero => intro v next p σ h; have := jsize_pos v; omega
 | succ n ih =>
 intro v next p σ hn hjb hσ h0 hbd
 have hvs := jsize_eq v
 have hv1 := jsize_pos v
 have hl0 := lsize_nn v.l
 have hm0 := msize_nn v.m
 obtain ⟨hb1, hb2, hb3, hb4, hb5, hb6⟩ := (jb_eq v).1 hjb
 have hp : p < σ.length := (List.getElem?_eq_some_iff.1 hσ).1
 refine ACalls_body Try.func13 rfl Try.ntmps13 (res1 Try.results13) (Nat.le_of_ble_eq_true rfl) (fun hcl hal => ?_)
 rw [vcells_eq v]
 refine AWp_heap (set_same hσ) ?_
 refine zw2 ?_
 refine zw3 ?_
 refine zw4 ?_
 refine zu3 ?_
 refine zt rfl (zc rfl (callFA rfl hp (fresh_c _ _ _ _ _ _ _ next p _ (get_setA hp) ⟨by omega, by omega⟩))) ?_
 refine zv1 ?_
 refine AWp_seq ?_
 refine AWp_seq ?_
 refine AWp_ghostInS 2 9 1 3 rfl rfl rfl ?_
 refine AWp_ghostInS 2 10 1 4 rfl rfl rfl ?_
 refine AWp_regL ?_
 refine zv4 ?_
 refine AWp_block ?_
 -- loop 0 LIVE 0:param 3:box 4:assign 6:assign 19:load 20:call 21:move
 rw [show next + 1 = next + 1 + lsize (v.l.take 0) by simp [lsize]]
 refine AWp_loop (ι := Nat) (fun i => i ≤ v.l.length) (fun i => ⟨[], [(0, .ptr p 0), (3, .ptr (σ.length + 0) 0), (6, .ptr (σ.length + 2) 0), (19, .sl false 8 (lcells v.l)), (20, .int .i64 (v.l.length : Int)), (21, .int .i64 (i : Int))]⟩) (fun i => σ.set p (.box [.int .i64 (next + 1 + lsize (v.l.take i))]) ++ [.box [.int .i64 v.kind, .bool v.b, .bool v.n.neg, .str v.n.digits, .int .i64 v.n.exp, .str v.s, .sl false 8 (lcells v.l), .sl false 9 (mcells v.m)], .box [.int .i64 v.kind, .bool v.b, .bool v.n.neg, .str v.n.digits, .int .i64 v.n.exp, .str v.s, .nils, .nils], .box [.int .i64 next, .int .i64 v.kind, .bool v.b, .bool v.n.neg, .str v.n.digits, .int .i64 v.n.exp, .str v.s, .nils, .nils, .arr (σ.length + 3) 0 1 0 0, .arr (σ.length + 4) i 1 0 i], .arr 1 0 [], .arr 1 i (tL (v.l.take i) (next + 1)).flatten]) (fun i => v.l.length - i) (0) (Nat.zero_le _) ?_ rfl (fun i hi => ?_)
 ·refine ⟨rfl, rfl, rfl, rfl, rfl, ?_, rfl, trivial⟩
  rw [← lcells_length]; rfl
 have hlt0 := lsize_take_le v.l i
 have hlnn := lsize_nn (v.l.take i)
 refine zw1 ?_
 refine AWp_seq ?_
 refine AWp_cond rfl (fun h1 => ?_) (fun h1 => ?_)
 ·(try rw [h1]); replace h1 := zcl h1
  obtain ⟨x, hx⟩ : ∃ x, v.l[i]? = some x := ⟨_, List.getElem?_eq_getElem (show i < v.l.length by omega)⟩
  have hxs := lsize_take v.l i x hx
  have hxm := lsize_mem hx
  have hx1 := jsize_pos x
  have hlt := lsize_take_le v.l (i + 1)
  refine AWp_skip ?_
  refine AWp_seq ?_
  refine AWp_block ?_
  refine zu1 ?_
  rw [vcells_eq x]
  refine zv3 ?_
  refine AWp_drawL #[0, 0, 2, 6, 14, 0, 0, 96, 224, 510, 1023, 2047, 4095] Try.mixed (by decide +kernel) (by decide +kernel) ?_
  refine zd4 ?_
  refine zp1 ?_
  refine zd1 ?_
  refine zp1 ?_
  refine yE rfl rfl (zc rfl (callSA hp (vcells_eq x ▸ ih x _ p _ (by omega) (lb_get hb5 hx) (get_setA hp) (by omega) (by omega)))) (⟨.inl rfl, ⟨.inr (op_load1 rfl Try.isAgg43 (ldv_ownS rfl rfl)), trivial⟩⟩) (trivial) ?_
  refine yA rfl rfl (fun _ => op_buildSlice [[_]] rfl Try.underlying43 Try.sizeOf31 Try.zeroValue31 rfl (by decide) (by decide) rfl rfl rfl rfl rfl) ?_
  refine yE rfl rfl (op_appendArrT len_set 4 (sz := 1) (m := 1) (len := i) (cs := [.pp (tcells x (next + 1 + lsize (v.l.take i)))]) rfl (.inr ⟨_, rfl⟩) Try.underlying43 Try.underlying43 Try.type31 rfl rfl rfl (by decide) rfl rfl (by rw [tLf_len, List.length_take]; omega) rfl rfl rfl (by show (i + 1) * 8 ≤ _; omega) (by omega) rfl) (⟨.inl rfl, ⟨.inl rfl, trivial⟩⟩) (⟨rfl, trivial⟩) ?_
  refine zd2 ?_
  refine yEN rfl rfl rfl (op_storeOS (r := [.int .i64 next, .int .i64 v.kind, .bool v.b, .bool v.n.neg, .str v.n.digits, .int .i64 v.n.exp, .str v.s, .nils, .nils, .arr (σ.length + 3) 0 1 0 0, .arr (σ.length + 4) (i + 1) 1 0 (i + 1)]) rfl Try.sizeOf43 rfl rfl rfl rfl rfl (by decide)) (⟨.inl rfl, ⟨.inl rfl, trivial⟩⟩) (⟨rfl, ⟨rfl, trivial⟩⟩) ?_
  refine RP.nil rfl ?_
  refine AWp_regL ?_
  refine zv2 ?_
  refine ⟨i + 1, σ.length + 5, by omega, by omega, by simp, ⟨rfl, rfl, rfl, rfl, rfl, rfl, rfl, trivial⟩, closed_ownS (x := .box [.int .i64 (next + 1 + lsize (v.l.take i) + jsize x)]) 5 hcl (by simp [AO.cells, AV.ltL, AV.lt]) ?_, ?_, ?_⟩
  ·simp [ownLt, AO.cells, AV.ltL, AV.lt, ofConst1, ltL_append, flat_lt, AV.ltLL]
  ·simp [ltE, AV.lt]; omega
  ·rw [hxs, ← Int.add_assoc, ltake_succ hx, tL_snoc, List.flatten_append]; exact take_ownS 5
 ·(try rw [h1]); replace h1 := zcl h1
  refine AWp_exit ?_
  refine AWp_seq ?_
  refine zw4 ?_
  refine AWp_block ?_
  -- loop 1 LIVE 0:param 4:assign 6:assign 39:load 40:call 41:move
  have hie0 : i = v.l.length := by omega
  subst hie0
  rw [List.take_length]
  rw [show next + 1 + lsize v.l = next + 1 + lsize v.l + msize (v.m.take 0) by simp [msize]]
  rw [show (tL v.l (next + 1)).flatten = (tL v.l (next + 1) ++ tM (v.m.take 0) (next + 1 + lsize v.l)).flatten by simp [tM]]
  refine AWp_loop (ι := Nat) (fun j => j ≤ v.m.length) (fun j => ⟨[], [(0, .ptr p 0), (3, .ptr (σ.length + 0) 0), (6, .ptr (σ.length + 2) 0), (39, .sl false 9 (mcells v.m)), (40, .int .i64 (v.m.length : Int)), (41, .int .i64 (j : Int))]⟩) (fun j => σ.set p (.box [.int .i64 (next + 1 + lsize v.l + msize (v.m.take j))]) ++ [.box [.int .i64 v.kind, .bool v.b, .bool v.n.neg, .str v.n.digits, .int .i64 v.n.exp, .str v.s, .sl false 8 (lcells v.l), .sl false 9 (mcells v.m)], .box [.int .i64 v.kind, .bool v.b, .bool v.n.neg, .str v.n.digits, .int .i64 v.n.exp, .str v.s, .nils, .nils], .box [.int .i64 next, .int .i64 v.kind, .bool v.b, .bool v.n.neg, .str v.n.digits, .int .i64 v.n.exp, .str v.s, .nils, .nils, .arr (σ.length + 3) j 1 0 j, .arr (σ.length + 4) (v.l.length + j) 1 0 (v.l.length + j)], .arr 1 j (krow (v.m.take j)).flatten, .arr 1 (v.l.length + j) (tL v.l (next + 1) ++ tM (v.m.take j) (next + 1 + lsize v.l)).flatten]) (fun j => v.m.length - j) (0) (Nat.zero_le _) ?_ rfl (fun j hj => ?_)
  ·refine ⟨rfl, rfl, rfl, rfl, rfl, ?_, rfl, trivial⟩
   rw [← mcells_length]; rfl
  have hlt0 := msize_take_le v.m j
  have hlnn := msize_nn (v.m.take j)
  refine zw1 ?_
  refine AWp_seq ?_
  refine AWp_cond rfl (fun h2 => ?_) (fun h2 => ?_)
  ·(try rw [h2]); replace h2 := zcl h2
   obtain ⟨q, hq⟩ : ∃ q, v.m[j]? = some q := ⟨_, List.getElem?_eq_getElem (show j < v.m.length by omega)⟩
   have hxs := msize_take v.m j q hq
   have hxm := msize_mem hq
   have hx1 := jsize_pos q.2
   have hlt := msize_take_le v.m (j + 1)
   refine AWp_skip ?_
   refine AWp_seq ?_
   refine AWp_block ?_
   refine zu1 ?_
   rw [vcells_eq q.2]
   refine zv3 ?_
   refine AWp_seq ?_
   refine AWp_drawL #[0, 0, 2, 6, 14, 0, 32, 96, 254, 511, 1023, 2047] Try.mixed (by decide +kernel) (by decide +kernel) ?_
   refine zd4 ?_
   refine zp1 ?_
   refine zd1 ?_
   refine zp1 ?_
   refine yA rfl rfl (fun _ => op_buildSlice [[_]] rfl Try.underlying42 Try.sizeOf9 Try.zeroValue9 rfl (by decide) (by decide) rfl rfl rfl rfl rfl) ?_
   refine yE rfl rfl (op_appendArrT len_set 3 (sz := 1) (m := 1) (len := j) (cs := [.str q.1]) rfl (.inr ⟨_, rfl⟩) Try.underlying42 Try.underlying42 Try.type9 rfl rfl rfl (by decide) rfl rfl (by rw [kflat_len, List.length_take]; omega) rfl rfl rfl (by show (j + 1) * 16 ≤ _; omega) (by omega) rfl) (⟨.inl rfl, ⟨.inl rfl, trivial⟩⟩) (trivial) ?_
   refine zd2 ?_
   refine yEN rfl rfl rfl (op_storeOS (r := [.int .i64 next, .int .i64 v.kind, .bool v.b, .bool v.n.neg, .str v.n.digits, .int .i64 v.n.exp, .str v.s, .nils, .nils, .arr (σ.length + 3) (j + 1) 1 0 (j + 1), .arr (σ.length + 4) (v.l.length + j) 1 0 (v.l.length + j)]) rfl Try.sizeOf42 rfl rfl rfl rfl rfl (by decide)) (⟨.inl rfl, ⟨.inl rfl, trivial⟩⟩) (⟨rfl, trivial⟩) ?_
   refine RP.nil rfl ?_
   refine AWp_drawL #[0, 0, 2, 6, 14, 0, 0, 64, 224, 480, 1022, 2047, 4095, 8191] Try.mixed (by decide +kernel) (by decide +kernel) ?_
   refine zd4 ?_
   refine zp1 ?_
   refine zd2 ?_
   refine zp1 ?_
   refine yE rfl rfl (zc rfl (callSA hp (vcells_eq q.2 ▸ ih q.2 _ p _ (by omega) (mb_get hb6 hq).2 (get_setA hp) (by omega) (by omega)))) (⟨.inl rfl, ⟨.inr (op_load1 rfl Try.isAgg43 (ldv_ownS rfl rfl)), trivial⟩⟩) (trivial) ?_
   refine yA rfl rfl (fun _ => op_buildSlice [[_]] rfl Try.underlying43 Try.sizeOf31 Try.zeroValue31 rfl (by decide) (by decide) rfl rfl rfl rfl rfl) ?_
   refine yE rfl rfl (op_appendArrT len_set 4 (sz := 1) (m := 1) (len := (v.l.length + j)) (cs := [.pp (tcells q.2 (next + 1 + lsize v.l + msize (v.m.take j)))]) rfl (.inr ⟨_, rfl⟩) Try.underlying43 Try.underlying43 Try.type31 rfl rfl rfl (by decide) rfl rfl (by rw [List.flatten_append, List.length_append, tLf_len, tMf_len, List.length_take]; omega) rfl rfl rfl (by show ((v.l.length + j) + 1) * 8 ≤ _; omega) (by omega) rfl) (⟨.inl rfl, ⟨.inl rfl, trivial⟩⟩) (⟨rfl, trivial⟩) ?_
   refine zd2 ?_
   refine yEN rfl rfl rfl (op_storeOS (r := [.int .i64 next, .int .i64 v.kind, .bool v.b, .bool v.n.neg, .str v.n.digits, .int .i64 v.n.exp, .str v.s, .nils, .nils, .arr (σ.length + 3) (j + 1) 1 0 (j + 1), .arr (σ.length + 4) (v.l.length + j + 1) 1 0 (v.l.length + j + 1)]) rfl Try.sizeOf43 rfl rfl rfl rfl rfl (by decide)) (⟨.inl rfl, ⟨.inl rfl, trivial⟩⟩) (⟨rfl, ⟨rfl, trivial⟩⟩) ?_
   refine RP.nil rfl ?_
   refine AWp_regL ?_
   refine zv2 ?_
   refine ⟨j + 1, σ.length + 5, by omega, by omega, by simp, ⟨rfl, rfl, rfl, rfl, rfl, rfl, rfl, trivial⟩, closed_ownS (x := .box [.int .i64 (next + 1 + lsize v.l + msize (v.m.take j) + jsize q.2)]) 5 hcl (by simp [AO.cells, AV.ltL, AV.lt]) ?_, ?_, ?_⟩
   ·simp [ownLt, AO.cells, AV.ltL, AV.lt, ofConst1, ltL_append, flat_lt, AV.ltLL]
   ·simp [ltE, AV.lt]; omega
   ·rw [hxs, ← Int.add_assoc, ltake_succ hq, tM_snoc, krow_snoc, flat_snoc]; exact take_ownS 5
  ·(try rw [h2]); replace h2 := zcl h2
   refine AWp_exit ?_
   refine AWp_seq ?_
   have hie : j = v.m.length := by omega
   subst hie
   rw [List.take_length]
   refine AWp_freezeInS 2 10 4 (v.l.length + v.m.length) 1 0 (v.l.length + v.m.length) rfl rfl rfl (tL v.l (next + 1) ++ tM v.m (next + 1 + lsize v.l)) (by rw [Nat.zero_mul, List.drop_zero, Nat.mul_one, List.take_of_length_le]; rw [List.flatten_append, List.length_append, tLf_len, tMf_len]; exact Nat.le_refl _) (fun r hr => (List.mem_append.1 hr).elim (tL_el _ _ r) (tM_el _ _ r)) (by rw [List.length_append, tL_len, tM_len]) (by decide) (by rw [List.flatten_append, List.length_append, tLf_len, tMf_len]; omega) ?_
   refine AWp_freezeInS 2 9 3 v.m.length 1 0 v.m.length rfl rfl rfl (krow v.m) (by rw [Nat.zero_mul, List.drop_zero, Nat.mul_one, List.take_of_length_le]; rw [kflat_len]; exact Nat.le_refl _) (krow_el _) (krow_len _) (by decide) (by rw [kflat_len]; omega) ?_
   refine AWp_freezeBoxS 6 2 rfl rfl ?_ (by decide)
   refine AWp_regL ?_
   refine zv2 ?_
   refine zrt ?_
   rw [tcells_eq, hvs, show next + (1 + lsize v.l + msize v.m) = next + 1 + lsize v.l + msize v.m by omega]
   exact ResQ_S rfl hcl (by simp [AO.cells, AV.ltL, AV.lt]) (by show AV.ltL σ.length [_, _, _, _, _, _, _, _, _, _, _]; simp [AV.lt, AV.ltL, AV.ltLL, ltLL_app]) ⟨rfl, rfl⟩
end Lg
namespace Lg
open Go
/-! ### What strings.ReplaceAll and strings.Split answer, by recursion -/
theorem ix_pre {l old : BL} (h : old.isPrefixOf l = true) : Lib.index l old = 0 := by
  cases l with
  | nil => cases old with
    | nil => simp [Lib.index]
    | cons a r => simp [List.isPrefixOf] at h
  | cons b l => unfold Lib.index; rw [if_pos h]
theorem ix_cons {b : UInt8} {l old : BL} (h : old.isPrefixOf (b :: l) = false) : Lib.index (b :: l) old = if Lib.index l old = -1 then -1 else Lib.index l old + 1 := by
  rw [Lib.index, h]; simp
theorem ix_nil {old : BL} (h : old ≠ []) : Lib.index [] old = -1 := by
  cases old with
  | nil => exact absurd rfl h
  | cons a r => simp [Lib.index]
theorem cnt_cons {b : UInt8} {l old : BL} (h0 : old ≠ []) (h : old.isPrefixOf (b :: l) = false) : Lib.count (b :: l) old = Lib.count l old := by
  have hix := ix_cons h
  by_cases hm : Lib.index l old = -1
  · rw [Lib.count_miss hm, Lib.count_miss (by rw [hix, if_pos hm])]
  · have hge := Lib.index_ge l old
    obtain ⟨j, hj⟩ : ∃ j : Nat, Lib.index l old = j := ⟨(Lib.index l old).toNat, by omega⟩
    have hix' : Lib.index (b :: l) old = ((j + 1 : Nat) : Int) := by rw [hix, if_neg hm, hj]; omega
    rw [Lib.count_hit h0 hj, Lib.count_hit h0 hix', show j + 1 + old.length = (j + old.length) + 1 by omega, List.drop_succ_cons]
theorem pre_app (old r : BL) : old.isPrefixOf (old ++ r) = true := by simp
theorem cnt_pre {old : BL} (h0 : old ≠ []) (r : BL) : Lib.count (old ++ r) old = 1 + Lib.count r old := by
  rw [Lib.count_hit h0 (i := 0) (ix_pre (pre_app old r)), Nat.zero_add, List.drop_left]
theorem rk_cons {b : UInt8} {l old nw : BL} (h : old.isPrefixOf (b :: l) = false) (k : Nat) : Lib.replaceK old nw k (b :: l) = b :: Lib.replaceK old nw k l := by
  cases k with
  | zero => rfl
  | succ k =>
    have hix := ix_cons h
    by_cases hm : Lib.index l old = -1
    · rw [Lib.replaceK, Lib.replaceK, hix, if_pos hm, if_pos (by decide), hm, if_pos (by decide)]
    · have hge := Lib.index_ge l old
      obtain ⟨j, hj⟩ : ∃ j : Nat, Lib.index l old = j := ⟨(Lib.index l old).toNat, by omega⟩
      have hix' : Lib.index (b :: l) old = ((j + 1 : Nat) : Int) := by rw [hix, if_neg hm, hj]; omega
      rw [Lib.replaceK_hit old nw k l j hj, Lib.replaceK_hit old nw k (b :: l) (j + 1) hix', show j + 1 + old.length = (j + old.length) + 1 by omega, List.drop_succ_cons, List.take_succ_cons]
      rfl
theorem rk_pre (old nw r : BL) (k : Nat) : Lib.replaceK old nw (k + 1) (old ++ r) = nw ++ Lib.replaceK old nw k r := by
  rw [Lib.replaceK_hit old nw k _ 0 (ix_pre (pre_app old r)), Nat.zero_add, List.drop_left]
  rfl
def ra (old nw s : BL) : BL := Lib.replaceK old nw (Lib.count s old) s
theorem ra_all {old nw : BL} (h : old ≠ nw) (s : BL) : Lib.replaceAll s old nw = ra old nw s := by
  unfold Lib.replaceAll Lib.replace Lib.replaceNum ra
  rw [if_neg (by simpa using h), if_pos (.inl (by decide))]
theorem ra_nil {old nw : BL} (h : old ≠ []) : ra old nw [] = [] := by
  unfold ra; rw [Lib.count_miss (ix_nil h)]; rfl
theorem ra_cons {b : UInt8} {l old nw : BL} (h0 : old ≠ []) (h : old.isPrefixOf (b :: l) = false) : ra old nw (b :: l) = b :: ra old nw l := by
  unfold ra; rw [cnt_cons h0 h, rk_cons h]
theorem ra_pre {old : BL} (h0 : old ≠ []) (nw r : BL) : ra old nw (old ++ r) = nw ++ ra old nw r := by
  unfold ra; rw [cnt_pre h0, Nat.add_comm, rk_pre]
/-- One byte, replaced. -/
theorem ra_one (c : UInt8) (nw : BL) : ∀ s : BL, ra [c] nw s = s.flatMap fun b => if b = c then nw else [b]
  | [] => ra_nil (by simp)
  | b :: l => by
    rw [List.flatMap_cons, ← ra_one c nw l]
    by_cases h : b = c
    · subst h; rw [if_pos rfl]; exact ra_pre (old := [b]) (by simp) nw l
    · rw [if_neg h, ra_cons (by simp) (by simp [List.isPrefixOf, Ne.symm h])]; rfl
/-- Pieces between bytes c. -/
def pcs (c : UInt8) : BL → List BL
  | [] => [[]]
  | b :: l => if b = c then [] :: pcs c l else match pcs c l with
    | [] => [[b]]
    | p :: r => (b :: p) :: r
theorem pcs_no {c : UInt8} : ∀ {l : BL}, c ∉ l → pcs c l = [l]
  | [], _ => rfl
  | b :: l, h => by
    have hb : ¬ b = c := fun e => h (by simp [e])
    rw [pcs, if_neg hb, pcs_no (fun e => h (by simp [e]))]
theorem pcs_hit {c : UInt8} : ∀ {p : BL} (r : BL), c ∉ p → pcs c (p ++ c :: r) = p :: pcs c r
  | [], r, _ => by simp [pcs]
  | b :: p, r, h => by
    have hb : ¬ b = c := fun e => h (by simp [e])
    rw [List.cons_append, pcs, if_neg hb, pcs_hit r (fun e => h (by simp [e]))]
theorem ix_no {c : UInt8} : ∀ {l : BL}, c ∉ l → Lib.index l [c] = -1
  | [], _ => ix_nil (by simp)
  | b :: l, h => by
    have hb : ¬ c = b := fun e => h (by simp [e])
    rw [ix_cons (by simp [List.isPrefixOf, hb]), if_pos (ix_no (fun e => h (by simp [e])))]
theorem ix_hit {c : UInt8} : ∀ {p : BL} (r : BL), c ∉ p → Lib.index (p ++ c :: r) [c] = (p.length : Int)
  | [], r, _ => ix_pre (by simp [List.isPrefixOf])
  | b :: p, r, h => by
    have hb : ¬ c = b := fun e => h (by simp [e])
    rw [List.cons_append, ix_cons (by simp [List.isPrefixOf, hb]), ix_hit r (fun e => h (by simp [e])), if_neg (by omega)]; simp
theorem first_of (c : UInt8) : ∀ l : BL, c ∉ l ∨ ∃ p r, l = p ++ c :: r ∧ c ∉ p
  | [] => .inl (by simp)
  | b :: l => by
    by_cases h : b = c
    · subst h; exact .inr ⟨[], l, rfl, by simp⟩
    · rcases first_of c l with h1 | ⟨p, r, rfl, h1⟩
      · exact .inl (by simp [Ne.symm h, h1])
      · exact .inr ⟨b :: p, r, rfl, by simp [Ne.symm h, h1]⟩
theorem splitB_pcs (c : UInt8) (n : Nat) : ∀ l : BL, l.length ≤ n → Lib.splitB ⟨#[c]⟩ 0 (Lib.countB (ba l) ⟨#[c]⟩) (ba l) = (pcs c l).map ba := by
  induction n with
  | zero =>
    intro l h
    obtain rfl : l = [] := List.eq_nil_of_length_eq_zero (by omega)
    rfl
  | succ n ih =>
    intro l h
    have hc : Lib.countB (ba l) ⟨#[c]⟩ = Lib.count l [c] := by unfold Lib.countB; rw [ba_toList]
    have hix : Lib.indexB (ba l) ⟨#[c]⟩ = Lib.index l [c] := by unfold Lib.indexB; rw [ba_toList]
    rcases first_of c l with h1 | ⟨p, r, rfl, h1⟩
    · rw [Lib.splitB_miss _ _ _ _ (hix.trans (ix_no h1)), pcs_no h1]; rfl
    · have hi := ix_hit r h1
      rw [hc, Lib.count_hit (by simp) hi, Nat.add_comm 1, Lib.splitB_hit _ _ _ _ p.length (hix.trans hi), pcs_hit r h1]
      have e1 : (ba (p ++ c :: r)).extract 0 (p.length + 0) = ba p := ba_ext (by simp [ba])
      have e2 : (ba (p ++ c :: r)).extract (p.length + (ByteArray.mk #[c]).size) (ba (p ++ c :: r)).size = ba r := ba_ext (by simp [ba, ByteArray.size]; exact List.take_of_length_le (by omega))
      have e3 : List.drop (p.length + [c].length) (p ++ c :: r) = r := by simp
      rw [e1, e2, e3]
      have := ih r (by simp at h; omega)
      unfold Lib.countB at this
      rw [ba_toList] at this
      rw [List.map_cons, ← this]
end Lg
namespace Lg
open Go
/-! ### Pointers: the plain law -/
def pesc1 (b : UInt8) : BL := if b = 126 then [126, 48] else if b = 47 then [126, 49] else [b]
def pesc (s : BL) : BL := s.flatMap pesc1
def pune : BL → BL
  | 126 :: 48 :: r => 126 :: pune r
  | 126 :: 49 :: r => 47 :: pune r
  | b :: r => b :: pune r
  | [] => []
def okP (s : BL) : Prop := ∀ i : Nat, s[i]? = some 126 → s[i + 1]? = some 48 ∨ s[i + 1]? = some 49
theorem esc_ra (s : BL) : ra [47] [126, 49] (ra [126] [126, 48] s) = pesc s := by
  rw [ra_one, ra_one, List.flatMap_assoc]
  unfold pesc
  congr 1
  funext b
  unfold pesc1
  by_cases h : b = 126
  · subst h; rfl
  · rw [if_neg h, if_neg h]
    by_cases h2 : b = 47
    · subst h2; rfl
    · simp [h2]
theorem okP_tl {b : UInt8} {l : BL} (h : okP (b :: l)) : okP l := fun i hi => h (i + 1) hi
theorem okP_hd {l : BL} (h : okP (126 :: l)) : ∃ r, l = 48 :: r ∨ l = 49 :: r := by
  have := h 0 rfl
  cases l with
  | nil => simp at this
  | cons c r => simp at this; rcases this with rfl | rfl; exact ⟨r, .inl rfl⟩; exact ⟨r, .inr rfl⟩
theorem okP_nil : okP [] := fun i hi => by simp at hi
theorem okP_cons {b : UInt8} {l : BL} (hb : ¬ b = 126) (h : okP l) : okP (b :: l) := fun i hi => by
  cases i with
  | zero => simp at hi; exact absurd hi hb
  | succ i => exact h i hi
theorem okP_esc {c : UInt8} {l : BL} (hc : c = 48 ∨ c = 49) (h : okP l) : okP (126 :: c :: l) := fun i hi => by
  cases i with
  | zero => rcases hc with rfl | rfl; exact .inl rfl; exact .inr rfl
  | succ i => exact okP_cons (by rcases hc with rfl | rfl <;> decide) h i hi
theorem une_c {b : UInt8} (hb : ¬ b = 126) (l : BL) : pune (b :: l) = b :: pune l := by
  rw [pune.eq_def]; split
  · rename_i heq; exact absurd (List.cons.inj heq).1 hb
  · rename_i heq; exact absurd (List.cons.inj heq).1 hb
  · rename_i b' r' h1 h2 heq; obtain ⟨rfl, rfl⟩ := List.cons.inj heq; rfl
  · rename_i heq; cases heq
/-- Induction over a text all of whose tildes are followed by 0 or 1. -/
theorem okP_ind {M : BL → Prop} (h0 : M []) (h1 : ∀ r, okP r → M r → M (126 :: 48 :: r)) (h2 : ∀ r, okP r → M r → M (126 :: 49 :: r)) (h3 : ∀ b r, ¬ b = 126 → okP r → M r → M (b :: r)) : ∀ (n : Nat) (l : BL), l.length ≤ n → okP l → M l := by
  intro n
  induction n with
  | zero => intro l hl _; obtain rfl : l = [] := List.eq_nil_of_length_eq_zero (by omega); exact h0
  | succ n ih =>
    intro l hl h
    cases l with
    | nil => exact h0
    | cons b r =>
      by_cases hb : b = 126
      · subst hb
        obtain ⟨t, rfl | rfl⟩ := okP_hd h
        · exact h1 t (okP_tl (okP_tl h)) (ih t (by simp at hl; omega) (okP_tl (okP_tl h)))
        · exact h2 t (okP_tl (okP_tl h)) (ih t (by simp at hl; omega) (okP_tl (okP_tl h)))
      · exact h3 b r hb (okP_tl h) (ih r (by simp at hl; omega) (okP_tl h))
theorem pf_no {a b c d : UInt8} {l : BL} (h : ¬ (a = c ∧ ∃ r, l = b :: r)) : ([a, b] : BL).isPrefixOf (c :: l) = false := by
  cases l with
  | nil => simp [List.isPrefixOf]
  | cons e r =>
    simp only [List.isPrefixOf]
    by_cases h1 : a = c
    · by_cases h2 : b = e
      · exact absurd ⟨h1, r, by rw [h2]⟩ h
      · simp [h2]
    · simp [h1]
theorem une_ra (l : BL) (h : okP l) : ra [126, 48] [126] (ra [126, 49] [47] l) = pune l := by
  refine okP_ind (M := fun l => ra [126, 48] [126] (ra [126, 49] [47] l) = pune l) ?_ ?_ ?_ ?_ l.length l (Nat.le_refl _) h
  · rw [ra_nil (by simp), ra_nil (by simp)]; rfl
  · intro r _ ih
    rw [ra_cons (b := 126) (by simp) (pf_no (d := 0) (by rintro ⟨_, r', e⟩; simp at e)), ra_cons (b := 48) (by simp) (pf_no (d := 0) (by rintro ⟨e, _⟩; simp at e)),
      show (126 :: 48 :: ra [126, 49] [47] r : BL) = [126, 48] ++ ra [126, 49] [47] r from rfl, ra_pre (by simp), ih]; rfl
  · intro r _ ih
    rw [show (126 :: 49 :: r : BL) = [126, 49] ++ r from rfl, ra_pre (by simp), show ([47] ++ ra [126, 49] [47] r : BL) = 47 :: ra [126, 49] [47] r from rfl,
      ra_cons (by simp) (pf_no (d := 0) (by rintro ⟨e, _⟩; simp at e)), ih]; rfl
  · intro b r hb _ ih
    rw [ra_cons (by simp) (pf_no (d := 0) (by rintro ⟨e, _⟩; exact hb e.symm)), ra_cons (by simp) (pf_no (d := 0) (by rintro ⟨e, _⟩; exact hb e.symm)), ih, une_c hb]
theorem esc_cons (b : UInt8) (l : BL) : pesc (b :: l) = pesc1 b ++ pesc l := rfl
theorem esc_une (l : BL) (h : okP l) (h7 : (47 : UInt8) ∉ l) : pesc (pune l) = l := by
  revert h7
  refine okP_ind (M := fun l => (47 : UInt8) ∉ l → pesc (pune l) = l) (fun _ => rfl) ?_ ?_ ?_ l.length l (Nat.le_refl _) h
  · intro r _ ih h7; show pesc (126 :: pune r) = _; rw [esc_cons, ih (fun e => h7 (by simp [e]))]; rfl
  · intro r _ ih h7; show pesc (47 :: pune r) = _; rw [esc_cons, ih (fun e => h7 (by simp [e]))]; rfl
  · intro b r hb _ ih h7
    rw [une_c hb, esc_cons, ih (fun e => h7 (by simp [e]))]
    unfold pesc1; rw [if_neg hb, if_neg (fun e => h7 (by simp [e]))]; rfl
theorem une_esc : ∀ l : BL, pune (pesc l) = l
  | [] => rfl
  | b :: l => by
    have ih := une_esc l
    rw [esc_cons]; unfold pesc1
    by_cases h : b = 126
    · subst h; rw [if_pos rfl]; show 126 :: pune (pesc l) = _; rw [ih]
    · rw [if_neg h]
      by_cases h2 : b = 47
      · subst h2; rw [if_pos rfl]; show 47 :: pune (pesc l) = _; rw [ih]
      · rw [if_neg h2]; show pune (b :: pesc l) = _; rw [une_c h, ih]
theorem esc_no7 : ∀ l : BL, (47 : UInt8) ∉ pesc l
  | [] => by simp [pesc]
  | b :: l => by
    rw [esc_cons]; intro h
    rcases List.mem_append.1 h with h | h
    · unfold pesc1 at h; split at h
      · simp at h
      · split at h
        · simp at h
        · rename_i h2; simp at h; exact h2 h.symm
    · exact esc_no7 l h
theorem okP_escA : ∀ (l m : BL), okP m → okP (pesc l ++ m)
  | [], m, h => h
  | b :: l, m, h => by
    have ih := okP_escA l m h
    rw [esc_cons, List.append_assoc]; unfold pesc1
    by_cases h1 : b = 126
    · rw [if_pos h1]; exact okP_esc (.inl rfl) ih
    · rw [if_neg h1]
      by_cases h2 : b = 47
      · rw [if_pos h2]; exact okP_esc (.inr rfl) ih
      · rw [if_neg h2]; exact okP_cons h1 ih
def shw (l : List BL) : BL := l.flatMap fun x => 47 :: pesc x
theorem shw_app (l m : List BL) : shw l ++ shw m = shw (l ++ m) := by simp [shw]
theorem shw_cons (x : BL) (l : List BL) : shw (x :: l) = 47 :: (pesc x ++ shw l) := by simp [shw]
theorem okP_shw : ∀ l : List BL, okP (shw l)
  | [] => okP_nil
  | x :: l => by rw [shw_cons]; exact okP_cons (by decide) (okP_escA x _ (okP_shw l))
theorem pcs_shw (x : BL) : ∀ l : List BL, pcs 47 (pesc x ++ shw l) = (x :: l).map pesc
  | [] => by rw [show shw [] = [] from rfl, List.append_nil, pcs_no (esc_no7 x)]; rfl
  | y :: l => by rw [shw_cons, pcs_hit _ (esc_no7 x), pcs_shw y l]; rfl
theorem pcs_join (c : UInt8) (n : Nat) : ∀ l : BL, l.length ≤ n → ((pcs c l).flatMap fun p => c :: p) = c :: l := by
  induction n with
  | zero => intro l h; obtain rfl : l = [] := List.eq_nil_of_length_eq_zero (by omega); rfl
  | succ n ih =>
    intro l h
    rcases first_of c l with h1 | ⟨p, r, rfl, h1⟩
    · rw [pcs_no h1]; simp
    · rw [pcs_hit r h1, List.flatMap_cons, ih r (by simp at h; omega)]; simp
theorem okP_sfx : ∀ {p l : BL}, okP (p ++ l) → okP l
  | [], _, h => h
  | _ :: p, l, h => okP_sfx (p := p) (okP_tl h)
theorem okP_pfx {p r : BL} (h : okP (p ++ 47 :: r)) : okP p := fun i hi => by
  have hlt := (List.getElem?_eq_some_iff.1 hi).1
  have h2 := h i (by rw [List.getElem?_append_left hlt]; exact hi)
  by_cases e : i + 1 < p.length
  · rw [List.getElem?_append_left e] at h2; exact h2
  · have e2 : i + 1 = p.length := by omega
    rw [e2, List.getElem?_append_right (Nat.le_refl _), Nat.sub_self] at h2
    simp at h2
theorem pcs_ok (n : Nat) : ∀ l : BL, l.length ≤ n → okP l → ∀ p ∈ pcs 47 l, okP p ∧ (47 : UInt8) ∉ p ∧ p.length ≤ l.length := by
  induction n with
  | zero => intro l h _ p hp; obtain rfl : l = [] := List.eq_nil_of_length_eq_zero (by omega); simp [pcs] at hp; subst hp; exact ⟨okP_nil, by simp, by simp⟩
  | succ n ih =>
    intro l h hk p hp
    rcases first_of 47 l with h1 | ⟨q, r, rfl, h1⟩
    · rw [pcs_no h1] at hp; simp at hp; subst hp; exact ⟨hk, h1, Nat.le_refl _⟩
    · rw [pcs_hit r h1] at hp
      rcases List.mem_cons.1 hp with rfl | hp
      · exact ⟨okP_pfx hk, h1, by simp⟩
      · obtain ⟨a, b, c⟩ := ih r (by simp at h; omega) (okP_tl (okP_sfx hk)) p hp
        exact ⟨a, b, by simp; omega⟩
/-- What is shown, is parsed: the names. -/
theorem shw_back (x : BL) (l : List BL) : (pcs 47 (pesc x ++ shw l)).map pune = x :: l := by
  rw [pcs_shw, List.map_map]
  have : pune ∘ pesc = id := funext une_esc
  rw [this, List.map_id]
/-- What is parsed, is shown. -/
theorem shw_fwd (t : BL) (h : okP t) : shw ((pcs 47 t).map pune) = 47 :: t := by
  rw [← pcs_join 47 t.length t (Nat.le_refl _)]
  unfold shw
  rw [List.flatMap_map]
  have : ∀ p ∈ pcs 47 t, (47 :: pesc (pune p) : BL) = 47 :: p := fun p hp => by
    obtain ⟨a, b, _⟩ := pcs_ok t.length t (Nat.le_refl _) h p hp
    rw [esc_une p a b]
  revert this
  generalize pcs 47 t = L
  intro this
  induction L with
  | nil => rfl
  | cons p r ih => rw [List.flatMap_cons, List.flatMap_cons, this p (by simp), ih (fun q hq => this q (by simp [hq]))]
theorem esc_len : ∀ l : BL, (pesc l).length ≤ 2 * l.length
  | [] => by simp [pesc]
  | b :: l => by
    have := esc_len l
    rw [esc_cons, List.length_append, List.length_cons]
    have : (pesc1 b).length ≤ 2 := by unfold pesc1; split <;> (try split) <;> simp
    omega
end Lg
namespace Lg
open Go Go.RowKit
section
variable [GLay] {P : Program} {N : Nat} {σ l : List AO} {e : Env} {Q : QA} {o : Oper}
/-- A place of an array of the call's own. -/
theorem op_indexAddrA {T E : TypeId} {x y : Operand} {sz p gg len : Nat} {k : IntKind} {n : Int} {cs : List AV} (ho : o.op = .indexAddr T x y) (hu : P.underlying T = some (.slice E))
    (hsz : ∀ w, (Go.sizeOf E).run P w = Result.ok sz w) (hx : opO e x = some (.arr p gg sz 0 len)) (hy : opO e y = some (.int k n)) (h0 : 0 ≤ n) (hlt : n < len) (hσ : σ[p]? = some (.arr sz gg cs)) : AOp P σ e o (.pel p gg (n.toNat * sz)) σ :=
  .of_run fun s a hs g hv => by
    subst hs
    have h1 := opO_eq hx ▸ hv x (by simp [ho, Op.operands])
    have h2 := (opO_eq hy ▸ hv y (by simp [ho, Op.operands])).inv_int
    rcases h1.inv_arr hσ with ⟨_, ⟨ad, h3, h4⟩ | ⟨cap, h3, h4, h5⟩⟩
    · omega
    · refine ⟨_, by simp only [execOp, ho, h3, h2, Sem.run_bind]; rw [run_indexAt_slice (cap := cap) hu hsz h0 hlt]; rfl, ?_⟩
      refine .pel _ _ _ _ rfl ?_
      unfold ArrAt
      rw [hσ]
      exact ⟨Nat.le_refl _, fun _ => by simp⟩
theorem op_indexAddrAO {T E : TypeId} {x y : Operand} {sz j gg len : Nat} {k : IntKind} {n : Int} {cs : List AV} (ho : o.op = .indexAddr T x y) (hu : P.underlying T = some (.slice E))
    (hsz : ∀ w, (Go.sizeOf E).run P w = Result.ok sz w) (hx : opO e x = some (.arr (σ.length + j) gg sz 0 len)) (hy : opO e y = some (.int k n)) (h0 : 0 ≤ n) (hlt : n < len) (hl : l[j]? = some (.arr sz gg cs)) : AOp P (σ ++ l) e o (.pel (σ.length + j) gg (n.toNat * sz)) (σ ++ l) :=
  op_indexAddrA ho hu hsz hx hy h0 hlt (by rw [get_own]; exact hl)
theorem AWp_freezeAO {c : Code} (t k gg sz n : Nat) (es : List (List AV)) (hl : lookO e.l t = some (.arr (σ.length + k) gg sz 0 n)) (hk : l[k]? = some (.arr sz gg es.flatten)) (hel : ∀ r ∈ es, r.length = sz) (hn : es.length = n) (hsz : sz ≠ 0) (h : AWp P N c (e.put (some t) (.sl false sz es)) (σ ++ l.set k .dead) Q) (ht : t < N) : AWp P N c e (σ ++ l) Q := by
  have hf : es.flatten.length = n * sz := by rw [flatten_len hel, hn]
  exact AWp_freezeArr t (σ.length + k) gg sz 0 n hl (by rw [get_own]; exact hk) es (by rw [Nat.zero_mul, List.drop_zero, ← hf, List.take_length]) hel hn hsz (by rw [hf, Nat.zero_add]; exact Nat.le_refl _) (by rw [set_own]; exact h) ht
end
/-! ### Rows of texts -/
def srow (l : List BL) : List (List AV) := l.map fun x => [AV.str (ba x)]
theorem srow_len (l : List BL) : (srow l).length = l.length := by simp [srow]
theorem srow_get {l : List BL} {i : Nat} {x : BL} (h : l[i]? = some x) : (srow l)[i]? = some [AV.str (ba x)] := by simp [srow, h]
theorem srow_el (l : List BL) : ∀ r ∈ srow l, r.length = 1 := by
  intro r hr; simp [srow] at hr; obtain ⟨x, _, rfl⟩ := hr; rfl
theorem srow_flat (l : List BL) : (srow l).flatten = l.map fun x => AV.str (ba x) := by
  induction l with
  | nil => rfl
  | cons a r ih => show [AV.str (ba a)] ++ (srow r).flatten = _; rw [ih]; rfl
@[simp] theorem srow_lt (m : Nat) (l : List BL) : AV.ltLL m (srow l) := by
  induction l with
  | nil => simp [srow, AV.ltLL]
  | cons a r ih => simpa [srow, AV.ltLL, AV.ltL, AV.lt] using ih
@[simp] theorem smap_lt (m : Nat) (l : List BL) : AV.ltL m (l.map fun x => AV.str (ba x)) := by
  induction l with
  | nil => simp [AV.ltL]
  | cons a r ih => simpa [AV.ltL, AV.lt] using ih
theorem ra1_len (c : UInt8) (nw : BL) (h : nw.length ≤ 2) : ∀ s : BL, (ra [c] nw s).length ≤ 2 * s.length := by
  intro s
  rw [ra_one]
  induction s with
  | nil => simp
  | cons b r ih =>
    rw [List.flatMap_cons, List.length_append, List.length_cons]
    have : (if b = c then nw else [b]).length ≤ 2 := by split <;> simp [h]
    omega
theorem shw_snoc (l : List BL) (x : BL) : shw (l ++ [x]) = shw l ++ 47 :: pesc x := by simp [shw]
theorem shw_len (B : Nat) : ∀ l : List BL, (∀ x ∈ l, x.length ≤ B) → (shw l).length ≤ l.length * (2 * B + 1)
  | [], _ => by simp [shw]
  | x :: l, h => by
    have ih := shw_len B l (fun y hy => h y (by simp [hy]))
    have hx := h x (by simp)
    have he := esc_len x
    rw [shw_cons, List.length_cons, List.length_append, List.length_cons, Nat.add_mul]
    omega
/-! ### What a pointer's text says -/
def tbad (s : BL) (i : Nat) : Bool := decide (s[i]? = some 126) && !(decide (s[i + 1]? = some 48) || decide (s[i + 1]? = some 49))
/-- Where something is amiss. -/
def pE (s : BL) : Option Nat := if s = [] then none else if ¬ s[0]? = some 47 then some 0 else (List.range s.length).find? (tbad s)
def pN (s : BL) : List BL := if s = [] then [] else if (pE s).isSome then [] else (pcs 47 (s.drop 1)).map pune
theorem tbad_no {s : BL} (h : ∀ i, i < s.length → tbad s i = false) : okP s := fun i hi => by
  have := h i (List.getElem?_eq_some_iff.1 hi).1
  unfold tbad at this
  rw [decide_eq_true hi, Bool.true_and] at this
  by_cases h2 : s[i + 1]? = some 48
  · exact .inl h2
  · simp [h2] at this; exact .inr this
theorem okP_tbad {s : BL} (h : okP s) (i : Nat) : tbad s i = false := by
  unfold tbad
  by_cases hi : s[i]? = some 126
  · rcases h i hi with h | h <;> simp [hi, h]
  · simp [hi]
theorem pE_none {s : BL} (h0 : ¬ s = []) (h1 : s[0]? = some 47) (h : ∀ i, i < s.length → tbad s i = false) : pE s = none := by
  unfold pE; rw [if_neg h0, if_neg (by simp [h1])]
  exact List.find?_eq_none.2 fun i hi => by simp [h i (List.mem_range.1 hi)]
theorem pE_at {s : BL} (h0 : ¬ s = []) (h1 : s[0]? = some 47) {i : Nat} (hi : i < s.length) (h : tbad s i = true) (hb : ∀ j, j < i → tbad s j = false) : pE s = some i := by
  unfold pE; rw [if_neg h0, if_neg (by simp [h1])]
  exact List.find?_range_eq_some.2 ⟨h, List.mem_range.2 hi, fun j hj => by simp [hb j hj]⟩
theorem pE_ok {s : BL} (h0 : ¬ s = []) (h : pE s = none) : s[0]? = some 47 ∧ okP s := by
  unfold pE at h; rw [if_neg h0] at h
  split at h
  · cases h
  · rename_i h1
    refine ⟨by simpa using h1, tbad_no fun i hi => ?_⟩
    have := List.find?_eq_none.1 h i (List.mem_range.2 hi)
    simpa using this
/-- What is shown is parsed. -/
theorem pN_shw (l : List BL) : pE (shw l) = none ∧ pN (shw l) = l := by
  cases l with
  | nil => exact ⟨rfl, rfl⟩
  | cons x r =>
    have hne : ¬ shw (x :: r) = [] := by rw [shw_cons]; simp
    have hE : pE (shw (x :: r)) = none := pE_none hne (by rw [shw_cons]; rfl) (fun i _ => okP_tbad (okP_shw _) i)
    refine ⟨hE, ?_⟩
    unfold pN; rw [if_neg hne, hE]
    rw [shw_cons]
    exact shw_back x r
/-- What is parsed is shown. -/
theorem shw_pN {s : BL} (h : pE s = none) : shw (pN s) = s := by
  by_cases h0 : s = []
  · subst h0; rfl
  · obtain ⟨h1, h2⟩ := pE_ok h0 h
    unfold pN; rw [if_neg h0, h]
    cases s with
    | nil => exact absurd rfl h0
    | cons b t =>
      simp at h1; subst h1
      exact shw_fwd t (okP_tl h2)
end Lg
namespace Lg
open Go
theorem get_is {s : BL} {i : Nat} {c : UInt8} (hi : i < s.length) : s[i]? = some c ↔ ((bat (ba s) i).toNat : Int) = c.toNat := by
  rw [bat_ba, List.getElem?_eq_getElem hi, List.getD_eq_getElem?_getD, List.getElem?_eq_getElem hi]
  simp only [Option.getD_some, Option.some.injEq]
  constructor
  · intro h; rw [h]
  · intro h; exact UInt8.toNat_inj.1 (by omega)
theorem g126 {s : BL} {i : Nat} (hi : i < s.length) : s[i]? = some 126 ↔ ((bat (ba s) i).toNat : Int) = 126 := get_is (c := 126) hi
theorem g48 {s : BL} {i : Nat} (hi : i < s.length) : s[i]? = some 48 ↔ ((bat (ba s) i).toNat : Int) = 48 := get_is (c := 48) hi
theorem g49 {s : BL} {i : Nat} (hi : i < s.length) : s[i]? = some 49 ↔ ((bat (ba s) i).toNat : Int) = 49 := get_is (c := 49) hi
theorem g47 {s : BL} {i : Nat} (hi : i < s.length) : s[i]? = some 47 ↔ ((bat (ba s) i).toNat : Int) = 47 := get_is (c := 47) hi
theorem tbad_t {s : BL} {i : Nat} (hi : i < s.length) (h : ((bat (ba s) i).toNat : Int) = 126) (h2 : i + 1 = s.length ∨ (¬ ((bat (ba s) (i + 1)).toNat : Int) = 48 ∧ ¬ ((bat (ba s) (i + 1)).toNat : Int) = 49)) : tbad s i = true := by
  unfold tbad
  rw [decide_eq_true ((g126 hi).2 h), Bool.true_and]
  by_cases hl : i + 1 < s.length
  · obtain ⟨h3, h4⟩ := h2.resolve_left (by omega)
    rw [decide_eq_false (fun e => h3 ((g48 hl).1 e)), decide_eq_false (fun e => h4 ((g49 hl).1 e))]; rfl
  · rw [List.getElem?_eq_none (by omega)]; rfl
theorem tbad_f {s : BL} {i : Nat} (hi : i < s.length) (h : ((bat (ba s) i).toNat : Int) = 126 → i + 1 < s.length ∧ (((bat (ba s) (i + 1)).toNat : Int) = 48 ∨ ((bat (ba s) (i + 1)).toNat : Int) = 49)) : tbad s i = false := by
  unfold tbad
  by_cases hc : ((bat (ba s) i).toNat : Int) = 126
  · obtain ⟨h1, h2⟩ := h hc
    rcases h2 with h2 | h2
    · rw [decide_eq_true ((g48 h1).2 h2)]; simp
    · rw [decide_eq_true (p := s[i + 1]? = some 49) ((g49 h1).2 h2)]; simp
  · rw [decide_eq_false (fun e => hc ((g126 hi).1 e))]; rfl
/-- The array's cells, i names turned. -/
def pcell (L : List BL) (i : Nat) : List AV := (((L.take i).map pune) ++ L.drop i).map fun x => AV.str (ba x)
theorem pcell_0 (L : List BL) : pcell L 0 = L.map fun x => AV.str (ba x) := by simp [pcell]
theorem pcell_len (L : List BL) (i : Nat) : (pcell L i).length = L.length := by simp [pcell]; omega
theorem pcell_end (L : List BL) : pcell L L.length = (srow (L.map pune)).flatten := by rw [srow_flat]; simp [pcell]
theorem pcell_get {L : List BL} {i : Nat} {x : BL} (h : L[i]? = some x) : (pcell L i)[i]? = some (.str (ba x)) := by
  have hi := (List.getElem?_eq_some_iff.1 h).1
  unfold pcell
  rw [List.getElem?_map, List.getElem?_append_right (by simp; omega)]
  simp [Nat.min_eq_left (Nat.le_of_lt hi), h]
theorem pcell_step {L : List BL} {i : Nat} {x : BL} (h : L[i]? = some x) : (pcell L i).set i (.str (ba (pune x))) = pcell L (i + 1) := by
  have hi := (List.getElem?_eq_some_iff.1 h).1
  unfold pcell
  rw [List.take_add_one, h]
  have hd : L.drop i = x :: L.drop (i + 1) := by
    rw [List.drop_eq_getElem_cons hi]
    have := (List.getElem?_eq_some_iff.1 h).2
    rw [this]
  rw [hd]
  simp only [Option.toList, List.map_append, List.map_cons, List.map_nil, List.append_assoc, List.cons_append, List.nil_append]
  rw [List.set_append_right _ _ (by simp; omega)]
  simp [Nat.min_eq_left (Nat.le_of_lt hi)]
@[simp] theorem pcell_lt (m : Nat) (L : List BL) (i : Nat) : AV.ltL m (pcell L i) := smap_lt m _
end Lg
namespace Lg
open Go Go.RowKit
variable [GLay] {P : Program} {N : Nat} {σ l : List AO} {e : Env} {Q : QA} {o : Oper}
theorem spl_set (v : AV) : ∀ (i : Nat) (cs : List AV), i < cs.length → spl i cs [v] = some (cs.set i v)
  | 0, [], h => by simp at h
  | 0, c :: cs, _ => by simp [spl, putAt]
  | i + 1, [], h => by simp at h
  | i + 1, c :: cs, h => by simp [spl, spl_set v i cs (by simpa using h)]
theorem ldv_el {j g sz off i : Nat} {cs : List AV} {v : AV} (hl : l[j]? = some (.arr sz g cs)) (hv : cs[i]? = some v) (ho : off = i) : ldv (σ ++ l) 1 (.pel (σ.length + j) g off) = some [v] := by
  subst ho
  simp only [ldv, get_own, hl, if_true]
  have hi := (List.getElem?_eq_some_iff.1 hv).1
  rw [List.drop_eq_getElem_cons hi, (List.getElem?_eq_some_iff.1 hv).2]
  rfl
theorem op_storeEl {T : TypeId} {x y : Operand} {j g sz off i : Nat} {cs : List AV} {b : ByteArray} (ho : o.op = .store T x y) (hz : ∀ w, (Go.sizeOf T).run P w = Result.ok 1 w) (hy : opO e y = some (.str b)) (hx : opO e x = some (.pel (σ.length + j) g off)) (hoff : off = i)
    (hl : l[j]? = some (.arr sz g cs)) (hi : i < cs.length) : AOp P (σ ++ l) e o .any (σ ++ l.set j (.arr sz g (cs.set i (.str b)))) := by
  subst hoff
  have e1 := opO_eq hy
  have := op_store (P := P) (σ := σ ++ l) (e := e) (p := σ.length + j) (O := .arr sz g (cs.set off (.str b))) ho hz (by rw [e1]; rfl) (by rw [e1]; rfl) (by
    rw [e1, opO_eq hx]
    show stv (σ ++ l) [.str b] (.pel (σ.length + j) g off) = _
    simp only [stv, get_own, hl, if_true, spl_set _ _ _ hi, Option.map_some]) (by decide)
  rwa [set_own] at this
end Lg
namespace Lg
open Go
theorem ra2_len (l : BL) (h : okP l) : (ra [126, 49] [47] l).length ≤ l.length := by
  refine okP_ind (M := fun l => (ra [126, 49] [47] l).length ≤ l.length) ?_ ?_ ?_ ?_ l.length l (Nat.le_refl _) h
  · rw [ra_nil (by simp)]; simp
  · intro r _ ih
    rw [ra_cons (b := 126) (by simp) (pf_no (d := 0) (by rintro ⟨_, r', e⟩; simp at e)), ra_cons (b := 48) (by simp) (pf_no (d := 0) (by rintro ⟨e, _⟩; simp at e))]
    simp only [List.length_cons]; omega
  · intro r _ ih
    rw [show (126 :: 49 :: r : BL) = [126, 49] ++ r from rfl, ra_pre (by simp)]
    simp only [List.length_append, List.length_cons, List.length_nil]; omega
  · intro b r hb _ ih
    rw [ra_cons (by simp) (pf_no (d := 0) (by rintro ⟨e, _⟩; exact hb e.symm))]
    simp only [List.length_cons]; omega
theorem pcs_len (c : UInt8) : ∀ l : BL, (pcs c l).length ≤ l.length + 1
  | [] => by simp [pcs]
  | b :: l => by
    have ih := pcs_len c l
    unfold pcs
    split
    · simp only [List.length_cons]; omega
    · split
      · simp
      · rename_i p r h; rw [h] at ih; simp only [List.length_cons] at ih ⊢; omega
end Lg
namespace Lg
open Go
theorem ext_tl (s : BL) : (ba s).extract (Int.toNat 1) ((ba s).size : Int).toNat = ba (s.drop 1) := ba_ext (by
  have e : (Int.toNat 1) = 1 := rfl
  rw [Int.toNat_natCast, ba_size, e]
  simp [ba]
  try exact List.take_of_length_le (by simp))
end Lg
namespace Lg
open Go
theorem pune_len (l : BL) (h : okP l) : (pune l).length ≤ l.length := by
  refine okP_ind (M := fun l => (pune l).length ≤ l.length) (Nat.le_refl _) ?_ ?_ ?_ l.length l (Nat.le_refl _) h
  · intro r _ ih; show (126 :: pune r).length ≤ _; simp only [List.length_cons]; omega
  · intro r _ ih; show (47 :: pune r).length ≤ _; simp only [List.length_cons]; omega
  · intro b r hb _ ih; rw [une_c hb]; simp only [List.length_cons]; omega
theorem pN_len {s : BL} (h : pE s = none) : (pN s).length ≤ s.length + 1 ∧ ∀ x ∈ pN s, x.length ≤ s.length := by
  by_cases h0 : s = []
  · subst h0; exact ⟨Nat.zero_le _, fun x hx => by simp [pN] at hx⟩
  · obtain ⟨h1, h2⟩ := pE_ok h0 h
    have ht : okP (s.drop 1) := by cases s with | nil => exact absurd rfl h0 | cons b r => exact okP_tl h2
    have hl := pcs_len 47 (s.drop 1)
    have hd : (s.drop 1).length ≤ s.length := by rw [List.length_drop]; omega
    unfold pN; rw [if_neg h0, h]
    refine ⟨by simp only [Option.isSome_none, Bool.false_eq_true, if_false, List.length_map]; omega, fun x hx => ?_⟩
    simp only [Option.isSome_none, Bool.false_eq_true, if_false, List.mem_map] at hx
    obtain ⟨p, hp, rfl⟩ := hx
    obtain ⟨a, b, c⟩ := pcs_ok _ (s.drop 1) (Nat.le_refl _) ht p hp
    have := pune_len p a
    omega
def ex6 : BL := [47, 97, 126, 49, 98, 47, 48]
def ex6n : List BL := [[97, 47, 98], [48]]
theorem ex6_s : shw ex6n = ex6 := by decide
theorem ex6_ok : pE ex6 = none ∧ pN ex6 = ex6n := by rw [← ex6_s]; exact pN_shw _
theorem exA_ok : pE [97] = some 0 ∧ pN [97] = [] := by decide
variable [GLay] {P : Program} {σ : List AO}
theorem ldv_elP {p g sz off i : Nat} {cs : List AV} {v : AV} (hl : σ[p]? = some (.arr sz g cs)) (hv : cs[i]? = some v) (ho : off = i) : ldv σ 1 (.pel p g off) = some [v] := by
  subst ho
  simp only [ldv, hl, if_true]
  have hi := (List.getElem?_eq_some_iff.1 hv).1
  rw [List.drop_eq_getElem_cons hi, (List.getElem?_eq_some_iff.1 hv).2]
  rfl
end Lg
set_option maxRecDepth 20000
set_option maxHeartbeats 4000000
namespace Lg
open Go Go.Proofs Go.RowKit
variable [GLay] 
theorem tbuild_c (v : JV) (next : Int) (σ : List AO) (hjb : jb v) (h0 : 0 ≤ next) (hb : next + jsize v ≤ 1000000000) : ACalls Try.prog 6 [.agg (vcells v), .int .i64 next] σ (Ret (.tup [.pp (tcells v next), .int .i64 (next + jsize v)]) σ) := by
 refine ACalls_body Try.func6 rfl Try.ntmps6 (res2 Try.results6) (Nat.le_of_ble_eq_true rfl) (fun hcl hal => ?_)
 rw [vcells_eq v]
 refine zw3 ?_
 refine zw4 ?_
 refine zu2 ?_
 refine zt rfl (zc rfl (vcells_eq v ▸ callO 1 (build_any (jsize v).toNat v next _ _ (by have := jsize_pos v; omega) hjb (get_own 1) h0 hb))) ?_
 refine zv1 ?_
 refine AWp_seq ?_
 refine AWp_drawL #[0, 0, 2, 6, 14, 1, 63] Try.mixed (by decide +kernel) (by decide +kernel) ?_
 refine zd4 ?_
 refine zp1 ?_
 refine zd2 ?_
 refine RP.nil rfl ?_
 refine zrt ?_
 exact ResQ_2 rfl rfl hcl (by simp [AV.lt, AV.ltL]) (Ret_of rfl)

theorem ids_any (n : Nat) : ∀ (v : JV) (id : Int) (σ : List AO), jsize v ≤ n → jsize v ≤ 100000 → 0 ≤ id → id + jsize v ≤ 1000000000 → ACalls Try.prog 8 [.pp (tcells v id)] σ (Ret (.sl false 1 (idrow id (jsize v).toNat)) σ) := by
 induction n with
 | zero => intro v id σ h; have := jsize_pos v; omega
 | succ n ih =>
 intro v id σ hn hs h0 h1
 have hvs := jsize_kids v
 have hl0 := lsize_nn (jkids v)
 have hkn := llen_le (jkids v)
 have htl := tL_len (jkids v) (id + 1)
 refine ACalls_body Try.func8 rfl Try.ntmps8 (res1 Try.results8) (Nat.le_of_ble_eq_true rfl) (fun hcl hal => ?_)
 rw [tcells_x v id]
 refine zw1 ?_
 refine zu4 ?_
 refine zt rfl (op_buildSliceArr (cs := [.int .i64 id]) rfl Try.underlying39 Try.sizeOf3 Try.zeroValue3 rfl (by decide) (by decide) rfl rfl rfl) ?_
 refine zv1 ?_
 refine AWp_seq ?_
 refine zw1 ?_
 refine AWp_block ?_
 -- loop 0 LIVE 0:param 2:assign 3:assign 4:assign
 refine AWp_heap (σ' := σ ++ [.arr 1 0 (idrow id (1 + (lsize ((jkids v).take 0)).toNat)).flatten]) (by simp [idrow, lsize]) ?_
 refine AWp_loop (ι := Nat) (fun i => i ≤ (jkids v).length) (fun i => ⟨[], [(0, .pp [.int .i64 id, .int .i64 v.kind, .bool v.b, .bool v.n.neg, .str v.n.digits, .int .i64 v.n.exp, .str v.s, .nils, .nils, .sl false 1 (krow v.m), .sl false 1 (tL (jkids v) (id + 1))]), (3, .arr (σ.length + 0) i 1 0 (1 + (lsize ((jkids v).take i)).toNat)), (4, .int .i64 (i : Int))]⟩) (fun i => σ ++ [.arr 1 i (idrow id (1 + (lsize ((jkids v).take i)).toNat)).flatten]) (fun i => (jkids v).length - i) (0) (Nat.zero_le _) ?_ rfl (fun i hi => ?_)
 ·exact ⟨rfl, rfl, rfl, rfl, trivial⟩
 refine AWp_seq ?_
 refine zw7 ?_
 refine AWp_cond rfl (fun h1 => ?_) (fun h1 => ?_)
 ·(try rw [h1]); replace h1 := zcl h1
  obtain ⟨x, hx⟩ : ∃ x, (jkids v)[i]? = some x := ⟨_, List.getElem?_eq_getElem (show i < (jkids v).length by omega)⟩
  have hxs := lsize_take (jkids v) i x hx
  have hx1 := jsize_pos x
  have hlt := lsize_take_le (jkids v) (i + 1)
  have hln := lsize_nn ((jkids v).take i)
  have hrow := tL_get (id + 1) hx
  refine AWp_skip ?_
  refine AWp_seq ?_
  refine AWp_block ?_
  refine AWp_regL ?_
  refine zg6 ?_
  refine zt rfl (op_indexAddr rfl Try.underlying43 Try.sizeOf31 rfl rfl (by omega) (hrow)) ?_
  refine zg1 ?_
  refine zt rfl (zc rfl (ih x _ _ (by omega) (by omega) (by omega) (by omega))) ?_
  refine zt rfl (op_appendArrT rfl 0 (sz := 1) (m := (jsize x).toNat) (len := 1 + (lsize ((jkids v).take i)).toNat) (cs := (idrow (id + 1 + lsize ((jkids v).take i)) (jsize x).toNat).flatten) rfl (.inr ⟨_, rfl⟩) Try.underlying39 Try.underlying39 Try.type3 rfl rfl rfl (by decide) rfl rfl (by rw [flatten_len (idrow_el _ _), idrow_len]) (by show some (_, (idrow _ _).length) = _; rw [idrow_len]) rfl (idones _ _) (by show (1 + (lsize ((jkids v).take i)).toNat + (jsize x).toNat) * 8 ≤ _; omega) (by omega) (by rw [flatten_len (idrow_el _ _), idrow_len])) ?_
  refine zv1 ?_
  refine AWp_regL ?_
  refine zv3 ?_
  have e : 1 + (lsize ((jkids v).take (i + 1))).toNat = 1 + (lsize ((jkids v).take i)).toNat + (jsize x).toNat := by omega
  refine ⟨i + 1, σ.length + 1, by omega, by omega, by simp, ⟨rfl, rfl, by rw [e]; rfl, rfl, trivial⟩, closed_own 1 hcl ?_, ?_, ?_⟩
  ·simp [ownLt, AO.cells, ltL_append]
  ·simp [ltE, AV.lt, AV.ltL]
  ·refine (take_own 1).trans ?_
   have e2 := congrArg List.flatten (idrow_app id (1 + (lsize ((jkids v).take i)).toNat) (jsize x).toNat)
   rw [List.flatten_append, show id + ((1 + (lsize ((jkids v).take i)).toNat : Nat) : Int) = id + 1 + lsize ((jkids v).take i) by omega] at e2
   rw [e, ← e2]; rfl
 ·(try rw [h1]); replace h1 := zcl h1
  refine AWp_exit ?_
  refine AWp_seq ?_
  have hie : i = (jkids v).length := by omega
  subst hie
  rw [List.take_length]
  refine AWp_freezeAO 3 0 (jkids v).length 1 _ (idrow id (1 + (lsize (jkids v)).toNat)) rfl rfl (idrow_el _ _) (idrow_len _ _) (by decide) ?_ (by decide)
  refine AWp_regL ?_
  refine zv2 ?_
  refine zrt ?_
  rw [show (jsize v).toNat = 1 + (lsize (jkids v)).toNat by omega]
  exact ResQ_1 rfl hcl (by simp [AV.lt]) (Ret_of rfl)
end Lg
set_option maxRecDepth 20000
set_option maxHeartbeats 4000000
namespace Lg
open Go Go.Proofs Go.RowKit
variable [GLay] 
theorem tval4 (n : Nat) (ih : ∀ (x : JV) (id : Int) (σ : List AO), jsize x ≤ n → jb x → jmay x → ACalls Try.prog 10 [.pp (tcells x id)] σ (Ret (.agg (vcells x)) σ)) (v : JV) (id : Int) (σ : List AO) (hn : jsize v ≤ n + 1) (hjb : jb v) (hm : jmay v) (hk : v.kind = 4) : ACalls Try.prog 10 [.pp (tcells v id)] σ (Ret (.agg (vcells v)) σ) := by
 have hvs := jsize_kids v
 have hkn := llen_le (jkids v)
 have htl := tL_len (jkids v) (id + 1)
 obtain ⟨hb1, hb2, hb3, hb4, hb5, hb6⟩ := (jb_eq v).1 hjb
 have hm0 : v.m = [] := may_nom hm (by omega)
 have hkl : jkids v = v.l := by simp [jkids, hm0]
 rw [hkl] at hvs hkn htl
 refine ACalls_bodyC Try.func10 rfl Try.ntmps10 (by rw [Try.results10]; exact (.ck Try.isAgg28 Try.sizeOf28 .nil)) (Nat.le_of_ble_eq_true rfl) (fun hcl hal => ?_)
 rw [tcells_x v id, hkl]
 refine zw1 ?_
 refine zw6 ?_
 refine AWp_seq ?_
 refine AWp_seq ?_
 refine AWp_ghostInO 1 6 8 2 rfl rfl rfl ?_
 refine AWp_regL ?_
 refine zv6 ?_
 refine AWp_block ?_
 -- loop 0 LIVE 0:param 2:alloc 3:alloc 13:load 14:call 15:move
 refine AWp_loop (ι := Nat) (fun i => i ≤ (v.l).length) (fun i => ⟨[], [(0, .pp [.int .i64 id, .int .i64 v.kind, .bool v.b, .bool v.n.neg, .str v.n.digits, .int .i64 v.n.exp, .str v.s, .nils, .nils, .sl false 1 (krow v.m), .sl false 1 (tL v.l (id + 1))]), (3, .ptr (σ.length + 1) 0), (13, .sl false 1 (tL v.l (id + 1))), (14, .int .i64 ((tL v.l (id + 1)).length : Int)), (15, .int .i64 (i : Int)), (2, .ptr (σ.length + 0) 0)]⟩) (fun i => σ ++ [.box [.int .i64 0, .bool false, .bool false, .str ⟨#[]⟩, .int .i64 0, .str ⟨#[]⟩, .nils, .nils], .box [.int .i64 v.kind, .bool v.b, .bool v.n.neg, .str v.n.digits, .int .i64 v.n.exp, .str v.s, .arr (σ.length + 2) i 8 0 i, .nils], .arr 8 i (lcells (v.l.take i)).flatten]) (fun i => (v.l).length - i) (0) (Nat.zero_le _) ?_ rfl (fun i hi => ?_)
 ·exact ⟨rfl, rfl, rfl, rfl, rfl, rfl, rfl, trivial⟩
 refine zw1 ?_
 refine AWp_seq ?_
 refine AWp_cond rfl (fun h1 => ?_) (fun h1 => ?_)
 ·(try rw [h1]); replace h1 := zcl h1
  obtain ⟨x, hx⟩ : ∃ x, v.l[i]? = some x := ⟨_, List.getElem?_eq_getElem (show i < v.l.length by omega)⟩
  have hxm := lsize_mem hx
  have hrow := tL_get (id + 1) hx
  refine AWp_skip ?_
  refine AWp_seq ?_
  refine AWp_block ?_
  refine zu1 ?_
  refine zt rfl (op_indexAddr rfl Try.underlying43 Try.sizeOf31 rfl rfl (by omega) (hrow)) ?_
  refine zv3 ?_
  refine zw3 ?_
  refine AWp_cond rfl (fun h2 => ?_) (fun h2 => ?_)
  ·(try rw [h2]); replace h2 := zcl h2
   refine AWp_drawL #[0, 1, 0, 4, 12, 31, 63, 127] Try.mixed (by decide +kernel) (by decide +kernel) ?_
   refine zd1 ?_
   refine zp1 ?_
   refine zd1 ?_
   refine yP rfl rfl (zc rfl (ih x _ _ (by omega) (lb_get hb5 hx) (may_get hm hx))) (trivial) ?_
   rw [vcells_eq x]
   refine yA rfl rfl (fun _ => op_buildSlice [[_, _, _, _, _, _, _, _]] rfl Try.underlying25 Try.sizeOf28 Try.zeroValue28 rfl (by decide) (by decide) rfl rfl rfl rfl rfl) ?_
   refine yE rfl rfl (op_appendArrT rfl 2 (sz := 8) (m := 1) (len := i) (cs := _) rfl (.inr ⟨_, rfl⟩) Try.underlying25 Try.underlying25 Try.type28 rfl rfl rfl (by decide) rfl rfl (by rw [lflat_len, List.length_take]; omega) rfl rfl rfl (by show (i + 1) * 112 ≤ _; omega) (by omega) rfl) (⟨.inl rfl, ⟨.inl rfl, trivial⟩⟩) (trivial) ?_
   refine zd1 ?_
   refine yEN rfl rfl rfl (op_storeO (r := [.int .i64 v.kind, .bool v.b, .bool v.n.neg, .str v.n.digits, .int .i64 v.n.exp, .str v.s, .arr (σ.length + 2) (i + 1) 8 0 (i + 1), .nils]) rfl Try.sizeOf25 rfl rfl rfl rfl rfl (by decide)) (⟨.inl rfl, ⟨.inl rfl, trivial⟩⟩) (⟨rfl, trivial⟩) ?_
   refine RP.nil rfl ?_
   refine AWp_regL ?_
   refine zv2 ?_
   refine ⟨i + 1, σ.length + 3, by omega, by omega, by simp, ⟨rfl, rfl, rfl, rfl, rfl, rfl, rfl, trivial⟩, closed_own 3 hcl ?_, ?_, ?_⟩
   ·simp [ownLt, AO.cells, AV.ltL, AV.lt, ltL_append, lflat_lt]
   ·simp [ltE, AV.lt, AV.ltL]
   ·refine (take_own 3).trans ?_
    rw [ltake_succ hx, lcells_snoc, vcells_eq x]; rfl
  ·(try rw [h2]); replace h2 := zcl h2
   exact absurd hk h2
 ·(try rw [h1]); replace h1 := zcl h1
  refine AWp_exit ?_
  refine AWp_seq ?_
  have hie : i = v.l.length := by omega
  subst hie
  rw [List.take_length]
  refine AWp_freezeInO 1 6 2 v.l.length 8 v.l.length rfl rfl rfl (lcells v.l) rfl (lrow_len _) (lcells_length _) (by decide) ?_
  refine AWp_boxLeO 1 (bs' := [.int .i64 v.kind, .bool v.b, .bool v.n.neg, .str v.n.digits, .int .i64 v.n.exp, .str v.s, .sl false 8 (lcells v.l), .sl false 9 (mcells [])]) rfl ⟨AVle.refl _, AVle.refl _, AVle.refl _, AVle.refl _, AVle.refl _, AVle.refl _, AVle.refl _, nilM, trivial⟩ ?_
  refine AWp_regL ?_
  refine zv2 ?_
  refine zrt ?_
  rw [vcells_eq v, hm0]
  exact RQ_ret (rkvs_cons (rkv_ck rfl rfl rfl) rfl) hcl (by simp [rks, AV.lt, AV.ltL, AV.ltLL]) ⟨rfl, rfl⟩
end Lg
set_option maxRecDepth 20000
set_option maxHeartbeats 4000000
namespace Lg
open Go Go.Proofs Go.RowKit
variable [GLay] 
theorem tval5 (n : Nat) (ih : ∀ (x : JV) (id : Int) (σ : List AO), jsize x ≤ n → jb x → jmay x → ACalls Try.prog 10 [.pp (tcells x id)] σ (Ret (.agg (vcells x)) σ)) (v : JV) (id : Int) (σ : List AO) (hn : jsize v ≤ n + 1) (hjb : jb v) (hm : jmay v) (hk : ¬ v.kind = 4) : ACalls Try.prog 10 [.pp (tcells v id)] σ (Ret (.agg (vcells v)) σ) := by
 have hvs := jsize_kids v
 have hkn := llen_le (jkids v)
 have htl := tL_len (jkids v) (id + 1)
 obtain ⟨hb1, hb2, hb3, hb4, hb5, hb6⟩ := (jb_eq v).1 hjb
 have hl0 : v.l = [] := may_nol hm hk
 have hkl : jkids v = v.m.map (·.2) := by simp [jkids, hl0]
 have hml : (v.m.map (·.2)).length = v.m.length := List.length_map _
 have hkr := krow_len v.m
 rw [hkl] at hvs hkn htl
 refine ACalls_bodyC Try.func10 rfl Try.ntmps10 (by rw [Try.results10]; exact (.ck Try.isAgg28 Try.sizeOf28 .nil)) (Nat.le_of_ble_eq_true rfl) (fun hcl hal => ?_)
 rw [tcells_x v id, hkl]
 refine zw1 ?_
 refine zw6 ?_
 refine AWp_seq ?_
 refine AWp_seq ?_
 refine AWp_ghostInO 1 7 9 2 rfl rfl rfl ?_
 refine AWp_regL ?_
 refine zv6 ?_
 refine AWp_block ?_
 -- loop 0 LIVE 0:param 2:alloc 3:alloc 13:load 14:call 15:move
 refine AWp_loop (ι := Nat) (fun i => i ≤ ((v.m.map (·.2))).length) (fun i => ⟨[], [(0, .pp [.int .i64 id, .int .i64 v.kind, .bool v.b, .bool v.n.neg, .str v.n.digits, .int .i64 v.n.exp, .str v.s, .nils, .nils, .sl false 1 (krow v.m), .sl false 1 (tL (v.m.map (·.2)) (id + 1))]), (3, .ptr (σ.length + 1) 0), (13, .sl false 1 (tL (v.m.map (·.2)) (id + 1))), (14, .int .i64 ((tL (v.m.map (·.2)) (id + 1)).length : Int)), (15, .int .i64 (i : Int)), (2, .ptr (σ.length + 0) 0)]⟩) (fun i => σ ++ [.box [.int .i64 0, .bool false, .bool false, .str ⟨#[]⟩, .int .i64 0, .str ⟨#[]⟩, .nils, .nils], .box [.int .i64 v.kind, .bool v.b, .bool v.n.neg, .str v.n.digits, .int .i64 v.n.exp, .str v.s, .nils, .arr (σ.length + 2) i 9 0 i], .arr 9 i (mcells (v.m.take i)).flatten]) (fun i => ((v.m.map (·.2))).length - i) (0) (Nat.zero_le _) ?_ rfl (fun i hi => ?_)
 ·exact ⟨rfl, rfl, rfl, rfl, rfl, rfl, rfl, trivial⟩
 refine zw1 ?_
 refine AWp_seq ?_
 refine AWp_cond rfl (fun h1 => ?_) (fun h1 => ?_)
 ·(try rw [h1]); replace h1 := zcl h1
  obtain ⟨q, hq⟩ : ∃ q, v.m[i]? = some q := ⟨_, List.getElem?_eq_getElem (show i < v.m.length by omega)⟩
  have hxm := msize_mem hq
  have hx2 : (v.m.map (·.2))[i]? = some q.2 := by rw [List.getElem?_map, hq]; rfl
  have hxm2 := lsize_mem hx2
  have hrow := tL_get (id + 1) hx2
  have hkrow := krow_get hq
  refine AWp_skip ?_
  refine AWp_seq ?_
  refine AWp_block ?_
  refine zu1 ?_
  refine zt rfl (op_indexAddr rfl Try.underlying43 Try.sizeOf31 rfl rfl (by omega) (hrow)) ?_
  refine zv3 ?_
  refine zw3 ?_
  refine AWp_cond rfl (fun h2 => ?_) (fun h2 => ?_)
  ·(try rw [h2]); replace h2 := zcl h2
   exact absurd h2 hk
  ·(try rw [h2]); replace h2 := zcl h2
   refine AWp_drawL #[0, 1, 0, 4, 12, 28, 0, 124, 252, 0, 512, 2044, 4092, 8191, 16383, 32767] Try.mixed (by decide +kernel) (by decide +kernel) ?_
   refine zd1 ?_
   refine zp1 ?_
   refine zd3 ?_
   refine zp1 ?_
   refine zd1 ?_
   refine yA rfl rfl (fun _ => op_indexAddr rfl Try.underlying42 Try.sizeOf9 rfl rfl (by omega) (hkrow)) ?_
   refine zp1 ?_
   refine zd1 ?_
   refine yP rfl rfl (zc rfl (ih q.2 _ _ (by omega) (mb_get hb6 hq).2 (may_mget hm hq))) (trivial) ?_
   rw [vcells_eq q.2]
   refine zd1 ?_
   refine yA rfl rfl (fun _ => op_buildSlice [[_, _, _, _, _, _, _, _, _]] rfl Try.underlying26 Try.sizeOf56 Try.zeroValue56 rfl (by decide) (by decide) rfl rfl rfl rfl rfl) ?_
   refine yE rfl rfl (op_appendArrT rfl 2 (sz := 9) (m := 1) (len := i) (cs := _) rfl (.inr ⟨_, rfl⟩) Try.underlying26 Try.underlying26 Try.type56 rfl rfl rfl (by decide) rfl rfl (by rw [mflat_len, List.length_take]; omega) rfl rfl rfl (by show (i + 1) * 128 ≤ _; omega) (by omega) rfl) (⟨.inl rfl, ⟨.inl rfl, ⟨.inl rfl, ⟨.inl rfl, trivial⟩⟩⟩⟩) (trivial) ?_
   refine zd1 ?_
   refine yEN rfl rfl rfl (op_storeO (r := [.int .i64 v.kind, .bool v.b, .bool v.n.neg, .str v.n.digits, .int .i64 v.n.exp, .str v.s, .nils, .arr (σ.length + 2) (i + 1) 9 0 (i + 1)]) rfl Try.sizeOf26 rfl rfl rfl rfl rfl (by decide)) (⟨.inl rfl, ⟨.inl rfl, ⟨.inl rfl, ⟨.inl rfl, trivial⟩⟩⟩⟩) (⟨rfl, trivial⟩) ?_
   refine RP.nil rfl ?_
   refine AWp_regL ?_
   refine zv2 ?_
   refine ⟨i + 1, σ.length + 3, by omega, by omega, by simp, ⟨rfl, rfl, rfl, rfl, rfl, rfl, rfl, trivial⟩, closed_own 3 hcl ?_, ?_, ?_⟩
   ·simp [ownLt, AO.cells, AV.ltL, AV.lt, ltL_append, mflat_lt]
   ·simp [ltE, AV.lt, AV.ltL]
   ·refine (take_own 3).trans ?_
    rw [ltake_succ hq, mcells_snoc, mrow, vcells_eq q.2]; rfl
 ·(try rw [h1]); replace h1 := zcl h1
  refine AWp_exit ?_
  refine AWp_seq ?_
  have hie : i = v.m.length := by omega
  subst hie
  rw [List.take_length]
  refine AWp_freezeInO 1 7 2 v.m.length 9 v.m.length rfl rfl rfl (mcells v.m) rfl (mrows_len _) (mcells_length _) (by decide) ?_
  refine AWp_boxLeO 1 (bs' := [.int .i64 v.kind, .bool v.b, .bool v.n.neg, .str v.n.digits, .int .i64 v.n.exp, .str v.s, .sl false 8 (lcells []), .sl false 9 (mcells v.m)]) rfl ⟨AVle.refl _, AVle.refl _, AVle.refl _, AVle.refl _, AVle.refl _, AVle.refl _, nilL, AVle.refl _, trivial⟩ ?_
  refine AWp_regL ?_
  refine zv2 ?_
  refine zrt ?_
  rw [vcells_eq v, hl0]
  exact RQ_ret (rkvs_cons (rkv_ck rfl rfl rfl) rfl) hcl (by simp [rks, AV.lt, AV.ltL, AV.ltLL]) ⟨rfl, rfl⟩
end Lg
set_option maxRecDepth 20000
set_option maxHeartbeats 4000000
namespace Lg
open Go Go.Proofs Go.RowKit
variable [GLay] 
end Lg
set_option maxRecDepth 20000
set_option maxHeartbeats 4000000
namespace Lg
open Go Go.Proofs Go.RowKit
variable [GLay] 
theorem rsame_any (n : Nat) : ∀ (x y : JV) (σ : List AO), jsize x ≤ n → jb x → jb y → ACalls Try.prog 9 [.agg (vcells x), .agg (vcells y)] σ (Ret (.bool (pb (x = y))) σ) := by
 induction n with
 | zero => intro x y σ h; have := jsize_pos x; omega
 | succ n ih =>
 intro x y σ hn hjx hjy
 have hvs := jsize_eq x
 have hl := lsize_nn x.l
 have hm := msize_nn x.m
 obtain ⟨hb1, hb2, hb3, hb4, hb5, hb6⟩ := (jb_eq x).1 hjx
 obtain ⟨hc1, hc2, hc3, hc4, hc5, hc6⟩ := (jb_eq y).1 hjy
 have hxl := lcells_length x.l
 have hyl := lcells_length y.l
 have hxm := mcells_length x.m
 have hym := mcells_length y.m
 refine ACalls_body Try.func9 rfl Try.ntmps9 (res1 Try.results9) (Nat.le_of_ble_eq_true rfl) (fun hcl hal => ?_)
 rw [vcells_eq x, vcells_eq y]
 refine zw3 ?_
 refine AWp_seq ?_
 refine zu6 ?_
 refine zsp 14 rfl (fun h1 => ?_) fun h1 => ?_
 ·rw [h1]; replace h1 := zcl h1
  refine zg30 ?_
  refine zg8 ?_
  refine zon ?_
  refine AWp_condT rfl ?_
  refine zw1 ?_
  refine zrt ?_
  refine ResQ_1 rfl hcl trivial (Ret_of (bool_f ?_))
  rw [jv_ext]; intro hj; obtain ⟨j1, j2, ⟨j3, j4, j5⟩, j6, j7, j8⟩ := hj
  simp_all
 ·rw [h1]; replace h1 := zcl h1
  refine zg7 ?_
  refine zsp 21 rfl (fun h2 => ?_) fun h2 => ?_
  ·rw [h2]; replace h2 := zcl h2
   refine zg30 ?_
   refine zg1 ?_
   refine zon ?_
   refine AWp_condT rfl ?_
   refine zw1 ?_
   refine zrt ?_
   refine ResQ_1 rfl hcl trivial (Ret_of (bool_f ?_))
   rw [jv_ext]; intro hj; obtain ⟨j1, j2, ⟨j3, j4, j5⟩, j6, j7, j8⟩ := hj
   simp_all
  ·rw [h2]; replace h2 := zcl h2
   refine zg4 ?_
   refine ztG rfl rfl (op_neS rfl Try.underlying24 (by kernel_rfl) (by kernel_rfl) (.bool _ _ _ _ _ _ _ _ (by decide) rfl Try.underlying4 (.str _ _ _ _ _ _ _ _ (by decide) rfl Try.underlying9 (.int _ _ _ _ _ _ _ _ _ _ (by decide) rfl Try.underlying3 (.nil _)))) rfl rfl) ?_
   refine zg2 ?_
   refine zsp 28 rfl (fun h3 => ?_) fun h3 => ?_
   ·rw [h3]; replace h3 := zcl h3
    refine zg20 ?_
    refine zg4 ?_
    refine zon ?_
    refine AWp_condT rfl ?_
    refine zw1 ?_
    refine zrt ?_
    refine ResQ_1 rfl hcl trivial (Ret_of (bool_f ?_))
    rw [jv_ext]; intro hj; obtain ⟨j1, j2, ⟨j3, j4, j5⟩, j6, j7, j8⟩ := hj
    simp_all
   ·rw [h3]; replace h3 := zcl h3
    refine zg7 ?_
    refine zsp 35 rfl (fun h4 => ?_) fun h4 => ?_
    ·rw [h4]; replace h4 := zcl h4
     refine zg10 ?_
     refine zg7 ?_
     refine zon ?_
     refine AWp_condT rfl ?_
     refine zw1 ?_
     refine zrt ?_
     refine ResQ_1 rfl hcl trivial (Ret_of (bool_f ?_))
     rw [jv_ext]; intro hj; obtain ⟨j1, j2, ⟨j3, j4, j5⟩, j6, j7, j8⟩ := hj
     simp_all
    ·rw [h4]; replace h4 := zcl h4
     refine zg9 ?_
     refine zsp 44 rfl (fun h5 => ?_) fun h5 => ?_
     ·rw [h5]; replace h5 := zcl h5
      refine zv8 ?_
      refine AWp_condT rfl ?_
      refine zw1 ?_
      refine zrt ?_
      refine ResQ_1 rfl hcl trivial (Ret_of (bool_f ?_))
      rw [jv_ext]; intro hj; obtain ⟨j1, j2, ⟨j3, j4, j5⟩, j6, j7, j8⟩ := hj
      simp_all
     ·rw [h5]; replace h5 := zcl h5
      refine zv8 ?_
      refine AWp_cond rfl (fun h6 => ?_) (fun h6 => ?_)
      ·(try rw [h6]); replace h6 := zcl h6
       refine zw1 ?_
       refine zrt ?_
       refine ResQ_1 rfl hcl trivial (Ret_of (bool_f ?_))
       rw [jv_ext]; intro hj; obtain ⟨j1, j2, ⟨j3, j4, j5⟩, j6, j7, j8⟩ := hj
       simp_all
      ·(try rw [h6]); replace h6 := zcl h6
       have hlen1 : x.l.length = y.l.length := by omega
       have hlen2 : x.m.length = y.m.length := by omega
       refine AWp_skip ?_
       refine AWp_seq ?_
       refine zw1 ?_
       refine AWp_block ?_
       -- loop 0 LIVE 2:box 3:box 4:assign 5:assign
       refine AWp_loop (ι := Nat) (fun i => i ≤ x.l.length ∧ ∀ j : Nat, j < i → x.l[j]? = y.l[j]?) (fun i => ⟨[], [(2, .ptr (σ.length + 0) 0), (3, .ptr (σ.length + 1) 0), (5, .int .i64 (i : Int))]⟩) (fun i => σ ++ [_, _]) (fun i => x.l.length - i) (0) (⟨Nat.zero_le _, fun j hj => absurd hj (by omega)⟩) ?_ rfl (fun i hi => ?_)
       ·exact ⟨rfl, rfl, rfl, rfl, trivial⟩
       obtain ⟨hi1, hi2⟩ := hi
       refine AWp_seq ?_
       refine zw5 ?_
       refine AWp_cond rfl (fun h7 => ?_) (fun h7 => ?_)
       ·(try rw [h7]); replace h7 := zcl h7
        obtain ⟨u, hu⟩ : ∃ u, x.l[i]? = some u := ⟨_, List.getElem?_eq_getElem (show i < x.l.length by omega)⟩
        obtain ⟨w, hw⟩ : ∃ w, y.l[i]? = some w := ⟨_, List.getElem?_eq_getElem (show i < y.l.length by omega)⟩
        have hlm := lsize_mem hu
        refine AWp_skip ?_
        refine AWp_seq ?_
        refine AWp_block ?_
        refine AWp_seq ?_
        refine AWp_drawL #[0, 1, 0, 7, 15, 0, 32, 0, 224, 480, 1023, 2047] Try.mixed (by decide +kernel) (by decide +kernel) ?_
        refine zd1 ?_
        refine zp1 ?_
        refine zd1 ?_
        refine yA rfl rfl (fun _ => op_indexAddr rfl Try.underlying25 Try.sizeOf28 rfl rfl (by omega) (lcells_get hu)) ?_
        rw [vcells_eq u]
        refine zp1 ?_
        refine zd1 ?_
        refine zp1 ?_
        refine zd1 ?_
        refine yA rfl rfl (fun _ => op_indexAddr rfl Try.underlying25 Try.sizeOf28 rfl rfl (by omega) (lcells_get hw)) ?_
        rw [vcells_eq w]
        refine zp1 ?_
        refine yP rfl rfl (zc rfl (AC2 (vcells_eq u) (vcells_eq w) (ih u w _ (by omega) (lb_get hb5 hu) (lb_get hc5 hw)))) (trivial) ?_
        refine zd1 ?_
        refine RP.nil rfl ?_
        refine zw2 ?_
        refine AWp_cond rfl (fun h8 => ?_) (fun h8 => ?_)
        ·(try rw [h8]); replace h8 := zcl h8
         refine zw1 ?_
         refine zrt ?_
         refine ResQ_1 rfl hcl trivial (Ret_of (bool_f fun e => ?_))
         rw [e] at hu; rw [hu] at hw; cases hw; rw [pb_t rfl] at h8; cases h8
        ·(try rw [h8]); replace h8 := zcl h8
         refine AWp_skip ?_
         refine AWp_regL ?_
         refine zv3 ?_
         have huw := (pb_iff _).1 h8
         refine ⟨i + 1, σ.length + 2, ⟨by omega, fun j hj => ?_⟩, by omega, by simp, ⟨rfl, rfl, rfl, rfl, trivial⟩, closed_own 2 hcl ?_, ?_, take_own 2⟩
         ·by_cases e : j = i
          ·subst e; rw [hu, hw, huw]
          ·exact hi2 j (by omega)
         ·simp [ownLt, AO.cells, AV.ltL, AV.lt]
         ·simp [ltE, AV.lt]
       ·(try rw [h7]); replace h7 := zcl h7
        have hL : x.l = y.l := list_eq_of hlen1 fun j hj => hi2 j (by omega)
        clear hi2 hi1 h7
        refine AWp_exit ?_
        refine AWp_seq ?_
        refine zw1 ?_
        refine AWp_block ?_
        -- loop 1 LIVE 2:box 3:box 4:assign 7:assign
        refine AWp_loop (ι := Nat) (fun i => i ≤ x.m.length ∧ ∀ j : Nat, j < i → x.m[j]? = y.m[j]?) (fun i => ⟨[], [(2, .ptr (σ.length + 0) 0), (3, .ptr (σ.length + 1) 0), (7, .int .i64 (i : Int))]⟩) (fun i => σ ++ [_, _]) (fun i => x.m.length - i) (0) (⟨Nat.zero_le _, fun j hj => absurd hj (by omega)⟩) ?_ rfl (fun i hi => ?_)
        ·exact ⟨rfl, rfl, rfl, rfl, trivial⟩
        obtain ⟨hi3, hi4⟩ := hi
        refine AWp_seq ?_
        refine zw5 ?_
        refine AWp_cond rfl (fun h9 => ?_) (fun h9 => ?_)
        ·(try rw [h9]); replace h9 := zcl h9
         obtain ⟨u, hu⟩ : ∃ u, x.m[i]? = some u := ⟨_, List.getElem?_eq_getElem (show i < x.m.length by omega)⟩
         obtain ⟨w, hw⟩ : ∃ w, y.m[i]? = some w := ⟨_, List.getElem?_eq_getElem (show i < y.m.length by omega)⟩
         have hms := msize_mem hu
         refine AWp_skip ?_
         refine AWp_seq ?_
         refine AWp_block ?_
         refine AWp_seq ?_
         refine AWp_drawL #[0, 1, 0, 7, 15, 31, 0, 64, 0, 448, 960, 1984, 4095, 8191] Try.mixed (by decide +kernel) (by decide +kernel) ?_
         refine zd1 ?_
         refine zp1 ?_
         refine zd1 ?_
         refine yA rfl rfl (fun _ => op_indexAddr rfl Try.underlying26 Try.sizeOf56 rfl rfl (by omega) (mcells_get hu)) ?_
         refine zd1 ?_
         rw [vcells_eq u.2]
         refine zp1 ?_
         refine zd1 ?_
         refine zp1 ?_
         refine zd1 ?_
         refine yA rfl rfl (fun _ => op_indexAddr rfl Try.underlying26 Try.sizeOf56 rfl rfl (by omega) (mcells_get hw)) ?_
         refine zd1 ?_
         rw [vcells_eq w.2]
         refine zp1 ?_
         refine yP rfl rfl (zc rfl (AC2 (vcells_eq u.2) (vcells_eq w.2) (ih u.2 w.2 _ (by omega) (mb_get hb6 hu).2 (mb_get hc6 hw).2))) (trivial) ?_
         refine zd1 ?_
         refine RP.nil rfl ?_
         refine AWp_seq ?_
         refine AWp_drawL #[0, 1, 3, 7, 15, 7, 63, 127, 255, 7, 519, 7, 3591, 7687, 15879, 32767, 65535] Try.mixed (by decide +kernel) (by decide +kernel) ?_
         refine zd3 ?_
         refine zspr 95 rfl (fun h10 => ?_) fun h10 => ?_
         ·rw [h10]; replace h10 := zcl h10
          refine zd10 ?_
          refine zd4 ?_
          refine RP.nil rfl ?_
          refine AWp_condT rfl ?_
          refine zw1 ?_
          refine zrt ?_
          refine ResQ_1 rfl hcl trivial (Ret_of (bool_f fun e => ?_))
          rw [e] at hu; rw [hu] at hw; cases hw; rw [pb_t rfl] at h10; cases h10
         ·rw [h10]; replace h10 := zcl h10
          refine zd1 ?_
          refine zp1 ?_
          refine zd1 ?_
          refine yAG rfl rfl rfl (fun _ => op_indexAddr rfl Try.underlying26 Try.sizeOf56 rfl rfl (by omega) (mcells_get hu)) ?_
          refine zd1 ?_
          refine zp1 ?_
          refine zd1 ?_
          refine zp1 ?_
          refine zd1 ?_
          refine yAG rfl rfl rfl (fun _ => op_indexAddr rfl Try.underlying26 Try.sizeOf56 rfl rfl (by omega) (mcells_get hw)) ?_
          refine zd1 ?_
          refine zp1 ?_
          refine zd2 ?_
          refine RP.nil rfl ?_
          refine AWp_cond rfl (fun h11 => ?_) (fun h11 => ?_)
          ·(try rw [h11]); replace h11 := zcl h11
           refine zw1 ?_
           refine zrt ?_
           refine ResQ_1 rfl hcl trivial (Ret_of (bool_f fun e => ?_))
           rw [e] at hu; rw [hu] at hw; cases hw; exact h11 rfl
          ·(try rw [h11]); replace h11 := zcl h11
           refine AWp_skip ?_
           refine AWp_regL ?_
           refine zv3 ?_
           have huw := (pb_iff _).1 h10
           refine ⟨i + 1, σ.length + 2, ⟨by omega, fun j hj => ?_⟩, by omega, by simp, ⟨rfl, rfl, rfl, rfl, trivial⟩, closed_own 2 hcl ?_, ?_, take_own 2⟩
           ·by_cases e : j = i
            ·subst e; rw [hu, hw, Prod.ext h11 huw]
            ·exact hi4 j (by omega)
           ·simp [ownLt, AO.cells, AV.ltL, AV.lt]
           ·simp [ltE, AV.lt]
        ·(try rw [h9]); replace h9 := zcl h9
         have hM : x.m = y.m := list_eq_of hlen2 fun j hj => hi4 j (by omega)
         refine AWp_exit ?_
         refine zw1 ?_
         refine zrt ?_
         refine ResQ_1 rfl hcl trivial (Ret_of (bool_t ((jv_ext x y).2 ?_)))
         simp_all
end Lg
namespace Lg
open Go
/-! ### Two objects of the caller's that are written -/
section
variable {σ : List AO} {p q : Nat} {x y : AO}
theorem s2_p (h : p ≠ q) (hp : p < σ.length) : ((σ.set p x).set q y)[p]? = some x := by
  rw [List.getElem?_set, if_neg (Ne.symm h), List.getElem?_set, if_pos rfl, if_pos hp]
theorem s2_q (hq : q < σ.length) : ((σ.set p x).set q y)[q]? = some y := by
  rw [List.getElem?_set, if_pos rfl, if_pos (by simpa using hq)]
theorem s2_same (hp : σ[p]? = some x) (hq : σ[q]? = some y) : (σ.set p x).set q y = σ := by
  apply List.ext_getElem?
  intro k
  by_cases h1 : q = k
  · subst h1; rw [s2_q (List.getElem?_eq_some_iff.1 hq).1, hq]
  · rw [List.getElem?_set, if_neg h1]
    by_cases h2 : p = k
    · subst h2; rw [List.getElem?_set, if_pos rfl, if_pos (List.getElem?_eq_some_iff.1 hp).1, hp]
    · rw [List.getElem?_set, if_neg h2]
theorem s2_chain {a b c d e : AO} (h : p ≠ q) : ((((σ.set p a).set q b).set p c).set q d).set p e = (σ.set p e).set q d := by
  apply List.ext_getElem?
  intro k
  simp only [List.getElem?_set, List.length_set]
  by_cases h1 : p = k
  · subst h1; simp [Ne.symm h]
  · by_cases h2 : q = k
    · subst h2; simp [h]
    · simp [h1, h2]
theorem s2_set {x' y' : AO} (h : p ≠ q) : (((σ.set p x).set q y).set p x').set q y' = (σ.set p x').set q y' := by
  apply List.ext_getElem?
  intro k
  simp only [List.getElem?_set, List.length_set]
  by_cases h1 : p = k
  · subst h1; simp [Ne.symm h]
  · by_cases h2 : q = k
    · subst h2; simp [h]
    · simp [h1, h2]
end
section
variable [GLay]
variable {σ : List AO} {p q : Nat} {x y : AO}
theorem s2_closed (hc : closed σ.length σ) (hx : AV.ltL σ.length x.cells) (hy : AV.ltL σ.length y.cells) : closed σ.length ((σ.set p x).set q y) := closed_set (closed_set hc hx) hy
theorem callS2 {P : Program} {f : FuncId} {args : List AV} {v : AV} {l : List AO} (hp : p < σ.length) (hq : q < σ.length) (h : ACalls P f args (σ ++ l) (Ret v (((σ ++ l).set p x).set q y))) : ACalls P f args (σ ++ l) (Ret v ((σ.set p x).set q y ++ l)) := by
  rwa [set2_app hp hq] at h
end
theorem seenM_map (m : List (ByteArray × JV)) : ∀ id : Int, seenM m id = seenL (m.map (·.2)) id := by
  induction m with
  | nil => intro id; rfl
  | cons q r ih => intro id; obtain ⟨k, x⟩ := q; simp only [seenM, List.map_cons, seenL, ih]
theorem seenLM (m : List (ByteArray × JV)) : ∀ (l : List JV) (id : Int), seenL l id ++ seenM m (id + lsize l) = seenL (l ++ m.map (·.2)) id
  | [], id => by simp only [seenL, lsize, List.nil_append, Int.add_zero]; exact seenM_map m id
  | y :: r, id => by
    simp only [List.cons_append, seenL, List.append_assoc]
    rw [← seenLM m r (id + jsize y), lsize, show id + (jsize y + lsize r) = id + jsize y + lsize r by omega]
theorem seenV_k (v : JV) (id : Int) : seenV v id = seenL (jkids v) (id + 1) ++ [(id, .agg (vcells v))] := by rw [seenV_eq, seenLM]; rfl
theorem seenL_take {K : List JV} {i : Nat} {x : JV} (h : K[i]? = some x) (id : Int) : seenL (K.take (i + 1)) id = seenL (K.take i) id ++ seenV x (id + lsize (K.take i)) := by
  rw [List.take_add_one, h]; exact seenL_snoc x _ id
section
variable [GLay]
/-- What Look asks of what was seen, of the trees, and of the heap. -/
structure SP (v : JV) (id deep frm nw lst : Int) (M : List (Int × AV)) (p q : Nat) (σ : List AO) : Prop where
  hp : σ[p]? = some (.box [.mapv q, .int .i64 frm, .int .i64 nw, .int .i64 lst])
  hq : σ[q]? = some (.map (imap M))
  key : ∀ a ∈ M, a.1 < id
  ml : ∀ k, ∀ a ∈ M, a.2.lt k
  len : (M.length : Int) + jsize v ≤ 20000
  d0 : 0 ≤ deep
  dd : deep + jdepth v ≤ 40
  i0 : 0 ≤ id
  ib : id + jsize v ≤ 1000000000
  f : frm ≤ id
  n0 : 0 ≤ nw
  nb : nw + jsize v ≤ 1000000
def spost (σ : List AO) (p q : Nat) (v : JV) (id frm nw lst : Int) (M : List (Int × AV)) : List AO :=
  (σ.set p (.box [.mapv q, .int .i64 frm, .int .i64 (nw + jsize v), .int .i64 (max lst (id + jsize v - 1))])).set q (.map (imap (M ++ seenV v id)))
theorem SP.ne {v : JV} {id deep frm nw lst : Int} {M : List (Int × AV)} {p q : Nat} {σ : List AO} (h : SP v id deep frm nw lst M p q σ) : p ≠ q := fun e => by
  have h1 := h.hp; have h2 := h.hq
  rw [e, h2] at h1; cases h1
theorem SP.kid {v : JV} {id deep frm nw lst ls : Int} {M : List (Int × AV)} {p q : Nat} {σ τ l : List AO} (h : SP v id deep frm nw lst M p q σ) {K : List JV} (hK : jkids v = K) {i : Nat} {x : JV} (hx : K[i]? = some x) (hd : jdepth x + 1 ≤ jdepth v)
    (hp : τ[p]? = some (.box [.mapv q, .int .i64 frm, .int .i64 (nw + lsize (K.take i)), .int .i64 ls])) (hq : τ[q]? = some (.map (imap (M ++ seenL (K.take i) (id + 1))))) :
    SP x (id + 1 + lsize (K.take i)) (deep + 1) frm (nw + lsize (K.take i)) ls (M ++ seenL (K.take i) (id + 1)) p q (τ ++ l) := by
  have h1 := jsize_kids v
  rw [hK] at h1
  have h2 := lsize_take_le K (i + 1)
  have h3 := lsize_take K i x hx
  have h4 := lsize_nn (K.take i)
  have h5 := seenL_len (K.take i) (id + 1)
  have := h.len; have := h.d0; have := h.dd; have := h.i0; have := h.ib; have := h.f; have := h.n0; have := h.nb
  refine ⟨get_old hp, get_old hq, fun a ha => ?_, fun k a ha => ?_, by rw [List.length_append]; omega, by omega, by omega, by omega, by omega, by omega, by omega, by omega⟩
  · rcases List.mem_append.1 ha with ha | ha
    · have := h.key a ha; omega
    · have := seenL_key _ _ a ha; omega
  · rcases List.mem_append.1 ha with ha | ha
    · exact h.ml k a ha
    · exact seenL_lt k _ _ a ha
theorem SP.none {v : JV} {id deep frm nw lst : Int} {M : List (Int × AV)} {p q : Nat} {σ : List AO} (h : SP v id deep frm nw lst M p q σ) (K : List JV) : iget (M ++ seenL K (id + 1)) id = none :=
  iget_none fun a ha e => by
    rcases List.mem_append.1 ha with ha | ha
    · have := h.key a ha; omega
    · have := seenL_key _ _ a ha; omega
theorem SP.below {v : JV} {id deep frm nw lst : Int} {M : List (Int × AV)} {p q : Nat} {σ : List AO} (h : SP v id deep frm nw lst M p q σ) (K : List JV) : ∀ a ∈ M ++ seenL K (id + 1), a.1 < id + 1 + lsize K := fun a ha => by
  have := lsize_nn K
  rcases List.mem_append.1 ha with ha | ha
  · have := h.key a ha; omega
  · have := seenL_key _ _ a ha; omega
theorem SP.lt {v : JV} {id deep frm nw lst : Int} {M : List (Int × AV)} {p q : Nat} {σ : List AO} (h : SP v id deep frm nw lst M p q σ) (k : Nat) (K : List JV) : AV.ltL k (mflat (imap (M ++ seenL K (id + 1)))) :=
  imap_lt k _ fun a ha => by
    rcases List.mem_append.1 ha with ha | ha
    · exact h.ml k a ha
    · exact seenL_lt k _ _ a ha
end
end Lg
set_option maxRecDepth 20000
set_option maxHeartbeats 4000000
namespace Lg
open Go Go.Proofs Go.RowKit
variable [GLay] 
theorem tval_any (n : Nat) : ∀ (v : JV) (id : Int) (σ : List AO), jsize v ≤ n → jb v → jmay v → ACalls Try.prog 10 [.pp (tcells v id)] σ (Ret (.agg (vcells v)) σ) := by
  induction n with
  | zero => intro v id σ h; have := jsize_pos v; omega
  | succ n ih =>
    intro v id σ hn hjb hm
    by_cases hk : v.kind = 4
    · exact tval4 n ih v id σ hn hjb hm hk
    · exact tval5 n ih v id σ hn hjb hm hk
theorem lsame_c (v : JV) (cs : List AV) (σ : List AO) (hc : vcells v = cs) (hjb : jb v) (hs : jsize v ≤ 100000) : ACalls Try.prog 9 [.agg [.int .i64 0, .bool false, .bool false, .str ⟨#[]⟩, .int .i64 0, .str ⟨#[]⟩, .nils, .nils], .agg cs] σ (Ret (.bool (pb (vz = v))) σ) := by
  subst hc
  exact ACalls.conv (args' := [.agg (vcells vz), .agg (vcells v)]) ⟨AVle.agg (vle8 nilL nilM), AVle.refl _, trivial⟩ (rsame_any 100000 vz v σ (by show jsize vz ≤ _; rw [vz, jsize_nil]; decide) (jb_nil _ _ _ _ (Nat.zero_le _) (Nat.zero_le _)) hjb)
theorem look4 (n : Nat) (ih : ∀ (x : JV) (id deep frm nw lst : Int) (M : List (Int × AV)) (p q : Nat) (τ : List AO), jsize x ≤ n → jb x → jmay x → SP x id deep frm nw lst M p q τ → ACalls Try.prog 7 [.ptr p 0, .pp (tcells x id), .int .i64 deep] τ (Ret (.int .i64 1) (spost τ p q x id frm nw lst M))) (v : JV) (id deep frm nw lst : Int) (M : List (Int × AV)) (p q : Nat) (σ : List AO) (hn : jsize v ≤ n + 1) (hjb : jb v) (hm : jmay v) (hP : SP v id deep frm nw lst M p q σ) (hk : v.kind = 4) : ACalls Try.prog 7 [.ptr p 0, .pp (tcells v id), .int .i64 deep] σ (Ret (.int .i64 1) (spost σ p q v id frm nw lst M)) := by
 have hvs := jsize_kids v
 have hkn := llen_le (jkids v)
 obtain ⟨hb1, hb2, hb3, hb4, hb5, hb6⟩ := (jb_eq v).1 hjb
 have hkr := krow_len v.m
 have hpq := hP.ne
 have hpl : p < σ.length := (List.getElem?_eq_some_iff.1 hP.hp).1
 have hql : q < σ.length := (List.getElem?_eq_some_iff.1 hP.hq).1
 have hPd := hP.dd
 have hPd0 := hP.d0
 have hPl := hP.len
 have hPi := hP.i0
 have hPb := hP.ib
 have hPf := hP.f
 have hPn := hP.n0
 have hPnb := hP.nb
 have hjn := jdepth_nn v
 have hps := hP.hp
 have hqs := hP.hq
 have him : (imap M).length = M.length := List.length_map _
 have hm0 : v.m = [] := may_nom hm (by omega)
 have hkl : jkids v = v.l := by simp [jkids, hm0]
 have hmz : v.m.length = 0 := by rw [hm0]; rfl
 rw [hkl] at hvs hkn
 have htl := tL_len v.l (id + 1)
 have hlnn := lsize_nn v.l
 refine ACalls_body Try.func7 rfl Try.ntmps7 (res1 Try.results7) (Nat.le_of_ble_eq_true rfl) (fun hcl hal => ?_)
 rw [tcells_x v id, hkl]
 refine zw1 ?_
 refine AWp_seq ?_
 refine zu4 ?_
 refine ztG rfl rfl (op_gtrF rfl rfl rfl (by omega)) ?_
 refine zg6 ?_
 refine ztG rfl rfl (op_lenMap rfl rfl Try.underlying35 rfl hqs) ?_
 refine ztG rfl rfl (op_gtrF rfl rfl rfl (by omega)) ?_
 refine zv1 ?_
 refine AWp_condF rfl ?_
 refine AWp_skip ?_
 refine AWp_seq ?_
 refine AWp_seq ?_
 refine AWp_drawL #[0, 1, 3, 7, 15, 31, 63, 127, 255, 511, 1023, 2047, 127, 4223, 12415, 28799, 61567, 131071, 262143, 524287, 1048575, 2097151, 4194303, 8388607, 16777215, 33554431, 67108863, 134217727, 268435455, 536870911, 1073741823, 2147483647, 4294967295, 8589934591, 17179869183, 34359738367, 68719476735, 137438953471, 274877906943, 549755813887, 1099511627775, 2199023255551, 4398046511103, 8796093022207, 17592186044415, 35184372088831, 70368744177663, 140737488355327, 281474976710655, 562949953421311, 1125899906842623, 2251799813685247, 4503599627370495, 9007199254740991, 18014398509481983, 36028797018963967, 72057594037927935, 144115188075855871, 4503599627370495, 292733975779082239, 869194728082505727, 2022116232689352703, 4327959241903046655, 8939645260330434559, 18446744073709551615, 36893488147419103231, 73786976294838206463] Try.mixed (by decide +kernel) (by decide +kernel) ?_
 refine zd4 ?_
 refine zp1 ?_
 refine yA rfl rfl (fun _ => op_eqlF rfl rfl rfl (by omega)) ?_
 refine zd10 ?_
 refine zd8 ?_
 refine zp1 ?_
 refine yAG rfl rfl rfl (fun _ => op_neqT rfl rfl rfl (by omega)) ?_
 refine zd4 ?_
 refine zp1 ?_
 refine zd1 ?_
 refine yAG rfl rfl rfl (fun _ => op_gtrF rfl rfl rfl (by omega)) ?_
 refine zd7 ?_
 refine zp1 ?_
 refine yAG rfl rfl rfl (fun _ => op_lssF rfl rfl rfl (by omega)) ?_
 refine zd10 ?_
 refine zd4 ?_
 refine zp1 ?_
 refine zd5 ?_
 refine zp1 ?_
 refine zd2 ?_
 refine yAG rfl rfl rfl (fun _ => op_gtrF rfl rfl rfl (by decide)) ?_
 refine zd1 ?_
 refine RP.nil rfl ?_
 refine AWp_condF rfl ?_
 refine AWp_skip ?_
 refine zw6 ?_
 refine AWp_seq ?_
 refine AWp_seq ?_
 refine AWp_ghostInO 0 6 8 1 rfl rfl rfl ?_
 refine AWp_regL ?_
 refine zv1 ?_
 refine AWp_block ?_
 -- loop 0 LIVE 0:param 1:param 2:param 6:assign 7:alloc 8:assign
 refine AWp_loop (ι := Nat × List AO × Int) (fun z => z.1 ≤ v.l.length ∧ z.2.1 = (σ.set p (.box [.mapv q, .int .i64 frm, .int .i64 (nw + lsize (v.l.take z.1)), .int .i64 (z.2.2)])).set q (.map (imap (M ++ seenL (v.l.take z.1) (id + 1)))) ∧ ((z.1 = 0 ∧ z.2.2 = lst) ∨ (0 < z.1 ∧ z.2.2 = max lst (id + lsize (v.l.take z.1))))) (fun z => ⟨[], [(0, .ptr p 0), (1, .pp [.int .i64 id, .int .i64 v.kind, .bool v.b, .bool v.n.neg, .str v.n.digits, .int .i64 v.n.exp, .str v.s, .nils, .nils, .sl false 1 (krow v.m), .sl false 1 (tL v.l (id + 1))]), (2, .int .i64 deep), (7, .ptr (z.2.1.length + 0) 0), (8, .int .i64 (z.1 : Int))]⟩) (fun z => z.2.1 ++ [.box [.int .i64 v.kind, .bool v.b, .bool v.n.neg, .str v.n.digits, .int .i64 v.n.exp, .str v.s, .arr (z.2.1.length + 1) z.1 8 0 z.1, .nils], .arr 8 z.1 (lcells (v.l.take z.1)).flatten]) (fun z => v.l.length - z.1) ((0, σ, lst)) (⟨Nat.zero_le _, by simp only [List.take_zero, lsize, seenL, List.append_nil, Int.add_zero]; exact (s2_same hps hqs).symm, .inl ⟨rfl, rfl⟩⟩) ?_ rfl (fun z hz => ?_)
 ·exact ⟨rfl, rfl, rfl, rfl, rfl, rfl, trivial⟩
 obtain ⟨i, τ, ls⟩ := z
 obtain ⟨hz1, hτ, hz3⟩ := hz
 simp only at hz1 hτ hz3 ⊢
 have hτl : τ.length = σ.length := by rw [hτ]; simp
 have hpt : p < τ.length := by omega
 have hqt : q < τ.length := by omega
 have hτp : τ[p]? = some (.box [.mapv q, .int .i64 frm, .int .i64 (nw + lsize (v.l.take i)), .int .i64 (ls)]) := by rw [hτ]; exact s2_p hpq hpl
 have hτq : τ[q]? = some (.map (imap (M ++ seenL (v.l.take i) (id + 1)))) := by rw [hτ]; exact s2_q hql
 have hτc : closed τ.length τ := by rw [hτl, hτ]; exact s2_closed hcl (by simp [AO.cells, AV.ltL, AV.lt]; omega) (hP.lt _ _)
 refine AWp_seq ?_
 refine zw7 ?_
 refine AWp_cond rfl (fun h1 => ?_) (fun h1 => ?_)
 ·(try rw [h1]); replace h1 := zcl h1
  obtain ⟨x, hx⟩ : ∃ x, v.l[i]? = some x := ⟨_, List.getElem?_eq_getElem (show i < v.l.length by omega)⟩
  have hxm := lsize_mem hx
  have hjx := lb_get hb5 hx
  have hmx := may_get hm hx
  have hdx : jdepth x + 1 ≤ jdepth v := by rw [jdepth_eq v, if_pos (.inl hk)]; have := ldep_mem hx; omega
  have hxs := lsize_take v.l i x hx
  have hx1 := jsize_pos x
  have hlt := lsize_take_le v.l (i + 1)
  have hln := lsize_nn (v.l.take i)
  have hrow := tL_get (id + 1) hx
  have hkid := hP.kid (l := [.box [.int .i64 v.kind, .bool v.b, .bool v.n.neg, .str v.n.digits, .int .i64 v.n.exp, .str v.s, .arr (τ.length + 1) i 8 0 i, .nils], .arr 8 i (lcells (v.l.take i)).flatten]) hkl hx hdx hτp hτq
  have hkey : ∀ b ∈ M ++ seenL (v.l.take i) (id + 1), b.1 < id + 1 + lsize (v.l.take i) := hP.below (v.l.take i)
  have hsm : ∀ k, AV.ltL k (mflat (imap (M ++ seenL (v.l.take i) (id + 1) ++ seenV x (id + 1 + lsize (v.l.take i))))) := fun k => by rw [List.append_assoc, ← seenL_take hx]; exact hP.lt k (v.l.take (i + 1))
  refine AWp_skip ?_
  refine AWp_seq ?_
  refine AWp_block ?_
  refine AWp_seq ?_
  refine zu6 ?_
  refine zt rfl (op_indexAddr rfl Try.underlying43 Try.sizeOf31 rfl rfl (by omega) (hrow)) ?_
  refine zg3 ?_
  refine zt rfl (zc rfl (callS2 hpt hqt (ih x (id + 1 + lsize (v.l.take i)) (deep + 1) frm (nw + lsize (v.l.take i)) ls (M ++ seenL (v.l.take i) (id + 1)) p q _ (by omega) hjx hmx hkid))) ?_
  obtain ⟨τ2, ht2⟩ : ∃ t, t = (τ.set p (.box [.mapv q, .int .i64 frm, .int .i64 (nw + lsize (v.l.take i) + jsize x), .int .i64 (max ls ((id + 1 + lsize (v.l.take i)) + jsize x - 1))])).set q (.map (imap (M ++ seenL (v.l.take i) (id + 1) ++ seenV x (id + 1 + lsize (v.l.take i))))) := ⟨_, rfl⟩
  rw [← ht2]
  have hl2 : τ2.length = τ.length := by rw [ht2]; simp
  rw [← hl2]
  have hp2 : τ2[p]? = some (.box [.mapv q, .int .i64 frm, .int .i64 (nw + lsize (v.l.take i) + jsize x), .int .i64 (max ls ((id + 1 + lsize (v.l.take i)) + jsize x - 1))]) := by rw [ht2]; exact s2_p hpq hpt
  have hq2 : τ2[q]? = some (.map (imap (M ++ seenL (v.l.take i) (id + 1) ++ seenV x (id + 1 + lsize (v.l.take i))))) := by rw [ht2]; exact s2_q hqt
  have hc2 : closed τ2.length τ2 := by rw [hl2, ht2]; exact s2_closed hτc (by simp [AO.cells, AV.ltL, AV.lt]; omega) (hsm _)
  refine zt rfl (op_eqlF rfl rfl rfl (by decide)) ?_
  refine zon ?_
  refine AWp_condF rfl ?_
  refine AWp_skip ?_
  refine AWp_seq ?_
  refine AWp_drawL #[0, 1, 3, 7, 0, 16, 48, 112, 0, 496, 1008, 2032, 4080, 8176, 16383, 0, 65535] Try.mixed (by decide +kernel) (by decide +kernel) ?_
  refine zd3 ?_
  refine zp1 ?_
  refine zd3 ?_
  refine zp1 ?_
  refine zd1 ?_
  refine yA rfl rfl (fun _ => op_indexAddr rfl Try.underlying43 Try.sizeOf31 rfl rfl (by omega) (hrow)) ?_
  refine zp1 ?_
  rw [tcells_x x]
  refine zd2 ?_
  refine zp1 ?_
  refine yP rfl rfl (op_lookupIS rfl Try.underlying35 Try.underlying3 Try.zeroValue28 rfl rfl (get_old hq2) (seen_get hkey)) (trivial) ?_
  rw [vcells_eq x]
  refine yE rfl rfl (zoa) (⟨.inr (op_lookupIS rfl Try.underlying35 Try.underlying3 Try.zeroValue28 rfl rfl (get_old hq2) (vcells_eq x ▸ seen_get hkey)), ⟨.inr zoa, ⟨.inr zoa, ⟨.inr zoa, ⟨.inr zoa, trivial⟩⟩⟩⟩⟩) (trivial) ?_
  refine yEN rfl rfl rfl (zoa) (⟨.inl rfl, ⟨.inl rfl, ⟨.inl rfl, ⟨.inl rfl, ⟨.inl rfl, trivial⟩⟩⟩⟩⟩) (⟨rfl, trivial⟩) ?_
  refine RP.nil rfl ?_
  refine zu5 ?_
  refine zt rfl (op_eqlT rfl rfl rfl (by omega)) ?_
  refine zon ?_
  refine AWp_condT rfl ?_
  refine AWp_regL ?_
  refine zg3 ?_
  refine zt rfl (op_buildSlice [[_, _, _, _, _, _, _, _]] rfl Try.underlying25 Try.sizeOf28 Try.zeroValue28 rfl (by decide) (by decide) rfl rfl rfl rfl rfl) ?_
  refine zt rfl (op_appendArrT rfl 1 (sz := 8) (m := 1) (len := i) (cs := _) rfl (.inr ⟨_, rfl⟩) Try.underlying25 Try.underlying25 Try.type28 rfl rfl rfl (by decide) rfl rfl (by rw [lflat_len, List.length_take]; omega) rfl rfl rfl (by show (i + 1) * 112 ≤ _; omega) (by omega) rfl) ?_
  refine zg1 ?_
  refine ztN rfl rfl (op_storeO (r := [.int .i64 v.kind, .bool v.b, .bool v.n.neg, .str v.n.digits, .int .i64 v.n.exp, .str v.s, .arr (τ2.length + 1) (i + 1) 8 0 (i + 1), .nils]) rfl Try.sizeOf25 rfl rfl rfl rfl rfl (by decide)) ?_
  refine zon ?_
  refine AWp_regL ?_
  refine zv3 ?_
  refine ⟨(i + 1, τ2, max ls ((id + 1 + lsize (v.l.take i)) + jsize x - 1)), τ2.length + 2, ⟨by simp only; omega, ?_, ?_⟩, by simp only; omega, by simp; omega, ⟨rfl, rfl, rfl, rfl, rfl, rfl, trivial⟩, closed_own 2 hc2 ?_, ?_, ?_⟩
  ·show τ2 = _; rw [ht2, hτ, s2_set hpq, seenL_take hx, hxs, ← Int.add_assoc, ← List.append_assoc]
  ·right; refine ⟨by simp only; omega, ?_⟩
   simp only
   rcases hz3 with ⟨h0, h9⟩ | ⟨h0, h9⟩
   ·subst h0; simp only [List.take_zero, lsize] at *; omega
   ·omega
  ·simp [ownLt, AO.cells, AV.ltL, AV.lt, ltL_append, lflat_lt, mflat_lt]
  ·simp [ltE, AV.lt, AV.ltL]; omega
  ·refine (take_own 2).trans ?_
   rw [ltake_succ hx, lcells_snoc, vcells_eq x]; rfl
 ·(try rw [h1]); replace h1 := zcl h1
  refine AWp_exit ?_
  refine AWp_seq ?_
  have hie : i = v.l.length := by omega
  subst hie
  have htk : v.l.take v.l.length = v.l := List.take_of_length_le (by omega)
  rw [htk] at hτ hτp hτq
  rw [List.take_length]
  refine AWp_freezeInO 0 6 1 v.l.length 8 v.l.length rfl rfl rfl (lcells v.l) rfl (lrow_len _) (lcells_length _) (by decide) ?_
  refine AWp_boxLeO 0 (bs' := [.int .i64 v.kind, .bool v.b, .bool v.n.neg, .str v.n.digits, .int .i64 v.n.exp, .str v.s, .sl false 8 (lcells v.l), .sl false 9 (mcells [])]) rfl ⟨AVle.refl _, AVle.refl _, AVle.refl _, AVle.refl _, AVle.refl _, AVle.refl _, AVle.refl _, nilM, trivial⟩ ?_
  have hvc : vcells v = [.int .i64 v.kind, .bool v.b, .bool v.n.neg, .str v.n.digits, .int .i64 v.n.exp, .str v.s, .sl false 8 (lcells v.l), .sl false 9 (mcells [])] := by rw [vcells_eq v, hm0]
  refine AWp_drawL #[0, 1, 3, 7, 0, 16, 48, 112, 255, 511, 1023, 1023, 0, 6143, 16383] Try.mixed (by decide +kernel) (by decide +kernel) ?_
  refine zd3 ?_
  refine zp1 ?_
  refine zd3 ?_
  refine zp1 ?_
  refine yP rfl rfl (op_lookupI2N rfl Try.underlying35 Try.underlying3 Try.zeroValue28 rfl rfl (get_old hτq) (hP.none v.l)) (trivial) ?_
  refine zd3 ?_
  refine yE rfl rfl (zoa) (⟨.inr (op_lookupI2N rfl Try.underlying35 Try.underlying3 Try.zeroValue28 rfl rfl (get_old hτq) (hP.none v.l)), ⟨.inr zoa, ⟨.inr zoa, trivial⟩⟩⟩) (trivial) ?_
  refine yEN rfl rfl rfl (zoa) (⟨.inl rfl, ⟨.inl rfl, ⟨.inl rfl, trivial⟩⟩⟩) (⟨rfl, trivial⟩) ?_
  refine zd1 ?_
  refine RP.nil rfl ?_
  refine zu2 ?_
  refine zt rfl (zc rfl (lsame_c v _ _ hvc hjb (by omega))) ?_
  refine zv1 ?_
  refine AWp_seq ?_
  refine zw5 ?_
  refine AWp_condF rfl ?_
  refine AWp_skip ?_
  refine AWp_seq ?_
  refine AWp_seq ?_
  refine AWp_drawL #[0, 1, 3, 7, 15, 31, 63, 7, 135, 391, 903, 2047, 4095] Try.mixed (by decide +kernel) (by decide +kernel) ?_
  refine zd6 ?_
  refine zp1 ?_
  refine zd3 ?_
  refine zp1 ?_
  refine yAG rfl rfl rfl (fun _ => op_geqT rfl rfl rfl (by omega)) ?_
  refine zd1 ?_
  refine RP.nil rfl ?_
  refine AWp_condT rfl ?_
  refine AWp_regL ?_
  refine zg7 ?_
  refine ztN rfl rfl (op_storeP (r := [.mapv q, .int .i64 frm, .int .i64 (nw + lsize v.l + 1), .int .i64 ls]) rfl Try.sizeOf3 rfl rfl rfl (get_old hτp) rfl (by decide)) ?_
  obtain ⟨τ3, ht3⟩ : ∃ t, t = τ.set p (.box [.mapv q, .int .i64 frm, .int .i64 (nw + lsize v.l + 1), .int .i64 (ls)]) := ⟨_, rfl⟩
  rw [set1_app hpt, ← ht3]
  have hl3 : τ3.length = τ.length := by rw [ht3]; simp
  rw [← hl3]
  have h3p : τ3[p]? = some (.box [.mapv q, .int .i64 frm, .int .i64 (nw + lsize v.l + 1), .int .i64 (ls)]) := by rw [ht3]; exact get_set hpt
  have h3q : τ3[q]? = some (.map (imap (M ++ seenL v.l (id + 1)))) := by rw [ht3, List.getElem?_set, if_neg hpq]; exact hτq
  refine zon ?_
  refine AWp_seq ?_
  refine AWp_drawL #[0, 1, 3, 7, 0, 16, 48, 112, 0, 511] Try.mixed (by decide +kernel) (by decide +kernel) ?_
  refine zd3 ?_
  refine zp1 ?_
  refine zd3 ?_
  refine zp2 ?_
  refine yEN rfl rfl rfl (op_mapUpdI rfl Try.underlying35 Try.underlying3 rfl rfl rfl (get_old h3q) (hP.none v.l)) (⟨.inl rfl, ⟨.inl rfl, ⟨.inl rfl, trivial⟩⟩⟩) (trivial) ?_
  obtain ⟨τ4, ht4⟩ : ∃ t, t = τ3.set q (.map (imap (M ++ seenL v.l (id + 1) ++ [(id, .agg (vcells v))]))) := ⟨_, rfl⟩
  rw [← hvc, set1_app (by omega), ← ht4]
  have hl4 : τ4.length = τ3.length := by rw [ht4]; simp
  have h4p : τ4[p]? = some (.box [.mapv q, .int .i64 frm, .int .i64 (nw + lsize v.l + 1), .int .i64 (ls)]) := by rw [ht4, List.getElem?_set, if_neg (Ne.symm hpq)]; exact h3p
  refine RP.nil rfl ?_
  refine AWp_seq ?_
  refine AWp_drawL #[0, 0, 2, 6, 14, 0, 32, 96, 224, 510, 1023, 2047, 4095] Try.mixed (by decide +kernel) (by decide +kernel) ?_
  refine zd4 ?_
  refine zp1 ?_
  refine zd3 ?_
  refine zp1 ?_
  refine zd3 ?_
  refine yEN rfl rfl rfl (op_storeP (r := [.mapv q, .int .i64 frm, .int .i64 (nw + lsize v.l + 1), .int .i64 (max ls id)]) rfl Try.sizeOf3 rfl rfl rfl (get_old h4p) rfl (by decide)) (⟨.inl rfl, ⟨.inl rfl, trivial⟩⟩) (trivial) ?_
  rw [set1_app (by omega)]
  refine RP.nil rfl ?_
  refine zw1 ?_
  refine zrt ?_
  have hls : max ls id = max lst (id + jsize v - 1) := by
   rcases hz3 with ⟨h0, h9⟩ | ⟨h0, h9⟩
   ·have : lsize v.l = 0 := by rw [← htk, h0]; rfl
    omega
   ·rw [htk] at h9; omega
  have hfin : τ4.set p (.box [.mapv q, .int .i64 frm, .int .i64 (nw + lsize v.l + 1), .int .i64 (max ls id)]) = spost σ p q v id frm nw lst M := by unfold spost; rw [ht4, ht3, hτ, s2_chain hpq, hls, seenV_k, hkl, ← List.append_assoc, show nw + lsize v.l + 1 = nw + jsize v by omega]
  rw [hfin]
  have hfl : (spost σ p q v id frm nw lst M).length = σ.length := by unfold spost; simp
  refine ResQ_K (v := .int .i64 1) σ.length (Nat.le_refl _) rfl ?_ trivial ?_
  ·have hcc : closed (spost σ p q v id frm nw lst M).length (spost σ p q v id frm nw lst M) := by rw [hfl]; exact s2_closed hcl (by simp [AO.cells, AV.ltL, AV.lt]; omega) (imap_lt _ _ fun b hb => (List.mem_append.1 hb).elim (hP.ml _ b) (seenV_lt _ _ _ b))
   rw [← hfl]
   exact closed_old hcc
  ·rw [List.take_left' hfl]; exact ⟨rfl, rfl⟩
end Lg
set_option maxRecDepth 20000
set_option maxHeartbeats 4000000
namespace Lg
open Go Go.Proofs Go.RowKit
variable [GLay] 
theorem look5 (n : Nat) (ih : ∀ (x : JV) (id deep frm nw lst : Int) (M : List (Int × AV)) (p q : Nat) (τ : List AO), jsize x ≤ n → jb x → jmay x → SP x id deep frm nw lst M p q τ → ACalls Try.prog 7 [.ptr p 0, .pp (tcells x id), .int .i64 deep] τ (Ret (.int .i64 1) (spost τ p q x id frm nw lst M))) (v : JV) (id deep frm nw lst : Int) (M : List (Int × AV)) (p q : Nat) (σ : List AO) (hn : jsize v ≤ n + 1) (hjb : jb v) (hm : jmay v) (hP : SP v id deep frm nw lst M p q σ) (hk : v.kind = 5) : ACalls Try.prog 7 [.ptr p 0, .pp (tcells v id), .int .i64 deep] σ (Ret (.int .i64 1) (spost σ p q v id frm nw lst M)) := by
 have hvs := jsize_kids v
 have hkn := llen_le (jkids v)
 obtain ⟨hb1, hb2, hb3, hb4, hb5, hb6⟩ := (jb_eq v).1 hjb
 have hkr := krow_len v.m
 have hpq := hP.ne
 have hpl : p < σ.length := (List.getElem?_eq_some_iff.1 hP.hp).1
 have hql : q < σ.length := (List.getElem?_eq_some_iff.1 hP.hq).1
 have hPd := hP.dd
 have hPd0 := hP.d0
 have hPl := hP.len
 have hPi := hP.i0
 have hPb := hP.ib
 have hPf := hP.f
 have hPn := hP.n0
 have hPnb := hP.nb
 have hjn := jdepth_nn v
 have hps := hP.hp
 have hqs := hP.hq
 have him : (imap M).length = M.length := List.length_map _
 have hl0 : v.l = [] := may_nol hm (by omega)
 have hkl : jkids v = v.m.map (·.2) := by simp [jkids, hl0]
 have hml : (v.m.map (·.2)).length = v.m.length := List.length_map _
 rw [hkl] at hvs hkn
 have htl := tL_len (v.m.map (·.2)) (id + 1)
 have hlnn := lsize_nn (v.m.map (·.2))
 refine ACalls_body Try.func7 rfl Try.ntmps7 (res1 Try.results7) (Nat.le_of_ble_eq_true rfl) (fun hcl hal => ?_)
 rw [tcells_x v id, hkl]
 refine zw1 ?_
 refine AWp_seq ?_
 refine zu4 ?_
 refine ztG rfl rfl (op_gtrF rfl rfl rfl (by omega)) ?_
 refine zg6 ?_
 refine ztG rfl rfl (op_lenMap rfl rfl Try.underlying35 rfl hqs) ?_
 refine ztG rfl rfl (op_gtrF rfl rfl rfl (by omega)) ?_
 refine zv1 ?_
 refine AWp_condF rfl ?_
 refine AWp_skip ?_
 refine AWp_seq ?_
 refine AWp_seq ?_
 refine AWp_drawL #[0, 1, 3, 7, 15, 31, 63, 127, 255, 511, 1023, 2047, 127, 4223, 12415, 28799, 61567, 131071, 262143, 524287, 1048575, 2097151, 4194303, 8388607, 16777215, 33554431, 67108863, 134217727, 268435455, 536870911, 1073741823, 2147483647, 4294967295, 8589934591, 17179869183, 34359738367, 68719476735, 137438953471, 274877906943, 549755813887, 1099511627775, 2199023255551, 4398046511103, 8796093022207, 17592186044415, 35184372088831, 70368744177663, 140737488355327, 281474976710655, 562949953421311, 1125899906842623, 2251799813685247, 4503599627370495, 9007199254740991, 18014398509481983, 36028797018963967, 72057594037927935, 144115188075855871, 4503599627370495, 292733975779082239, 869194728082505727, 2022116232689352703, 4327959241903046655, 8939645260330434559, 18446744073709551615, 36893488147419103231, 73786976294838206463] Try.mixed (by decide +kernel) (by decide +kernel) ?_
 refine zd4 ?_
 refine zp1 ?_
 refine yA rfl rfl (fun _ => op_eqlT rfl rfl rfl (by omega)) ?_
 refine zd4 ?_
 refine zp1 ?_
 refine zd4 ?_
 refine zp1 ?_
 refine zd1 ?_
 refine yAG rfl rfl rfl (fun _ => op_neqF rfl rfl rfl (by omega)) ?_
 refine zd6 ?_
 refine zp1 ?_
 refine yAG rfl rfl rfl (fun _ => op_neqF rfl rfl rfl (by omega)) ?_
 refine zd10 ?_
 refine zd4 ?_
 refine zp1 ?_
 refine yAG rfl rfl rfl (fun _ => op_lssF rfl rfl rfl (by omega)) ?_
 refine zd10 ?_
 refine zd4 ?_
 refine zp1 ?_
 refine zd5 ?_
 refine zp1 ?_
 refine zd2 ?_
 refine yAG rfl rfl rfl (fun _ => op_gtrF rfl rfl rfl (by decide)) ?_
 refine zd1 ?_
 refine RP.nil rfl ?_
 refine AWp_condF rfl ?_
 refine AWp_skip ?_
 refine zw6 ?_
 refine AWp_seq ?_
 refine AWp_seq ?_
 refine AWp_ghostInO 0 7 9 1 rfl rfl rfl ?_
 refine AWp_regL ?_
 refine zv1 ?_
 refine AWp_block ?_
 -- loop 0 LIVE 0:param 1:param 2:param 6:assign 7:alloc 8:assign
 refine AWp_loop (ι := Nat × List AO × Int) (fun z => z.1 ≤ v.m.length ∧ z.2.1 = (σ.set p (.box [.mapv q, .int .i64 frm, .int .i64 (nw + lsize ((v.m.map (·.2)).take z.1)), .int .i64 (z.2.2)])).set q (.map (imap (M ++ seenL ((v.m.map (·.2)).take z.1) (id + 1)))) ∧ ((z.1 = 0 ∧ z.2.2 = lst) ∨ (0 < z.1 ∧ z.2.2 = max lst (id + lsize ((v.m.map (·.2)).take z.1))))) (fun z => ⟨[], [(0, .ptr p 0), (1, .pp [.int .i64 id, .int .i64 v.kind, .bool v.b, .bool v.n.neg, .str v.n.digits, .int .i64 v.n.exp, .str v.s, .nils, .nils, .sl false 1 (krow v.m), .sl false 1 (tL (v.m.map (·.2)) (id + 1))]), (2, .int .i64 deep), (7, .ptr (z.2.1.length + 0) 0), (8, .int .i64 (z.1 : Int))]⟩) (fun z => z.2.1 ++ [.box [.int .i64 v.kind, .bool v.b, .bool v.n.neg, .str v.n.digits, .int .i64 v.n.exp, .str v.s, .nils, .arr (z.2.1.length + 1) z.1 9 0 z.1], .arr 9 z.1 (mcells (v.m.take z.1)).flatten]) (fun z => v.m.length - z.1) ((0, σ, lst)) (⟨Nat.zero_le _, by simp only [List.take_zero, lsize, seenL, List.append_nil, Int.add_zero]; exact (s2_same hps hqs).symm, .inl ⟨rfl, rfl⟩⟩) ?_ rfl (fun z hz => ?_)
 ·exact ⟨rfl, rfl, rfl, rfl, rfl, rfl, trivial⟩
 obtain ⟨i, τ, ls⟩ := z
 obtain ⟨hz1, hτ, hz3⟩ := hz
 simp only at hz1 hτ hz3 ⊢
 have hτl : τ.length = σ.length := by rw [hτ]; simp
 have hpt : p < τ.length := by omega
 have hqt : q < τ.length := by omega
 have hτp : τ[p]? = some (.box [.mapv q, .int .i64 frm, .int .i64 (nw + lsize ((v.m.map (·.2)).take i)), .int .i64 (ls)]) := by rw [hτ]; exact s2_p hpq hpl
 have hτq : τ[q]? = some (.map (imap (M ++ seenL ((v.m.map (·.2)).take i) (id + 1)))) := by rw [hτ]; exact s2_q hql
 have hτc : closed τ.length τ := by rw [hτl, hτ]; exact s2_closed hcl (by simp [AO.cells, AV.ltL, AV.lt]; omega) (hP.lt _ _)
 refine AWp_seq ?_
 refine zw7 ?_
 refine AWp_cond rfl (fun h1 => ?_) (fun h1 => ?_)
 ·(try rw [h1]); replace h1 := zcl h1
  obtain ⟨a, ha⟩ : ∃ a, v.m[i]? = some a := ⟨_, List.getElem?_eq_getElem (show i < v.m.length by omega)⟩
  have hx : (v.m.map (·.2))[i]? = some a.2 := by rw [List.getElem?_map, ha]; rfl
  have hxm := lsize_mem hx
  have hjx := (mb_get hb6 ha).2
  have hmx := may_mget hm ha
  have hdx : jdepth a.2 + 1 ≤ jdepth v := by rw [jdepth_eq v, if_pos (.inr hk)]; have := mdep_mem ha; omega
  have hkrow := krow_get ha
  have hxs := lsize_take (v.m.map (·.2)) i a.2 hx
  have hx1 := jsize_pos a.2
  have hlt := lsize_take_le (v.m.map (·.2)) (i + 1)
  have hln := lsize_nn ((v.m.map (·.2)).take i)
  have hrow := tL_get (id + 1) hx
  have hkid := hP.kid (l := [.box [.int .i64 v.kind, .bool v.b, .bool v.n.neg, .str v.n.digits, .int .i64 v.n.exp, .str v.s, .nils, .arr (τ.length + 1) i 9 0 i], .arr 9 i (mcells (v.m.take i)).flatten]) hkl hx hdx hτp hτq
  have hkey : ∀ b ∈ M ++ seenL ((v.m.map (·.2)).take i) (id + 1), b.1 < id + 1 + lsize ((v.m.map (·.2)).take i) := hP.below ((v.m.map (·.2)).take i)
  have hsm : ∀ k, AV.ltL k (mflat (imap (M ++ seenL ((v.m.map (·.2)).take i) (id + 1) ++ seenV a.2 (id + 1 + lsize ((v.m.map (·.2)).take i))))) := fun k => by rw [List.append_assoc, ← seenL_take hx]; exact hP.lt k ((v.m.map (·.2)).take (i + 1))
  refine AWp_skip ?_
  refine AWp_seq ?_
  refine AWp_block ?_
  refine AWp_seq ?_
  refine zu6 ?_
  refine zt rfl (op_indexAddr rfl Try.underlying43 Try.sizeOf31 rfl rfl (by omega) (hrow)) ?_
  refine zg3 ?_
  refine zt rfl (zc rfl (callS2 hpt hqt (ih a.2 (id + 1 + lsize ((v.m.map (·.2)).take i)) (deep + 1) frm (nw + lsize ((v.m.map (·.2)).take i)) ls (M ++ seenL ((v.m.map (·.2)).take i) (id + 1)) p q _ (by omega) hjx hmx hkid))) ?_
  obtain ⟨τ2, ht2⟩ : ∃ t, t = (τ.set p (.box [.mapv q, .int .i64 frm, .int .i64 (nw + lsize ((v.m.map (·.2)).take i) + jsize a.2), .int .i64 (max ls ((id + 1 + lsize ((v.m.map (·.2)).take i)) + jsize a.2 - 1))])).set q (.map (imap (M ++ seenL ((v.m.map (·.2)).take i) (id + 1) ++ seenV a.2 (id + 1 + lsize ((v.m.map (·.2)).take i))))) := ⟨_, rfl⟩
  rw [← ht2]
  have hl2 : τ2.length = τ.length := by rw [ht2]; simp
  rw [← hl2]
  have hp2 : τ2[p]? = some (.box [.mapv q, .int .i64 frm, .int .i64 (nw + lsize ((v.m.map (·.2)).take i) + jsize a.2), .int .i64 (max ls ((id + 1 + lsize ((v.m.map (·.2)).take i)) + jsize a.2 - 1))]) := by rw [ht2]; exact s2_p hpq hpt
  have hq2 : τ2[q]? = some (.map (imap (M ++ seenL ((v.m.map (·.2)).take i) (id + 1) ++ seenV a.2 (id + 1 + lsize ((v.m.map (·.2)).take i))))) := by rw [ht2]; exact s2_q hqt
  have hc2 : closed τ2.length τ2 := by rw [hl2, ht2]; exact s2_closed hτc (by simp [AO.cells, AV.ltL, AV.lt]; omega) (hsm _)
  refine zt rfl (op_eqlF rfl rfl rfl (by decide)) ?_
  refine zon ?_
  refine AWp_condF rfl ?_
  refine AWp_skip ?_
  refine AWp_seq ?_
  refine AWp_drawL #[0, 1, 3, 7, 0, 16, 48, 112, 0, 496, 1008, 2032, 4080, 8176, 16383, 0, 65535] Try.mixed (by decide +kernel) (by decide +kernel) ?_
  refine zd3 ?_
  refine zp1 ?_
  refine zd3 ?_
  refine zp1 ?_
  refine zd1 ?_
  refine yA rfl rfl (fun _ => op_indexAddr rfl Try.underlying43 Try.sizeOf31 rfl rfl (by omega) (hrow)) ?_
  refine zp1 ?_
  rw [tcells_x a.2]
  refine zd2 ?_
  refine zp1 ?_
  refine yP rfl rfl (op_lookupIS rfl Try.underlying35 Try.underlying3 Try.zeroValue28 rfl rfl (get_old hq2) (seen_get hkey)) (trivial) ?_
  rw [vcells_eq a.2]
  refine yE rfl rfl (zoa) (⟨.inr (op_lookupIS rfl Try.underlying35 Try.underlying3 Try.zeroValue28 rfl rfl (get_old hq2) (vcells_eq a.2 ▸ seen_get hkey)), ⟨.inr zoa, ⟨.inr zoa, ⟨.inr zoa, ⟨.inr zoa, trivial⟩⟩⟩⟩⟩) (trivial) ?_
  refine yEN rfl rfl rfl (zoa) (⟨.inl rfl, ⟨.inl rfl, ⟨.inl rfl, ⟨.inl rfl, ⟨.inl rfl, trivial⟩⟩⟩⟩⟩) (⟨rfl, trivial⟩) ?_
  refine RP.nil rfl ?_
  refine zu5 ?_
  refine zt rfl (op_eqlF rfl rfl rfl (by omega)) ?_
  refine zon ?_
  refine AWp_condF rfl ?_
  refine AWp_drawL #[0, 1, 0, 4, 12, 28, 0, 124, 252, 0, 1020, 2044, 4095, 8191, 16383] Try.mixed (by decide +kernel) (by decide +kernel) ?_
  refine zd1 ?_
  refine zp1 ?_
  refine zd3 ?_
  refine zp1 ?_
  refine zd1 ?_
  refine yA rfl rfl (fun _ => op_indexAddr rfl Try.underlying42 Try.sizeOf9 rfl rfl (by omega) (hkrow)) ?_
  refine zp2 ?_
  refine zd1 ?_
  refine yA rfl rfl (fun _ => op_buildSlice [[_, _, _, _, _, _, _, _, _]] rfl Try.underlying26 Try.sizeOf56 Try.zeroValue56 rfl (by decide) (by decide) rfl rfl rfl rfl rfl) ?_
  refine yE rfl rfl (op_appendArrT rfl 1 (sz := 9) (m := 1) (len := i) (cs := _) rfl (.inr ⟨_, rfl⟩) Try.underlying26 Try.underlying26 Try.type56 rfl rfl rfl (by decide) rfl rfl (by rw [mflat_len, List.length_take]; omega) rfl rfl rfl (by show (i + 1) * 128 ≤ _; omega) (by omega) rfl) (⟨.inl rfl, ⟨.inl rfl, ⟨.inl rfl, ⟨.inl rfl, trivial⟩⟩⟩⟩) (trivial) ?_
  refine zd1 ?_
  refine yEN rfl rfl rfl (op_storeO (r := [.int .i64 v.kind, .bool v.b, .bool v.n.neg, .str v.n.digits, .int .i64 v.n.exp, .str v.s, .nils, .arr (τ2.length + 1) (i + 1) 9 0 (i + 1)]) rfl Try.sizeOf26 rfl rfl rfl rfl rfl (by decide)) (⟨.inl rfl, ⟨.inl rfl, ⟨.inl rfl, ⟨.inl rfl, trivial⟩⟩⟩⟩) (⟨rfl, trivial⟩) ?_
  refine RP.nil rfl ?_
  refine AWp_regL ?_
  refine zv3 ?_
  refine ⟨(i + 1, τ2, max ls ((id + 1 + lsize ((v.m.map (·.2)).take i)) + jsize a.2 - 1)), τ2.length + 2, ⟨by simp only; omega, ?_, ?_⟩, by simp only; omega, by simp; omega, ⟨rfl, rfl, rfl, rfl, rfl, rfl, trivial⟩, closed_own 2 hc2 ?_, ?_, ?_⟩
  ·show τ2 = _; rw [ht2, hτ, s2_set hpq, seenL_take hx, hxs, ← Int.add_assoc, ← List.append_assoc]
  ·right; refine ⟨by simp only; omega, ?_⟩
   simp only
   rcases hz3 with ⟨h0, h9⟩ | ⟨h0, h9⟩
   ·subst h0; simp only [List.take_zero, lsize] at *; omega
   ·omega
  ·simp [ownLt, AO.cells, AV.ltL, AV.lt, ltL_append, lflat_lt, mflat_lt]
  ·simp [ltE, AV.lt, AV.ltL]; omega
  ·refine (take_own 2).trans ?_
   rw [ltake_succ ha, mcells_snoc, mrow, vcells_eq a.2]; rfl
 ·(try rw [h1]); replace h1 := zcl h1
  refine AWp_exit ?_
  refine AWp_seq ?_
  have hie : i = v.m.length := by omega
  subst hie
  have htk : (v.m.map (·.2)).take v.m.length = (v.m.map (·.2)) := List.take_of_length_le (by omega)
  rw [htk] at hτ hτp hτq
  rw [List.take_length]
  refine AWp_freezeInO 0 7 1 v.m.length 9 v.m.length rfl rfl rfl (mcells v.m) rfl (mrows_len _) (mcells_length _) (by decide) ?_
  refine AWp_boxLeO 0 (bs' := [.int .i64 v.kind, .bool v.b, .bool v.n.neg, .str v.n.digits, .int .i64 v.n.exp, .str v.s, .sl false 8 (lcells []), .sl false 9 (mcells v.m)]) rfl ⟨AVle.refl _, AVle.refl _, AVle.refl _, AVle.refl _, AVle.refl _, AVle.refl _, nilL, AVle.refl _, trivial⟩ ?_
  have hvc : vcells v = [.int .i64 v.kind, .bool v.b, .bool v.n.neg, .str v.n.digits, .int .i64 v.n.exp, .str v.s, .sl false 8 (lcells []), .sl false 9 (mcells v.m)] := by rw [vcells_eq v, hl0]
  refine AWp_drawL #[0, 1, 3, 7, 0, 16, 48, 112, 255, 511, 1023, 1023, 0, 6143, 16383] Try.mixed (by decide +kernel) (by decide +kernel) ?_
  refine zd3 ?_
  refine zp1 ?_
  refine zd3 ?_
  refine zp1 ?_
  refine yP rfl rfl (op_lookupI2N rfl Try.underlying35 Try.underlying3 Try.zeroValue28 rfl rfl (get_old hτq) (hP.none (v.m.map (·.2)))) (trivial) ?_
  refine zd3 ?_
  refine yE rfl rfl (zoa) (⟨.inr (op_lookupI2N rfl Try.underlying35 Try.underlying3 Try.zeroValue28 rfl rfl (get_old hτq) (hP.none (v.m.map (·.2)))), ⟨.inr zoa, ⟨.inr zoa, trivial⟩⟩⟩) (trivial) ?_
  refine yEN rfl rfl rfl (zoa) (⟨.inl rfl, ⟨.inl rfl, ⟨.inl rfl, trivial⟩⟩⟩) (⟨rfl, trivial⟩) ?_
  refine zd1 ?_
  refine RP.nil rfl ?_
  refine zu2 ?_
  refine zt rfl (zc rfl (lsame_c v _ _ hvc hjb (by omega))) ?_
  refine zv1 ?_
  refine AWp_seq ?_
  refine zw5 ?_
  refine AWp_condF rfl ?_
  refine AWp_skip ?_
  refine AWp_seq ?_
  refine AWp_seq ?_
  refine AWp_drawL #[0, 1, 3, 7, 15, 31, 63, 7, 135, 391, 903, 2047, 4095] Try.mixed (by decide +kernel) (by decide +kernel) ?_
  refine zd6 ?_
  refine zp1 ?_
  refine zd3 ?_
  refine zp1 ?_
  refine yAG rfl rfl rfl (fun _ => op_geqT rfl rfl rfl (by omega)) ?_
  refine zd1 ?_
  refine RP.nil rfl ?_
  refine AWp_condT rfl ?_
  refine AWp_regL ?_
  refine zg7 ?_
  refine ztN rfl rfl (op_storeP (r := [.mapv q, .int .i64 frm, .int .i64 (nw + lsize (v.m.map (·.2)) + 1), .int .i64 ls]) rfl Try.sizeOf3 rfl rfl rfl (get_old hτp) rfl (by decide)) ?_
  obtain ⟨τ3, ht3⟩ : ∃ t, t = τ.set p (.box [.mapv q, .int .i64 frm, .int .i64 (nw + lsize (v.m.map (·.2)) + 1), .int .i64 (ls)]) := ⟨_, rfl⟩
  rw [set1_app hpt, ← ht3]
  have hl3 : τ3.length = τ.length := by rw [ht3]; simp
  rw [← hl3]
  have h3p : τ3[p]? = some (.box [.mapv q, .int .i64 frm, .int .i64 (nw + lsize (v.m.map (·.2)) + 1), .int .i64 (ls)]) := by rw [ht3]; exact get_set hpt
  have h3q : τ3[q]? = some (.map (imap (M ++ seenL (v.m.map (·.2)) (id + 1)))) := by rw [ht3, List.getElem?_set, if_neg hpq]; exact hτq
  refine zon ?_
  refine AWp_seq ?_
  refine AWp_drawL #[0, 1, 3, 7, 0, 16, 48, 112, 0, 511] Try.mixed (by decide +kernel) (by decide +kernel) ?_
  refine zd3 ?_
  refine zp1 ?_
  refine zd3 ?_
  refine zp2 ?_
  refine yEN rfl rfl rfl (op_mapUpdI rfl Try.underlying35 Try.underlying3 rfl rfl rfl (get_old h3q) (hP.none (v.m.map (·.2)))) (⟨.inl rfl, ⟨.inl rfl, ⟨.inl rfl, trivial⟩⟩⟩) (trivial) ?_
  obtain ⟨τ4, ht4⟩ : ∃ t, t = τ3.set q (.map (imap (M ++ seenL (v.m.map (·.2)) (id + 1) ++ [(id, .agg (vcells v))]))) := ⟨_, rfl⟩
  rw [← hvc, set1_app (by omega), ← ht4]
  have hl4 : τ4.length = τ3.length := by rw [ht4]; simp
  have h4p : τ4[p]? = some (.box [.mapv q, .int .i64 frm, .int .i64 (nw + lsize (v.m.map (·.2)) + 1), .int .i64 (ls)]) := by rw [ht4, List.getElem?_set, if_neg (Ne.symm hpq)]; exact h3p
  refine RP.nil rfl ?_
  refine AWp_seq ?_
  refine AWp_drawL #[0, 0, 2, 6, 14, 0, 32, 96, 224, 510, 1023, 2047, 4095] Try.mixed (by decide +kernel) (by decide +kernel) ?_
  refine zd4 ?_
  refine zp1 ?_
  refine zd3 ?_
  refine zp1 ?_
  refine zd3 ?_
  refine yEN rfl rfl rfl (op_storeP (r := [.mapv q, .int .i64 frm, .int .i64 (nw + lsize (v.m.map (·.2)) + 1), .int .i64 (max ls id)]) rfl Try.sizeOf3 rfl rfl rfl (get_old h4p) rfl (by decide)) (⟨.inl rfl, ⟨.inl rfl, trivial⟩⟩) (trivial) ?_
  rw [set1_app (by omega)]
  refine RP.nil rfl ?_
  refine zw1 ?_
  refine zrt ?_
  have hls : max ls id = max lst (id + jsize v - 1) := by
   rcases hz3 with ⟨h0, h9⟩ | ⟨h0, h9⟩
   ·have : lsize (v.m.map (·.2)) = 0 := by rw [← htk, h0]; rfl
    omega
   ·rw [htk] at h9; omega
  have hfin : τ4.set p (.box [.mapv q, .int .i64 frm, .int .i64 (nw + lsize (v.m.map (·.2)) + 1), .int .i64 (max ls id)]) = spost σ p q v id frm nw lst M := by unfold spost; rw [ht4, ht3, hτ, s2_chain hpq, hls, seenV_k, hkl, ← List.append_assoc, show nw + lsize (v.m.map (·.2)) + 1 = nw + jsize v by omega]
  rw [hfin]
  have hfl : (spost σ p q v id frm nw lst M).length = σ.length := by unfold spost; simp
  refine ResQ_K (v := .int .i64 1) σ.length (Nat.le_refl _) rfl ?_ trivial ?_
  ·have hcc : closed (spost σ p q v id frm nw lst M).length (spost σ p q v id frm nw lst M) := by rw [hfl]; exact s2_closed hcl (by simp [AO.cells, AV.ltL, AV.lt]; omega) (imap_lt _ _ fun b hb => (List.mem_append.1 hb).elim (hP.ml _ b) (seenV_lt _ _ _ b))
   rw [← hfl]
   exact closed_old hcc
  ·rw [List.take_left' hfl]; exact ⟨rfl, rfl⟩
end Lg
set_option maxRecDepth 20000
set_option maxHeartbeats 4000000
namespace Lg
open Go Go.Proofs Go.RowKit
variable [GLay] 
theorem look3 (n : Nat) (ih : ∀ (x : JV) (id deep frm nw lst : Int) (M : List (Int × AV)) (p q : Nat) (τ : List AO), jsize x ≤ n → jb x → jmay x → SP x id deep frm nw lst M p q τ → ACalls Try.prog 7 [.ptr p 0, .pp (tcells x id), .int .i64 deep] τ (Ret (.int .i64 1) (spost τ p q x id frm nw lst M))) (v : JV) (id deep frm nw lst : Int) (M : List (Int × AV)) (p q : Nat) (σ : List AO) (hn : jsize v ≤ n + 1) (hjb : jb v) (hm : jmay v) (hP : SP v id deep frm nw lst M p q σ) (hk : v.kind < 4) : ACalls Try.prog 7 [.ptr p 0, .pp (tcells v id), .int .i64 deep] σ (Ret (.int .i64 1) (spost σ p q v id frm nw lst M)) := by
 have hvs := jsize_kids v
 have hkn := llen_le (jkids v)
 obtain ⟨hb1, hb2, hb3, hb4, hb5, hb6⟩ := (jb_eq v).1 hjb
 have hkr := krow_len v.m
 have hpq := hP.ne
 have hpl : p < σ.length := (List.getElem?_eq_some_iff.1 hP.hp).1
 have hql : q < σ.length := (List.getElem?_eq_some_iff.1 hP.hq).1
 have hPd := hP.dd
 have hPd0 := hP.d0
 have hPl := hP.len
 have hPi := hP.i0
 have hPb := hP.ib
 have hPf := hP.f
 have hPn := hP.n0
 have hPnb := hP.nb
 have hjn := jdepth_nn v
 have hps := hP.hp
 have hqs := hP.hq
 have him : (imap M).length = M.length := List.length_map _
 have hm0 : v.m = [] := may_nom hm (by omega)
 have hkl : jkids v = v.l := by simp [jkids, hm0]
 have hmz : v.m.length = 0 := by rw [hm0]; rfl
 have hl0 : v.l = [] := may_nol hm (by omega)
 have hlz : v.l.length = 0 := by rw [hl0]; rfl
 rw [hkl] at hvs hkn
 have htl := tL_len v.l (id + 1)
 have hlnn := lsize_nn v.l
 have hl00 : lsize v.l = 0 := by rw [hl0]; rfl
 refine ACalls_body Try.func7 rfl Try.ntmps7 (res1 Try.results7) (Nat.le_of_ble_eq_true rfl) (fun hcl hal => ?_)
 rw [tcells_x v id, hkl]
 refine zw1 ?_
 refine AWp_seq ?_
 refine zu4 ?_
 refine ztG rfl rfl (op_gtrF rfl rfl rfl (by omega)) ?_
 refine zg6 ?_
 refine ztG rfl rfl (op_lenMap rfl rfl Try.underlying35 rfl hqs) ?_
 refine ztG rfl rfl (op_gtrF rfl rfl rfl (by omega)) ?_
 refine zv1 ?_
 refine AWp_condF rfl ?_
 refine AWp_skip ?_
 refine AWp_seq ?_
 refine AWp_seq ?_
 refine AWp_drawL #[0, 1, 3, 7, 15, 31, 63, 127, 255, 511, 1023, 2047, 127, 4223, 12415, 28799, 61567, 131071, 262143, 524287, 1048575, 2097151, 4194303, 8388607, 16777215, 33554431, 67108863, 134217727, 268435455, 536870911, 1073741823, 2147483647, 4294967295, 8589934591, 17179869183, 34359738367, 68719476735, 137438953471, 274877906943, 549755813887, 1099511627775, 2199023255551, 4398046511103, 8796093022207, 17592186044415, 35184372088831, 70368744177663, 140737488355327, 281474976710655, 562949953421311, 1125899906842623, 2251799813685247, 4503599627370495, 9007199254740991, 18014398509481983, 36028797018963967, 72057594037927935, 144115188075855871, 4503599627370495, 292733975779082239, 869194728082505727, 2022116232689352703, 4327959241903046655, 8939645260330434559, 18446744073709551615, 36893488147419103231, 73786976294838206463] Try.mixed (by decide +kernel) (by decide +kernel) ?_
 refine zd4 ?_
 refine zp1 ?_
 refine yA rfl rfl (fun _ => op_eqlF rfl rfl rfl (by omega)) ?_
 refine zd10 ?_
 refine zd8 ?_
 refine zp1 ?_
 refine yAG rfl rfl rfl (fun _ => op_neqT rfl rfl rfl (by omega)) ?_
 refine zd4 ?_
 refine zp1 ?_
 refine zd1 ?_
 refine yAG rfl rfl rfl (fun _ => op_gtrF rfl rfl rfl (by omega)) ?_
 refine zd7 ?_
 refine zp1 ?_
 refine yAG rfl rfl rfl (fun _ => op_lssT rfl rfl rfl (by omega)) ?_
 refine zd4 ?_
 refine zp1 ?_
 refine zd1 ?_
 refine yAG rfl rfl rfl (fun _ => op_gtrF rfl rfl rfl (by omega)) ?_
 refine zd7 ?_
 refine zp1 ?_
 refine zd5 ?_
 refine zp1 ?_
 refine zd2 ?_
 refine yAG rfl rfl rfl (fun _ => op_gtrF rfl rfl rfl (by decide)) ?_
 refine zd1 ?_
 refine RP.nil rfl ?_
 refine AWp_condF rfl ?_
 refine AWp_skip ?_
 refine zw6 ?_
 refine AWp_seq ?_
 refine AWp_seq ?_
 refine AWp_ghostInO 0 6 8 1 rfl rfl rfl ?_
 refine AWp_regL ?_
 refine zv1 ?_
 refine AWp_block ?_
 -- loop 0 LIVE 0:param 1:param 2:param 6:assign 7:alloc 8:assign
 refine AWp_loop (ι := Nat × List AO × Int) (fun z => z.1 ≤ v.l.length ∧ z.2.1 = (σ.set p (.box [.mapv q, .int .i64 frm, .int .i64 (nw + lsize (v.l.take z.1)), .int .i64 (z.2.2)])).set q (.map (imap (M ++ seenL (v.l.take z.1) (id + 1)))) ∧ ((z.1 = 0 ∧ z.2.2 = lst) ∨ (0 < z.1 ∧ z.2.2 = max lst (id + lsize (v.l.take z.1))))) (fun z => ⟨[], [(0, .ptr p 0), (1, .pp [.int .i64 id, .int .i64 v.kind, .bool v.b, .bool v.n.neg, .str v.n.digits, .int .i64 v.n.exp, .str v.s, .nils, .nils, .sl false 1 (krow v.m), .sl false 1 (tL v.l (id + 1))]), (2, .int .i64 deep), (7, .ptr (z.2.1.length + 0) 0), (8, .int .i64 (z.1 : Int))]⟩) (fun z => z.2.1 ++ [.box [.int .i64 v.kind, .bool v.b, .bool v.n.neg, .str v.n.digits, .int .i64 v.n.exp, .str v.s, .arr (z.2.1.length + 1) z.1 8 0 z.1, .nils], .arr 8 z.1 (lcells (v.l.take z.1)).flatten]) (fun z => v.l.length - z.1) ((0, σ, lst)) (⟨Nat.zero_le _, by simp only [List.take_zero, lsize, seenL, List.append_nil, Int.add_zero]; exact (s2_same hps hqs).symm, .inl ⟨rfl, rfl⟩⟩) ?_ rfl (fun z hz => ?_)
 ·exact ⟨rfl, rfl, rfl, rfl, rfl, rfl, trivial⟩
 obtain ⟨i, τ, ls⟩ := z
 obtain ⟨hz1, hτ, hz3⟩ := hz
 simp only at hz1 hτ hz3 ⊢
 have hτl : τ.length = σ.length := by rw [hτ]; simp
 have hpt : p < τ.length := by omega
 have hqt : q < τ.length := by omega
 have hτp : τ[p]? = some (.box [.mapv q, .int .i64 frm, .int .i64 (nw + lsize (v.l.take i)), .int .i64 (ls)]) := by rw [hτ]; exact s2_p hpq hpl
 have hτq : τ[q]? = some (.map (imap (M ++ seenL (v.l.take i) (id + 1)))) := by rw [hτ]; exact s2_q hql
 have hτc : closed τ.length τ := by rw [hτl, hτ]; exact s2_closed hcl (by simp [AO.cells, AV.ltL, AV.lt]; omega) (hP.lt _ _)
 refine AWp_seq ?_
 refine zw7 ?_
 refine AWp_cond rfl (fun h1 => ?_) (fun h1 => ?_)
 ·(try rw [h1]); replace h1 := zcl h1
  exfalso; omega
 ·(try rw [h1]); replace h1 := zcl h1
  refine AWp_exit ?_
  refine AWp_seq ?_
  have hie : i = v.l.length := by omega
  subst hie
  have htk : v.l.take v.l.length = v.l := List.take_of_length_le (by omega)
  rw [htk] at hτ hτp hτq
  rw [List.take_length]
  refine AWp_freezeInO 0 6 1 v.l.length 8 v.l.length rfl rfl rfl (lcells v.l) rfl (lrow_len _) (lcells_length _) (by decide) ?_
  refine AWp_boxLeO 0 (bs' := [.int .i64 v.kind, .bool v.b, .bool v.n.neg, .str v.n.digits, .int .i64 v.n.exp, .str v.s, .sl false 8 (lcells v.l), .sl false 9 (mcells [])]) rfl ⟨AVle.refl _, AVle.refl _, AVle.refl _, AVle.refl _, AVle.refl _, AVle.refl _, AVle.refl _, nilM, trivial⟩ ?_
  have hvc : vcells v = [.int .i64 v.kind, .bool v.b, .bool v.n.neg, .str v.n.digits, .int .i64 v.n.exp, .str v.s, .sl false 8 (lcells v.l), .sl false 9 (mcells [])] := by rw [vcells_eq v, hm0]
  refine AWp_drawL #[0, 1, 3, 7, 0, 16, 48, 112, 255, 511, 1023, 1023, 0, 6143, 16383] Try.mixed (by decide +kernel) (by decide +kernel) ?_
  refine zd3 ?_
  refine zp1 ?_
  refine zd3 ?_
  refine zp1 ?_
  refine yP rfl rfl (op_lookupI2N rfl Try.underlying35 Try.underlying3 Try.zeroValue28 rfl rfl (get_old hτq) (hP.none v.l)) (trivial) ?_
  refine zd3 ?_
  refine yE rfl rfl (zoa) (⟨.inr (op_lookupI2N rfl Try.underlying35 Try.underlying3 Try.zeroValue28 rfl rfl (get_old hτq) (hP.none v.l)), ⟨.inr zoa, ⟨.inr zoa, trivial⟩⟩⟩) (trivial) ?_
  refine yEN rfl rfl rfl (zoa) (⟨.inl rfl, ⟨.inl rfl, ⟨.inl rfl, trivial⟩⟩⟩) (⟨rfl, trivial⟩) ?_
  refine zd1 ?_
  refine RP.nil rfl ?_
  refine zu2 ?_
  refine zt rfl (zc rfl (lsame_c v _ _ hvc hjb (by omega))) ?_
  refine zv1 ?_
  refine AWp_seq ?_
  refine zw5 ?_
  refine AWp_condF rfl ?_
  refine AWp_skip ?_
  refine AWp_seq ?_
  refine AWp_seq ?_
  refine AWp_drawL #[0, 1, 3, 7, 15, 31, 63, 7, 135, 391, 903, 2047, 4095] Try.mixed (by decide +kernel) (by decide +kernel) ?_
  refine zd6 ?_
  refine zp1 ?_
  refine zd3 ?_
  refine zp1 ?_
  refine yAG rfl rfl rfl (fun _ => op_geqT rfl rfl rfl (by omega)) ?_
  refine zd1 ?_
  refine RP.nil rfl ?_
  refine AWp_condT rfl ?_
  refine AWp_regL ?_
  refine zg7 ?_
  refine ztN rfl rfl (op_storeP (r := [.mapv q, .int .i64 frm, .int .i64 (nw + lsize v.l + 1), .int .i64 ls]) rfl Try.sizeOf3 rfl rfl rfl (get_old hτp) rfl (by decide)) ?_
  obtain ⟨τ3, ht3⟩ : ∃ t, t = τ.set p (.box [.mapv q, .int .i64 frm, .int .i64 (nw + lsize v.l + 1), .int .i64 (ls)]) := ⟨_, rfl⟩
  rw [set1_app hpt, ← ht3]
  have hl3 : τ3.length = τ.length := by rw [ht3]; simp
  rw [← hl3]
  have h3p : τ3[p]? = some (.box [.mapv q, .int .i64 frm, .int .i64 (nw + lsize v.l + 1), .int .i64 (ls)]) := by rw [ht3]; exact get_set hpt
  have h3q : τ3[q]? = some (.map (imap (M ++ seenL v.l (id + 1)))) := by rw [ht3, List.getElem?_set, if_neg hpq]; exact hτq
  refine zon ?_
  refine AWp_seq ?_
  refine AWp_drawL #[0, 1, 3, 7, 0, 16, 48, 112, 0, 511] Try.mixed (by decide +kernel) (by decide +kernel) ?_
  refine zd3 ?_
  refine zp1 ?_
  refine zd3 ?_
  refine zp2 ?_
  refine yEN rfl rfl rfl (op_mapUpdI rfl Try.underlying35 Try.underlying3 rfl rfl rfl (get_old h3q) (hP.none v.l)) (⟨.inl rfl, ⟨.inl rfl, ⟨.inl rfl, trivial⟩⟩⟩) (trivial) ?_
  obtain ⟨τ4, ht4⟩ : ∃ t, t = τ3.set q (.map (imap (M ++ seenL v.l (id + 1) ++ [(id, .agg (vcells v))]))) := ⟨_, rfl⟩
  rw [← hvc, set1_app (by omega), ← ht4]
  have hl4 : τ4.length = τ3.length := by rw [ht4]; simp
  have h4p : τ4[p]? = some (.box [.mapv q, .int .i64 frm, .int .i64 (nw + lsize v.l + 1), .int .i64 (ls)]) := by rw [ht4, List.getElem?_set, if_neg (Ne.symm hpq)]; exact h3p
  refine RP.nil rfl ?_
  refine AWp_seq ?_
  refine AWp_drawL #[0, 0, 2, 6, 14, 0, 32, 96, 224, 510, 1023, 2047, 4095] Try.mixed (by decide +kernel) (by decide +kernel) ?_
  refine zd4 ?_
  refine zp1 ?_
  refine zd3 ?_
  refine zp1 ?_
  refine zd3 ?_
  refine yEN rfl rfl rfl (op_storeP (r := [.mapv q, .int .i64 frm, .int .i64 (nw + lsize v.l + 1), .int .i64 (max ls id)]) rfl Try.sizeOf3 rfl rfl rfl (get_old h4p) rfl (by decide)) (⟨.inl rfl, ⟨.inl rfl, trivial⟩⟩) (trivial) ?_
  rw [set1_app (by omega)]
  refine RP.nil rfl ?_
  refine zw1 ?_
  refine zrt ?_
  have hls : max ls id = max lst (id + jsize v - 1) := by
   rcases hz3 with ⟨h0, h9⟩ | ⟨h0, h9⟩
   ·have : lsize v.l = 0 := by rw [← htk, h0]; rfl
    omega
   ·rw [htk] at h9; omega
  have hfin : τ4.set p (.box [.mapv q, .int .i64 frm, .int .i64 (nw + lsize v.l + 1), .int .i64 (max ls id)]) = spost σ p q v id frm nw lst M := by unfold spost; rw [ht4, ht3, hτ, s2_chain hpq, hls, seenV_k, hkl, ← List.append_assoc, show nw + lsize v.l + 1 = nw + jsize v by omega]
  rw [hfin]
  have hfl : (spost σ p q v id frm nw lst M).length = σ.length := by unfold spost; simp
  refine ResQ_K (v := .int .i64 1) σ.length (Nat.le_refl _) rfl ?_ trivial ?_
  ·have hcc : closed (spost σ p q v id frm nw lst M).length (spost σ p q v id frm nw lst M) := by rw [hfl]; exact s2_closed hcl (by simp [AO.cells, AV.ltL, AV.lt]; omega) (imap_lt _ _ fun b hb => (List.mem_append.1 hb).elim (hP.ml _ b) (seenV_lt _ _ _ b))
   rw [← hfl]
   exact closed_old hcc
  ·rw [List.take_left' hfl]; exact ⟨rfl, rfl⟩
end Lg
set_option maxRecDepth 20000
set_option maxHeartbeats 4000000
namespace Lg
open Go Go.Proofs Go.RowKit
variable [GLay] 
theorem peek_c (s : ByteArray) (at0 deep bad spot : Int) (p : Nat) (σ : List AO) (hσ : σ[p]? = some (.box [.str s, .int .i64 at0, .int .i64 deep, .int .i64 bad, .int .i64 spot])) (h0 : 0 ≤ at0) : ACalls Try.prog 18 [.ptr p 0] σ (Ret (.int .i64 (pkv s at0 bad)) σ) := by
 refine ACalls_body Try.func18 rfl Try.ntmps18 (res1 Try.results18) (Nat.le_of_ble_eq_true rfl) (fun hcl hal => ?_)
 have hbl := bat_lt s at0.toNat
 refine zw1 ?_
 refine AWp_seq ?_
 refine AWp_seq ?_
 refine AWp_drawL #[0, 1, 3, 7, 15, 31, 63, 127, 255, 511, 63, 1087, 3135, 7231, 15423, 32767, 65535] Try.mixed (by decide +kernel) (by decide +kernel) ?_
 refine zd3 ?_
 refine zp1 ?_
 refine zd2 ?_
 refine zspr 8 rfl (fun h1 => ?_) fun h1 => ?_
 ·rw [h1]; replace h1 := zcl h1
  refine zd10 ?_
  refine zd1 ?_
  refine RP.nil rfl ?_
  refine AWp_condT rfl ?_
  refine zw1 ?_
  refine zrt ?_
  refine ResQ_10 rfl hcl trivial (Ret_of ?_)
  congr 1; unfold pkv; first | (rw [if_pos (by omega)]; done) | (rw [if_neg (by omega)]; done)
 ·rw [h1]; replace h1 := zcl h1
  refine zd3 ?_
  refine zp1 ?_
  refine zd3 ?_
  refine zp1 ?_
  refine zd3 ?_
  refine RP.nil rfl ?_
  refine AWp_cond rfl (fun h2 => ?_) (fun h2 => ?_)
  ·(try rw [h2]); replace h2 := zcl h2
   refine zw1 ?_
   refine zrt ?_
   refine ResQ_10 rfl hcl trivial (Ret_of ?_)
   congr 1; unfold pkv; first | (rw [if_pos (by omega)]; done) | (rw [if_neg (by omega)]; done)
  ·(try rw [h2]); replace h2 := zcl h2
   refine AWp_skip ?_
   refine AWp_seq ?_
   refine AWp_drawL #[0, 1, 3, 7, 0, 16, 48, 112, 255, 511, 1023] Try.mixed (by decide +kernel) (by decide +kernel) ?_
   refine zd3 ?_
   refine zp1 ?_
   refine zd3 ?_
   refine zp1 ?_
   refine zd3 ?_
   refine RP.nil rfl ?_
   refine zrt ?_
   refine ResQ_10 rfl hcl trivial (Ret_of ?_)
   congr 1; unfold pkv; first | (rw [if_pos (by omega)]; done) | (rw [if_neg (by omega)]; done)
end Lg
set_option maxRecDepth 20000
set_option maxHeartbeats 4000000
namespace Lg
open Go Go.Proofs Go.RowKit
variable [GLay] 
theorem fail_c (s : ByteArray) (at0 deep bad spot : Int) (p : Nat) (σ : List AO) (hσ : σ[p]? = some (.box [.str s, .int .i64 at0, .int .i64 deep, .int .i64 bad, .int .i64 spot])) (a b : Int) : ACalls Try.prog 15 [.ptr p 0, .int .i64 a, .int .i64 b] σ (Ret (.tup []) (σ.set p (.box [.str s, .int .i64 at0, .int .i64 deep, .int .i64 (if bad = 0 then b else bad), .int .i64 (if bad = 0 then a else spot)]))) := by
 have hp : p < σ.length := (List.getElem?_eq_some_iff.1 hσ).1
 refine ACalls_body Try.func15 rfl Try.ntmps15 (res0 Try.results15) (Nat.le_of_ble_eq_true rfl) (fun hcl hal => ?_)
 refine AWp_heap (set_same hσ) ?_
 refine zw5 ?_
 refine AWp_cond rfl (fun h1 => ?_) (fun h1 => ?_)
 ·(try rw [h1]); replace h1 := zcl h1
  refine zw5 ?_
  refine AWp_regL ?_
  refine zv5 ?_
  (try simp only [blockQ, thenQ])
  rw [if_pos h1, if_pos h1]
  exact ResQ_N0 (x := .box [.str s, .int .i64 at0, .int .i64 deep, .int .i64 b, .int .i64 a]) hcl (by simp [AO.cells, AV.ltL, AV.lt]) ⟨rfl, rfl⟩
 ·(try rw [h1]); replace h1 := zcl h1
  refine AWp_skip ?_
  (try simp only [blockQ, thenQ])
  rw [if_neg h1, if_neg h1]
  exact ResQ_N0 hcl (by simp [AO.cells, AV.ltL, AV.lt]) ⟨rfl, rfl⟩
end Lg
