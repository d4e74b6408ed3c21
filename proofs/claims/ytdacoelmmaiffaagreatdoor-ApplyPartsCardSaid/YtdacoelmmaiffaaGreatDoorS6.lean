/- A part of the proof of For every input the law doubletlaw09.ApplyParts returns true: a patch's beginning, and then the rest, is the patch: the same value, or the same error at the same operation; the value stays as it is; a test of what is there changes nothing; the input reads as it did.: Lg48 Lg49 Lg53 Le5 Le6 Le7 Le8 Le9 Le10 Le11 Le12 Le13 Le14 Lj1 Lj2 J1 M1 Q1 Lg35 E0 W5. -/
import Derived.Test.YtdacoelmmaiffaaGreatDoorS5
import Derived.Test.YtdacoelmmaiffaaGreatDoorS3
import Derived.Test.YtdacoelmmaiffaaGreatDoorS4
import Derived.Lib.Overlaps
set_option linter.unusedVariables false
set_option linter.unusedSimpArgs false
set_option linter.unusedSectionVars false
namespace Lg
open Go Go.RowKit
variable [GLay]
variable {P : Program} {N : Nat} {e : Env} {σ l : List AO} {Q : QA} {o : Oper}
theorem op_copyA {x y : Operand} {t u E : TypeId} {sz m n p g off len : Nat} {cs ds : List AV} {yv : AV} (ho : o.op = .call { callee := .builtin .copy, args := #[x, y], argTypes := #[t, u] }) (ht : P.underlying t = some (.slice E)) (hsz : ∀ w, (Go.sizeOf E).run P w = Result.ok sz w)
    (hx : opO e x = some (.arr p g sz off len)) (hσ : σ[p]? = some (.arr sz g cs)) (hlen : 0 < len) (hsz0 : sz ≠ 0) (hfit : (off + len) * sz ≤ cs.length) (hy : opO e y = some yv) (hsrc : SrcN P σ yv sz m n ds) (hn : min m len = n) (hds : ds.length = n * sz) (h1 : ones ds = true) :
    AOp P σ e o (.int .i64 n) (σ.set p (.arr sz g (cs.take (off * sz) ++ ds ++ cs.drop (off * sz + ds.length)))) :=
  op_copyN ho ht hsz hx hσ hlen hsz0 hfit hy hsrc hn hds (fun a ha => .inl ((ones_iff _).1 h1 a ha)) (fun s vs hp _ _ _ => one_of_pw hp h1)
theorem run_appendZ {w : World} {t u ty E : TypeId} {i : TypeInfo} {z : Value} {A : Option Addr} {sLen sCap k : Nat} {olds : List Value}
    (ht : P.underlying t = some (.slice E)) (hu : P.underlying u = some (.int .i64)) (hi : P.info? E = some i) (hz : i.zero = some z) (hz0 : z.cells.size = i.size)
    (hfo : (Builtin.firstCells i.size sLen (.slice A sLen sCap)).run P w.drew = .ok olds.toArray w.drew)
    (hroom : sCap < sLen + k) (h63 : sLen + k ≤ 9223372036854775807) (hby : (sLen + k) * i.bytes ≤ 140737488355328) :
    ∃ rest : List Value, ∃ cap : Nat, sLen + k ≤ cap ∧ rest.length = (cap - sLen) * z.cells.size ∧ (Builtin.append_ #[t, u] ty #[.slice A sLen sCap, .int .i64 k]).run P w =
      .ok (.slice (some ⟨w.heap.size, 0, none⟩) (sLen + k) cap) (w.drew.alloc (.cells (olds ++ rest).toArray E (0, 0))) := by
  have hn : ¬ (sLen + k ≤ sCap) := by omega
  have hfit := growslice_fits (need := sLen + k) (old := sCap) (bytes := i.bytes) hroom hby
  have hkb : k * i.bytes ≤ 140737488355328 := Nat.le_trans (Nat.mul_le_mul_right _ (by omega)) hby
  have h48' : ¬ (281474976710656 < Builtin.nextslicecap (sLen + k) sCap * i.bytes) := by omega
  have hk63 : k ≤ 9223372036854775807 := by omega
  have hwr : IntKind.i64.wrap (k : Int) = k := wrap64_in (by omega) (by omega)
  have h63' : ¬ (9223372036854775807 < ((sLen : Int) + (k : Int))) := by omega
  have hneg : ¬ ((k : Int) < 0) := by omega
  have hlk : ¬ ((281474976710656 : Int) < (k : Int) * (i.bytes : Int)) := by
    have h0 : ((k * i.bytes : Nat) : Int) ≤ ((140737488355328 : Nat) : Int) := Int.ofNat_le.2 hkb
    rw [Int.natCast_mul] at h0
    generalize (k : Int) * (i.bytes : Int) = q at h0 ⊢
    omega
  have hmax : max (k : Int) 0 = k := by omega
  have hge := grownCap_ge w (sLen + k) sCap E
  refine ⟨((if k * i.size = 0 then #[] else Builtin.zeroCells z.cells k) ++ Builtin.zeroCells z.cells (grownCap w (sLen + k) sCap E - (sLen + k))).toList, grownCap w (sLen + k) sCap E, hge, ?_, ?_⟩
  · rw [Array.length_toList, Array.size_append, size_zeroCells]
    have : (if k * i.size = 0 then (#[] : Array Value) else Builtin.zeroCells z.cells k).size = k * z.cells.size := by
      split
      · rename_i h; rw [hz0, h]; rfl
      · exact size_zeroCells _ _
    rw [this, ← Nat.add_mul]; congr 1; omega
  · simp only [Builtin.append_, List.getElem?_toArray, List.getElem?_cons_zero, List.getElem?_cons_succ]
    by_cases hk0 : k * i.size = 0
    · simp [run_underlying ht, run_underlying hu, Go.sizeOf, typeInfo, zeroValue, hi, hz, hn, h48', asInt, asIntOf, hwr, hmax, hneg, hlk, h63', hk0, Question.forced, hfo, newRow, grownCap]
      congr 2
      apply Array.ext'
      simp
    · simp [run_underlying ht, run_underlying hu, Go.sizeOf, typeInfo, zeroValue, hi, hz, hn, h48', asInt, asIntOf, hwr, hmax, hneg, hlk, h63', hk0, Question.forced, hfo, newRow, grownCap]
      congr 2
      apply Array.ext'
      simp

theorem op_appendZ {x y : Operand} {t u E : TypeId} {i : TypeInfo} {z : Value} {sz p g off len cap k : Nat} {cs : List AV} (ho : o.op = .call { callee := .builtin .append, args := #[x, y], argTypes := #[t, u] })
    (ht : P.underlying t = some (.slice E)) (hu : P.underlying u = some (.int .i64)) (hi : P.info? E = some i) (hz : i.zero = some z) (hsz : i.size = sz) (hzs : z.cells.size = sz)
    (hx : opO e x = some (.arrC p g sz off len cap)) (hσ : σ[p]? = some (.arr sz g cs)) (hsz0 : sz ≠ 0) (hc0 : 0 < cap) (hfit : (off + len) * sz ≤ cs.length) (hy : opO e y = some (.int .i64 k)) (hroom : cap < len + k) (hby : (len + k) * i.bytes ≤ 140737488355328) (h63 : len + k ≤ 9223372036854775807) :
    AOp P σ e o (.arr σ.length 0 sz 0 (len + k)) (σ ++ [.arr sz 0 ((cs.drop (off * sz)).take (len * sz) ++ List.replicate (k * sz) .any)]) := by
  intro s a hs gd hv K Q hk _
  subst hs
  subst hsz
  have hxv := (opO_eq hx ▸ hv x (by simp [ho, Op.operands, Call.operands])).inv_arrC hσ
  have hyv := (opO_eq hy ▸ hv y (by simp [ho, Op.operands, Call.operands])).inv_int
  obtain ⟨_, hA, hlc, hft⟩ := hxv
  have hlive : s.live p := by
    unfold CS.live; rw [hσ]
    show (s.μ p).tot ≠ 0
    have : 0 < (off + cap) * i.size := Nat.mul_pos (by omega) (Nat.pos_of_ne_zero hsz0)
    omega
  obtain ⟨_, vs, T, hb, ht0, h7, h8, hpv⟩ := gd.rep hσ hlive
  have hfl : off * i.size + len * i.size ≤ cs.length := by rw [← Nat.add_mul]; exact hfit
  have hpo := (hpv.drop (off * i.size)).take (len * i.size)
  have hol := hpo.1.trans (show _ = len * i.size by rw [List.length_take, List.length_drop]; omega)
  obtain ⟨rest, cap', hc1, hc2, hrun⟩ := run_appendZ (ty := o.type) (A := some ⟨(s.μ p).b, (s.μ p).base + off * i.size, none⟩) (sLen := len) (sCap := cap) (k := k) (w := s.w) ht hu hi hz (by rw [hzs]) (run_firstCells_some s.w.drew i.size len _ len cap _ hol fun j v hj => by
    rw [add_none]
    rw [List.getElem?_take] at hj
    split at hj
    · rw [List.getElem?_drop, List.getElem?_take] at hj
      split at hj
      · rw [List.getElem?_drop] at hj
        show s.w.cell? _ = _
        rw [cells_get hb, Nat.add_assoc]; exact hj
      · cases hj
    · cases hj) hroom h63 hby
  generalize hol2 : List.take (len * i.size) (List.drop (off * i.size) (List.take cs.length (List.drop (s.μ p).base vs))) = olds at hrun hpo hol
  have hkl : k * i.size ≤ rest.length := by rw [hc2, hzs]; exact Nat.mul_le_mul_right _ (by omega)
  have hL : ((cs.drop (off * i.size)).take (len * i.size) ++ List.replicate (k * i.size) AV.any).length = len * i.size + k * i.size := by simp; omega
  obtain ⟨s', e1, e2, g', x', hμ⟩ := gd.newArr (sz := i.size) (cs := (cs.drop (off * i.size)).take (len * i.size) ++ List.replicate (k * i.size) .any) (vs := olds ++ rest) (by
    rw [hL, ← hol, List.take_length_add_append, hol]
    exact hpo.append (PW.anysN (by rw [List.length_take]; omega))) (by rw [hL, List.length_append, hol]; omega) E (w := s.w.drew) (Below.refl _ _).drew rfl
  refine wp_value (w' := s'.w) (cv := .slice (some ⟨s.w.heap.size, 0, none⟩) (len + k) cap') ?_ (hk _ _ s' ⟨rfl, e1⟩ g' x' ?_)
  · rw [e2]
    simp only [execOp, ho, resolve, invoke, builtin, Sem.run_bind, Sem.run_pure, Result.andThen_ok, List.map_toArray, List.map_cons, List.map_nil, hA, hyv]
    rw [hrun]; rfl
  · refine V.newArr (cs := (cs.drop (off * i.size)).take (len * i.size) ++ List.replicate (k * i.size) .any) (by rw [e1]; simp) hμ hc1 ?_
    rw [List.length_append, hol, hc2, hzs, ← Nat.add_mul]
    exact Nat.mul_le_mul_right _ (by omega)

theorem op_appendIn {x y : Operand} {t u E : TypeId} {i : TypeInfo} {z : Value} {d : TypeDesc} {sz p g off len cap m : Nat} {cs ds : List AV} {yv : AV} (ho : o.op = .call { callee := .builtin .append, args := #[x, y], argTypes := #[t, u] })
    (hd : d = .string ∨ ∃ E', d = .slice E') (ht : P.underlying t = some (.slice E)) (hu : P.underlying u = some d) (hi : P.info? E = some i) (hsz : i.size = sz)
    (hx : opO e x = some (.arrC p g sz off len cap)) (hσ : σ[p]? = some (.arr sz g cs)) (hsz0 : sz ≠ 0) (hc0 : 0 < cap) (hy : opO e y = some yv) (hsrc : SrcN P σ yv sz m m ds) (hds : ds.length = m * sz) (h1 : ones ds = true) (hroom : len + m ≤ cap) (hfit : (off + (len + m)) * sz ≤ cs.length) :
    AOp P σ e o (.arrC p g sz off (len + m) cap) (σ.set p (.arr sz g (cs.take (off * sz + len * sz) ++ ds ++ cs.drop (off * sz + len * sz + ds.length)))) := by
  intro s a hs gd hv K Q hk _
  subst hs
  subst hsz
  have hplt : p < s.σ.length := (List.getElem?_eq_some_iff.1 hσ).1
  have hxv := (opO_eq hx ▸ hv x (by simp [ho, Op.operands, Call.operands])).inv_arrC hσ
  have hyv := opO_eq hy ▸ hv y (by simp [ho, Op.operands, Call.operands])
  obtain ⟨_, hA, hlc, hft⟩ := hxv
  have hlive : s.live p := by
    unfold CS.live; rw [hσ]
    show (s.μ p).tot ≠ 0
    have : 0 < (off + cap) * i.size := Nat.mul_pos (by omega) (Nat.pos_of_ne_zero hsz0)
    omega
  obtain ⟨_, vs, T, hb, ht0, h7, h8, hpv⟩ := gd.rep hσ hlive
  obtain ⟨ws, hp, hl, hf⟩ := hsrc s _ rfl gd hyv
  have hwl : ws.length = ds.length := hp.1
  have hfl : off * i.size + len * i.size + m * i.size ≤ cs.length := by rw [Nat.add_assoc, ← Nat.add_mul, ← Nat.add_mul]; exact hfit
  have hrun := run_append_room' (ty := o.type) (b := (s.μ p).b) (off := (s.μ p).base + off * i.size) (sLen := len) (sCap := cap) (x := a.eval y) (news := ws) (cur := vs) (T := T) hd ht hu hi hl hf hroom hb (by omega) (one_of_pw hp h1)
  rw [show (s.μ p).base + off * i.size + len * i.size = (s.μ p).base + (off * i.size + len * i.size) by omega] at hrun
  have hsp := splice_list (vs := vs) (news := ws) (base := (s.μ p).base) (i := off * i.size + len * i.size) (L := cs.length) (by omega) (by omega)
  have hps := hpv.splice hp (off * i.size + len * i.size)
  have hcl : (cs.take (off * i.size + len * i.size) ++ ds ++ cs.drop (off * i.size + len * i.size + ds.length)).length = cs.length := by
    simp only [List.length_append, List.length_take, List.length_drop]; omega
  obtain ⟨s', e1, e2, g', x', hμ, hok⟩ := gd.setObj hσ hlive (o' := .arr i.size g (cs.take (off * i.size + len * i.size) ++ ds ++ cs.drop (off * i.size + len * i.size + ds.length))) (.arr _ _ _ _ _ (Nat.le_refl _) fun _ => hcl.symm) rfl
    (vs := vs.take ((s.μ p).base + (off * i.size + len * i.size)) ++ ws ++ vs.drop ((s.μ p).base + (off * i.size + len * i.size) + ws.length)) ⟨ht0, by simp only [List.length_append, List.length_take, List.length_drop]; omega, by rw [hcl]; exact h8, by rw [hcl, hsp]; exact hps⟩
  refine wp_value (w' := s'.w) (cv := .slice (some ⟨(s.μ p).b, (s.μ p).base + off * i.size, none⟩) (len + m) cap) ?_ (hk _ _ s' ⟨rfl, e1⟩ g' x' ?_)
  · rw [e2]
    simp only [execOp, ho, resolve, invoke, builtin, Sem.run_bind, Sem.run_pure, Result.andThen_ok, List.map_toArray, List.map_cons, List.map_nil, hA]
    rw [hrun]; rfl
  · refine .arrC _ _ _ _ _ _ _ rfl (.mk (cs := cs.take (off * i.size + len * i.size) ++ ds ++ cs.drop (off * i.size + len * i.size + ds.length)) (by rw [e1]; simp [hplt]) ⟨rfl, by rw [hμ], hroom, by rw [hμ]; exact hft⟩)
theorem op_clearA {x : Operand} {t E : TypeId} {z : Value} {sz p g off len : Nat} {cs : List AV} {c : Array TypeId} (ho : o.op = .call { callee := .builtin .clear, args := #[x], argTypes := c }) (hc : c[0]? = some t) (ht : P.underlying t = some (.slice E)) (hz : ∀ w, (zeroValue E).run P w = Result.ok z w) (hzs : z.cells.size = sz) (hz1 : ∀ v ∈ z.cells.toList, v.oneCell' = true)
    (hx : opO e x = some (.arr p g sz off len)) (hσ : σ[p]? = some (.arr sz g cs)) (hlen : 0 < len) (hsz0 : sz ≠ 0) (hfit : (off + len) * sz ≤ cs.length) :
    AOp P σ e o (.tup []) (σ.set p (.arr sz g (cs.take (off * sz) ++ List.replicate (len * sz) .any ++ cs.drop (off * sz + len * sz)))) := by
  intro s a hs gd hv K Q hk _
  subst hs
  have hxv := (opO_eq hx ▸ hv x (by simp [ho, Op.operands, Call.operands])).inv_arr hσ
  obtain ⟨_, ⟨A, hA, h0⟩ | ⟨cap, hA, hlc, hft⟩⟩ := hxv
  · omega
  · have hlive : s.live p := by
      unfold CS.live; rw [hσ]
      show (s.μ p).tot ≠ 0
      have : 0 < (off + cap) * sz := Nat.mul_pos (by omega) (Nat.pos_of_ne_zero hsz0)
      omega
    obtain ⟨_, vs, T, hb, ht0, h7, h8, hpv⟩ := gd.rep hσ hlive
    have hfl : off * sz + len * sz ≤ cs.length := by rw [← Nat.add_mul]; exact hfit
    have hwl : (Builtin.zeroCells z.cells len).toList.length = len * sz := by rw [Array.length_toList, size_zeroCells, hzs]
    have hw1 : ∀ v ∈ (Builtin.zeroCells z.cells len).toList, v.oneCell' = true := by
      intro v hv
      simp only [Builtin.zeroCells, Array.toList_map, List.mem_map, Array.toList_range, List.mem_range] at hv
      obtain ⟨j, hj, rfl⟩ := hv
      have hj2 : j % z.cells.size < z.cells.size := Nat.mod_lt _ (by rw [hzs]; omega)
      rw [getElem!_pos z.cells (j % z.cells.size) hj2]
      exact hz1 _ (by simp)
    generalize hws : (Builtin.zeroCells z.cells len).toList = ws at hwl hw1
    obtain ⟨q, rfl⟩ : ∃ q, len = q + 1 := ⟨len - 1, by omega⟩
    have hst := run_storeCells_at P (s.μ p).b ((s.μ p).base + off * sz) T ws 0 vs.toArray s.w hb (by simp; omega) hw1
    simp only [Nat.add_zero] at hst
    have hrun : (Builtin.clear_ c o.type #[.slice (some ⟨(s.μ p).b, (s.μ p).base + off * sz, none⟩) (q + 1) cap]).run P s.w = .ok (.tuple #[]) (s.w.setRow (s.μ p).b (vs.take ((s.μ p).base + off * sz) ++ ws ++ vs.drop ((s.μ p).base + off * sz + ws.length)).toArray) := by
      simp [Builtin.clear_, hc, run_underlying ht, hz, hws, hst]
    have hsp := splice_list (vs := vs) (news := ws) (base := (s.μ p).base) (i := off * sz) (L := cs.length) (by omega) (by omega)
    have hps := hpv.splice (PW.anysN (s := s) hwl) (off * sz)
    rw [List.length_replicate] at hps
    have hcl : (cs.take (off * sz) ++ List.replicate ((q + 1) * sz) AV.any ++ cs.drop (off * sz + (q + 1) * sz)).length = cs.length := by
      simp only [List.length_append, List.length_take, List.length_drop, List.length_replicate]; omega
    obtain ⟨s', e1, e2, g', x', hμ, hok⟩ := gd.setObj hσ hlive (o' := .arr sz g (cs.take (off * sz) ++ List.replicate ((q + 1) * sz) AV.any ++ cs.drop (off * sz + (q + 1) * sz))) (.arr _ _ _ _ _ (Nat.le_refl _) fun _ => hcl.symm) rfl
      (vs := vs.take ((s.μ p).base + off * sz) ++ ws ++ vs.drop ((s.μ p).base + off * sz + ws.length)) ⟨ht0, by simp only [List.length_append, List.length_take, List.length_drop]; omega, by rw [hcl]; exact h8, by rw [hcl, hsp]; exact hps⟩
    refine wp_value (w' := s'.w) (cv := .tuple #[]) ?_ (hk _ _ s' ⟨rfl, e1⟩ g' x' (V.tup (s := s') [] [] rfl (fun i c v h _ => by simp at h)))
    rw [e2]
    simp only [execOp, ho, resolve, invoke, builtin, Sem.run_bind, Sem.run_pure, Result.andThen_ok, List.map_toArray, List.map_cons, List.map_nil, hA]
    rw [hrun]; rfl
end Lg
namespace Lg
open Go Go.RowKit
variable [GLay]
variable {P : Program} {N : Nat} {e : Env} {σ l : List AO} {Q : QA} {o : Oper} {p : Nat} {x y z : AO} {f : FuncId} {args : List AV} {v : AV}
section
variable {T K E : TypeId} {a b c : Operand} {m : List (Int × AV)} {k : Int} {zv : Value}
end
end Lg
namespace Lg
open Go Go.RowKit
variable [GLay]
section
variable {P : Program} {σ : List AO} {e : Env} {o : Oper}
end
end Lg
namespace Lg
open Go Go.RowKit
theorem run_overlaps_half {P : Program} (w : World) (tS tR e : TypeId) (ht : P.underlying tS = some (.slice e)) (size : Nat) (hz : ∀ w, (Go.sizeOf e).run P w = .ok size w)
    (a b : Addr) (la ca lb cb : Nat) (hne : a.block ≠ b.block) (xa xb : Array Value) (tA tB : TypeId) (fr : Nat × Nat)
    (hsa : w.heap[a.block]? = some (.cells xa tA fr)) (hka : xa.size ≠ 0) (hsb : w.heap[b.block]? = some (.cells xb tB (0, 0))) :
    (Extern.SlicesOverlaps.overlaps #[tS, tS] #[tR] #[.slice (some a) la ca, .slice (some b) lb cb]).run P w = .ok (.bool false) w := by
  have hnb : (a.block != b.block) = true := by simpa using hne
  have hnb' : (a.block == b.block) = false := by simpa using hne
  have sa : w.shape? a.block = some (tA, xa.size) := by unfold World.shape?; rw [hsa]
  have sb : w.shape? b.block = some (tB, xb.size) := by unfold World.shape?; rw [hsb]
  have fb : ∀ off sp, w.frozen? ⟨b.block, off, sp⟩ = false := fun off sp => by unfold World.frozen?; rw [hsb]; simp
  have fb' : w.frozen? b = false := fb b.off b.spot
  obtain ⟨ka, hka'⟩ : ∃ k, xa.size = k + 1 := ⟨xa.size - 1, by omega⟩
  change Sem.run P (α := Value) (do
    let some t := (#[tS, tS] : Array TypeId)[0]? | stuck "slices.overlaps: no parameter types"
    let .slice elem ← underlying t | stuck "slices.overlaps: slice type expected"
    let size ← sizeOf elem
    match (some a : Option Addr), (some b : Option Addr) with
    | some a, some b =>
      if la = 0 ∨ lb = 0 ∨ size = 0 then pure (Value.bool false)
      else if a.block != b.block && (← frozen a) && (← frozen b) then unsupported .addressObserved
      else do
        if a.block != b.block then do
          noView a; noView b
          if ← mayBeOne a b then return Value.bool ((← choose (.extern "sameAddr.stringBytes" 2)) == 1)
        pure (Value.bool (a.block == b.block && a.off < b.off + lb * size && b.off < a.off + la * size))
    | _, _ => pure (Value.bool false)) w = _
  by_cases h0 : la = 0 ∨ lb = 0 ∨ size = 0
  · simp [run_underlying ht, hz, h0]
  · rw [hka'] at sa
    by_cases hfa : w.frozen? a = true
    · simp [run_underlying ht, hz, h0, hnb, hnb', frozen, noView, viewAt, mayBeOne, stringish, shape, Sem.run, sa, sb, fb, fb', hfa]
    · simp [run_underlying ht, hz, h0, hnb, hnb', frozen, noView, viewAt, mayBeOne, stringish, shape, Sem.run, sa, sb, fb, fb', hfa]
variable [GLay]
theorem op_overlapsS {P : Program} {σ : List AO} {e : Env} {o : Oper} {f : FuncId} {fn : Func} {x y : Operand} {at_ : Array TypeId} {tS tR E : TypeId} {fl : Bool} {sz p g off len cap : Nat} {r : List AV} {rs : List (List AV)} {cs : List AV} (ho : o.op = .call { callee := .value (.func f), args := #[x, y], argTypes := at_ })
    (hf : P.funcs[f]? = some fn) (hname : (fn.name == "runtime.NumGoroutine") = false) (hb : fn.body.isNone = true) (hnx : Extern.findNext fn = none) (hex : Extern.find fn = some (Extern.SlicesOverlaps.overlaps #[tS, tS] #[tR]))
    (hu : P.underlying tS = some (.slice E)) (hsz : ∀ w, (Go.sizeOf E).run P w = Result.ok sz w) (hx : opO e x = some (.sl fl sz (r :: rs))) (hy : opO e y = some (.arrC p g sz off len cap)) (hp : σ[p]? = some (.arr sz g cs))
    (hsz0 : sz ≠ 0) (hcap : cap ≠ 0) : AOp P σ e o (.bool false) σ :=
  .of_run fun s a hs gd hv => by
    subst hs
    have hxv := (opO_eq hx ▸ hv x (by simp [ho, Op.operands, Call.operands])).inv_sl
    have hyv := (opO_eq hy ▸ hv y (by simp [ho, Op.operands, Call.operands])).inv_arrC hp
    rcases hxv with ⟨ad, hA, hnil⟩ | ⟨b, offx, capx, vs, hA, hok, hel, hcell, hpw, hcapx, _⟩
    · cases hnil
    · obtain ⟨_, hB, hlen, hfit2⟩ := hyv
      have hposp : (s.μ p).tot ≠ 0 := by
        have : 0 < (off + cap) * sz := Nat.mul_pos (by omega) (by omega)
        omega
      have hlp : s.live p := by unfold CS.live; rw [hp]; exact hposp
      obtain ⟨hnok, vp, Tp, bp, rp⟩ := gd.rep hp hlp
      have hokb : s.ok b := hok.resolve_left (by simp)
      have hne : b ≠ (s.μ p).b := fun h => hnok (h ▸ hokb)
      have hrl := hel r (List.mem_cons_self ..)
      have hvl : 0 < vs.length := by
        rw [hpw.1, List.flatten_cons, List.length_append]; omega
      obtain ⟨v0, hv0⟩ : ∃ v, vs[0]? = some v := ⟨_, List.getElem?_eq_getElem hvl⟩
      have hc0 := hcell 0 v0 hv0
      obtain ⟨xa, Ta, fr, hxa, hxs⟩ : ∃ xa Ta fr, s.w.heap[b]? = some (.cells xa Ta fr) ∧ xa.size ≠ 0 := by
        unfold World.cell? at hc0
        simp only at hc0
        split at hc0
        · rename_i xa Ta fr hh
          refine ⟨xa, Ta, fr, hh, fun h0 => ?_⟩
          split at hc0
          · cases hc0
          · rw [Array.getElem?_eq_none (by omega)] at hc0; cases hc0
        · cases hc0
      refine ⟨.bool false, ?_, .bool _⟩
      have hrun := run_overlaps_half (P := P) s.w tS tR E hu sz hsz ⟨b, offx, none⟩ ⟨(s.μ p).b, (s.μ p).base + off * sz, none⟩ (r :: rs).length capx len cap hne xa vp.toArray Ta Tp fr hxa hxs bp
      have hF : a.eval (.func f) = .func (.func f) #[] #[] := rfl
      simp only [execOp, ho, resolve, Sem.run_bind, Sem.run_pure, Result.andThen_ok, List.map_toArray, List.map_cons, List.map_nil, hA, hB, hF, Deferred.ofValue, invoke]
      simp only [Array.append_empty, Array.empty_append]
      rw [run_callFunc_extern hf hname hb hnx hex, hrun]; rfl
end Lg
namespace Lg
open Go
variable {sz : Nat} {rows : List (List AV)} {row : List AV} {i : Nat}
theorem rows_split (i : Nat) : rows.flatten = (rows.take i).flatten ++ (rows.drop i).flatten := by
  rw [← List.flatten_append, List.take_append_drop]
theorem tk_len [GLay] (hel : ∀ r ∈ rows, r.length = sz) (hi : i ≤ rows.length) : (rows.take i).flatten.length = i * sz := by
  rw [flatten_len (fun r hr => hel r (List.mem_of_mem_take hr)), List.length_take, Nat.min_eq_left hi]
theorem dr_len [GLay] (hel : ∀ r ∈ rows, r.length = sz) : (rows.drop i).flatten.length = (rows.length - i) * sz := by
  rw [flatten_len (fun r hr => hel r (List.mem_of_mem_drop hr)), List.length_drop]
theorem ins_flat (i : Nat) : (rows.take i ++ row :: rows.drop i).flatten = (rows.take i).flatten ++ (row ++ (rows.drop i).flatten) := by simp
theorem ins_len (hi : i ≤ rows.length) : (rows.take i ++ row :: rows.drop i).length = rows.length + 1 := by simp; omega
theorem ins_el (hel : ∀ r ∈ rows, r.length = sz) (hr : row.length = sz) : ∀ r ∈ rows.take i ++ row :: rows.drop i, r.length = sz := by
  intro r h
  simp only [List.mem_append, List.mem_cons] at h
  rcases h with h | rfl | h
  · exact hel r (List.mem_of_mem_take h)
  · exact hr
  · exact hel r (List.mem_of_mem_drop h)
theorem cpy {α : Type} {A B C ds : List α} {a : Nat} (h : A.length = a) (hd : ds.length = B.length) : (A ++ (B ++ C)).take a ++ ds ++ (A ++ (B ++ C)).drop (a + ds.length) = A ++ (ds ++ C) := by
  subst h
  rw [List.take_left, List.append_assoc, ← List.drop_drop, List.drop_left, hd, List.drop_left]
theorem cut_mid {α : Type} {A B C : List α} {a b : Nat} (h : A.length = a) (hb : B.length = b) : ((A ++ (B ++ C)).drop a).take b = B := by
  subst h; subst hb
  rw [List.drop_left, List.take_left]
end Lg
namespace Lg
open Go
section
variable [GLay] {σ : List AO} {p : Nat} {X y z : AO}
theorem get_set1 : (σ.set p X ++ [y])[σ.length]? = some y := by
  simp
theorem set_set1 : (σ.set p X ++ [y]).set σ.length z = σ.set p X ++ [z] := by
  simp
theorem get_setB (h : p < σ.length) : (σ.set p X ++ [y])[p]? = some X := get_setA h
theorem set_setB (h : p < σ.length) : (σ.set p X ++ [y]).set p z = σ.set p z ++ [y] := by
  rw [List.set_append_left _ _ (by simpa using h), List.set_set]
end
variable {sz : Nat} {rows : List (List AV)} {row : List AV} {i : Nat}
theorem grow_cells [GLay] {cap : Nat} (hel : ∀ r ∈ rows, r.length = sz) (hi : i < rows.length) :
    ((rows.flatten ++ List.replicate ((cap - rows.length) * sz) AV.any).drop (0 * sz)).take (i * sz) ++ List.replicate ((rows.length + 1 - i) * sz) .any = (rows.take i).flatten ++ (List.replicate sz .any ++ List.replicate ((rows.length - i) * sz) .any) := by
  rw [Nat.zero_mul, List.drop_zero, rows_split i, List.append_assoc, List.take_left' (tk_len hel (by omega)), List.replicate_append_replicate]
  congr 2
  rw [show rows.length + 1 - i = (rows.length - i) + 1 by omega, Nat.add_mul]; omega
theorem room_cells [GLay] {cap : Nat} (hel : ∀ r ∈ rows, r.length = sz) (hi : i < rows.length) (hc : rows.length + 1 ≤ cap) :
    rows.flatten ++ List.replicate ((cap - rows.length) * sz) AV.any = (rows.take i).flatten ++ ((rows.drop i).flatten ++ (List.replicate sz .any ++ List.replicate ((cap - rows.length - 1) * sz) .any)) := by
  obtain ⟨k, rfl⟩ : ∃ k, cap = rows.length + 1 + k := ⟨cap - (rows.length + 1), by omega⟩
  rw [rows_split i, List.append_assoc, List.replicate_append_replicate]
  congr 3
  rw [show rows.length + 1 + k - rows.length = k + 1 by omega, show k + 1 - 1 = k by omega, Nat.add_mul, Nat.one_mul, Nat.add_comm]
end Lg
namespace Lg
open Go
theorem ins_lt [GLay] {rows : List (List AV)} {row : List AV} {i : Nat} (h : ∀ n, AV.ltLL n rows) (h2 : ∀ n, AV.ltL n row) (n : Nat) : AV.ltLL n (rows.take i ++ row :: rows.drop i) := by
  rw [AV.ltLL_iff]
  intro e he
  simp only [List.mem_append, List.mem_cons] at he
  have hh := (AV.ltLL_iff n rows).1 (h n)
  rcases he with he | rfl | he
  · exact hh e (List.mem_of_mem_take he)
  · exact h2 n
  · exact hh e (List.mem_of_mem_drop he)
theorem ones_drop [GLay] {rows : List (List AV)} (i : Nat) (h : ones rows.flatten = true) : ones (rows.drop i).flatten = true := by
  rw [ones_iff] at h ⊢
  intro a ha
  exact h a (by rw [rows_split i]; exact List.mem_append_right _ ha)
theorem ins_end {rows : List (List AV)} {row : List AV} : rows.take rows.length ++ row :: rows.drop rows.length = rows ++ [row] := by simp
theorem AWp_freezeC [GLay] {P : Program} {N : Nat} {σ : List AO} {e : Env} {c : Code} {Q : QA} (t p gg sz n : Nat) (es : List (List AV)) {cs : List AV} (hl : lookO e.l t = some (.arr p gg sz 0 n)) (hp : σ[p]? = some (.arr sz gg cs)) (hes : es.flatten = cs.take (n * sz)) (hel : ∀ r ∈ es, r.length = sz) (hn : es.length = n) (hsz : sz ≠ 0) (hfit : n * sz ≤ cs.length)
    (h : AWp P N c (e.put (some t) (.sl false sz es)) (σ.set p .dead) Q) (ht : t < N) : AWp P N c e σ Q :=
  AWp_freezeArr t p gg sz 0 n hl hp es (by rw [Nat.zero_mul, List.drop_zero]; exact hes) hel hn hsz (by rw [Nat.zero_add]; exact hfit) h ht
end Lg
namespace Lg
open Go
theorem cpy2 {α : Type} {A r B ds : List α} {a : Nat} (h : A.length + r.length = a) (hd : ds.length = B.length) : (A ++ (r ++ B)).take a ++ ds ++ (A ++ (r ++ B)).drop (a + ds.length) = A ++ (r ++ ds) := by
  subst h
  rw [← List.append_assoc A r B, ← List.length_append, List.take_left, ← List.drop_drop, List.drop_left, hd, List.drop_length, List.append_nil, List.append_assoc]
theorem shiftc {α : Type} {A D R E : List α} {a : Nat} (h : A.length = a) : (A ++ (D ++ (R ++ E))).take (a + R.length) ++ D ++ (A ++ (D ++ (R ++ E))).drop (a + R.length + D.length) = A ++ ((D ++ (R ++ E)).take R.length ++ (D ++ E)) := by
  subst h
  rw [List.take_append, List.take_of_length_le (Nat.le_add_right _ _), Nat.add_sub_cancel_left, show A.length + R.length + D.length = A.length + (D.length + R.length) by omega, ← List.drop_drop, List.drop_left, ← List.drop_drop, List.drop_left, List.drop_left]
  simp [List.append_assoc]
theorem src_rows [GLay] {P : Program} {σ : List AO} {p g sz off len i : Nat} {rows : List (List AV)} {X : List AV} (hσ : σ[p]? = some (.arr sz g (rows.flatten ++ X))) (hel : ∀ r ∈ rows, r.length = sz) (hoff : off = i) (hi : i ≤ rows.length) (hlen : rows.length - i ≤ len) (hfit : (off + len) * sz ≤ (rows.flatten ++ X).length) :
    SrcN P σ (.arr p g sz off len) sz len (rows.length - i) (rows.drop i).flatten := by
  subst hoff
  have h := src_arr (P := P) hσ hlen hfit
  rwa [rows_split off, List.append_assoc, cut_mid (tk_len hel hi) (dr_len hel)] at h
end Lg
namespace Lg
theorem shiftc2 {A D E : List AV} {i z : Nat} (h : A.length = i * z) : (A ++ (D ++ (List.replicate z AV.any ++ E))).take ((i + 1) * z) ++ D ++ (A ++ (D ++ (List.replicate z AV.any ++ E))).drop ((i + 1) * z + D.length) = A ++ ((D ++ (List.replicate z AV.any ++ E)).take z ++ (D ++ E)) := by
  have := shiftc (D := D) (R := List.replicate z AV.any) (E := E) h
  rw [List.length_replicate] at this
  rw [Nat.add_mul, Nat.one_mul]; exact this
end Lg
namespace Lg
open Go
theorem src_rows2 [GLay] {P : Program} {σ : List AO} {p g sz off len i : Nat} {rows : List (List AV)} {X : List AV} (hσ : σ[p]? = some (.arr sz g (rows.flatten ++ X))) (hel : ∀ r ∈ rows, r.length = sz) (hoff : off = i) (hi : i ≤ rows.length) (hlen : len = rows.length - i) :
    SrcN P σ (.arr p g sz off len) sz len len (rows.drop i).flatten := by
  have hfl : rows.flatten.length = rows.length * sz := flatten_len hel
  subst hoff; subst hlen
  exact src_rows hσ hel rfl hi (Nat.le_refl _) (by
    rw [List.length_append, hfl, show off + (rows.length - off) = rows.length by omega]; omega)
theorem del_el {sz i : Nat} {rows : List (List AV)} (hel : ∀ r ∈ rows, r.length = sz) : ∀ r ∈ rows.take i ++ rows.drop (i + 1), r.length = sz := by
  intro r h
  rcases List.mem_append.1 h with h | h
  · exact hel r (List.mem_of_mem_take h)
  · exact hel r (List.mem_of_mem_drop h)
theorem del_len {i : Nat} {rows : List (List AV)} (hi : i < rows.length) : (rows.take i ++ rows.drop (i + 1)).length = rows.length - 1 := by simp; omega
theorem del_lt [GLay] {rows : List (List AV)} {i : Nat} (h : ∀ n, AV.ltLL n rows) (n : Nat) : AV.ltLL n (rows.take i ++ rows.drop (i + 1)) := by
  rw [AV.ltLL_iff]
  intro e he
  have hh := (AV.ltLL_iff n rows).1 (h n)
  rcases List.mem_append.1 he with he | he
  · exact hh e (List.mem_of_mem_take he)
  · exact hh e (List.mem_of_mem_drop he)
theorem del_cells [GLay] {sz i : Nat} {rows : List (List AV)} {R ds : List AV} (hel : ∀ r ∈ rows, r.length = sz) (hi : i ≤ rows.length) : (rows.flatten ++ R).take (i * sz) ++ ds ++ (rows.flatten ++ R).drop (i * sz + ds.length) = (rows.take i).flatten ++ (ds ++ (rows.flatten ++ R).drop (i * sz + ds.length)) := by
  conv => lhs; arg 1; arg 1; rw [rows_split i, List.append_assoc, List.take_left' (tk_len hel hi)]
  rw [List.append_assoc]
theorem del_fin {A D E X Y : List AV} {k : Nat} (h : (A ++ D).length = k) : ((A ++ (D ++ E)).take k ++ X ++ Y).take k = A ++ D := by
  rw [List.append_assoc, List.take_left' (by rw [List.length_take, ← List.append_assoc, List.length_append, h]; omega), ← List.append_assoc, List.take_left' h]
end Lg
namespace Lg
open Go
theorem del_fin2 {A D E X Y : List AV} {k k1 k2 : Nat} (h : (A ++ D).length = k) (h1 : k1 = k) (h2 : k2 = k) : ((A ++ (D ++ E)).take k1 ++ X ++ Y).take k2 = A ++ D := by
  subst h1; subst h2; exact del_fin h
theorem fit_of_take {cs : List AV} {k : Nat} (h : (cs.take k).length = k) : k ≤ cs.length := by rw [List.length_take] at h; omega
end Lg
namespace Lg
open Go
def fnd (m : List BJ) (key : ByteArray) : Bool := match m[rinsK m key]? with
  | some q => decide (q.1 = key)
  | none => false
theorem tw_len {α : Type} {p : α → Bool} : ∀ {l : List α} {k : Nat}, k ≤ l.length → (∀ (j : Nat) q, j < k → l[j]? = some q → p q = true) → (∀ (j : Nat) q, k ≤ j → l[j]? = some q → p q = false) → (l.takeWhile p).length = k
  | [], k, hk, _, _ => by simp at hk; subst hk; rfl
  | a :: r, 0, _, _, h2 => by rw [List.takeWhile_cons, if_neg (by rw [h2 0 a (Nat.le_refl _) rfl]; simp)]; rfl
  | a :: r, k + 1, hk, h1, h2 => by
    rw [List.takeWhile_cons, if_pos (h1 0 a (by omega) rfl), List.length_cons, tw_len (by simpa using hk) (fun j q hj hq => h1 (j + 1) q (by omega) (by simpa using hq)) (fun j q hj hq => h2 (j + 1) q (by omega) (by simpa using hq))]
def msorted (m : List BJ) : Prop := m.Pairwise fun p q => blt p.1 q.1 = true
theorem ms_get {m : List BJ} (h : msorted m) {i j : Nat} {p q : BJ} (hij : i < j) (hp : m[i]? = some p) (hq : m[j]? = some q) : blt p.1 q.1 = true := by
  have h1 := (List.getElem?_eq_some_iff.1 hp)
  have h2 := (List.getElem?_eq_some_iff.1 hq)
  obtain ⟨a, rfl⟩ := h1
  obtain ⟨b, rfl⟩ := h2
  exact List.pairwise_iff_getElem.1 h i j a b hij
theorem rinsK_bel {m : List BJ} {key : ByteArray} {k : Nat} (hk : k ≤ m.length) (h1 : ∀ (j : Nat) q, j < k → m[j]? = some q → blt q.1 key = true) (h2 : ∀ (j : Nat) q, k ≤ j → m[j]? = some q → blt q.1 key = false) : rinsK m key = k := tw_len hk h1 h2
theorem cmpS_neg {a b : ByteArray} : cmpS a b < 0 ↔ blt a b = true := by
  unfold cmpS; split
  · rename_i h; simp [h]
  · rename_i h; split <;> simp [h]
theorem cmpS_zero {a b : ByteArray} : cmpS a b = 0 ↔ a = b ∧ blt a b = false := by
  unfold cmpS; split
  · rename_i h; simp [h]
  · rename_i h
    simp only [Bool.not_eq_true] at h
    split
    · rename_i h2; simp [h] at h2 ⊢; exact h2
    · rename_i h2; simp [h] at h2 ⊢; exact h2
theorem blt_irr [GLay] (a : ByteArray) : blt a a = false := by
  cases h : blt a a with
  | false => rfl
  | true => have := blt_le (a := a) (b := a) (by simp [h]); rw [h] at this; cases this
end Lg
namespace Lg
open Go
theorem wrapu64_in {n : Int} (h0 : 0 ≤ n) (h1 : n < 18446744073709551616) : IntKind.wrap .u64 n = n := by
  show n % (2 ^ 64 : Int) = n
  exact Int.emod_eq_of_lt h0 h1
end Lg
namespace Lg
open Go
def padM (m : List BJ) (key : ByteArray) (x : JV) : List BJ := if fnd m key = true then m.set (rinsK m key) (key, x) else m.take (rinsK m key) ++ (key, x) :: m.drop (rinsK m key)
def padd (nm : BL) (x v : JV) : JV × Bool :=
  if v.kind = 4 then (if jixO nm v.l.length true = true then (.mk v.kind v.b v.n v.s (v.l.take (jixN nm v.l.length true).toNat ++ x :: v.l.drop (jixN nm v.l.length true).toNat) v.m, true) else (vz, false))
  else if v.kind = 5 then (.mk v.kind v.b v.n v.s v.l (padM v.m (ba nm) x), true) else (vz, false)
def prem (nm : BL) (v : JV) : JV × Bool :=
  if v.kind = 4 then (if jixO nm v.l.length false = true then (.mk v.kind v.b v.n v.s (v.l.take (jixN nm v.l.length false).toNat ++ v.l.drop ((jixN nm v.l.length false).toNat + 1)) v.m, true) else (vz, false))
  else if v.kind = 5 then (if fnd v.m (ba nm) = true then (.mk v.kind v.b v.n v.s v.l (v.m.take (rinsK v.m (ba nm)) ++ v.m.drop (rinsK v.m (ba nm) + 1)), true) else (vz, false)) else (vz, false)
theorem jix_nat2 {nm : BL} {n : Nat} {e : Bool} (h : jixO nm n e = true) : ∃ k : Nat, jixN nm n e = k ∧ k ≤ n := by
  unfold jixO jixN at *
  cases h1 : jidx nm n e with
  | none => rw [h1] at h; cases h
  | some k => exact ⟨k, rfl, (jidx_le h1).1⟩
theorem padd_no {nm : BL} {x v : JV} (h4 : v.kind = 4) (h : jixO nm v.l.length true = false) : padd nm x v = (vz, false) := by unfold padd; rw [if_pos h4, if_neg (by simp [h])]
theorem padd_4 {nm : BL} {x v : JV} {k : Nat} (h4 : v.kind = 4) (h : jixO nm v.l.length true = true) (hk : jixN nm v.l.length true = k) : padd nm x v = (.mk v.kind v.b v.n v.s (v.l.take k ++ x :: v.l.drop k) v.m, true) := by unfold padd; rw [if_pos h4, if_pos h, hk, Int.toNat_natCast]
theorem padd_5 {nm : BL} {x v : JV} (h5 : v.kind = 5) : padd nm x v = (.mk v.kind v.b v.n v.s v.l (padM v.m (ba nm) x), true) := by unfold padd; rw [if_neg (by omega), if_pos h5]
theorem padd_n {nm : BL} {x v : JV} (h4 : ¬ v.kind = 4) (h5 : ¬ v.kind = 5) : padd nm x v = (vz, false) := by unfold padd; rw [if_neg h4, if_neg h5]
theorem prem_no {nm : BL} {v : JV} (h4 : v.kind = 4) (h : jixO nm v.l.length false = false) : prem nm v = (vz, false) := by unfold prem; rw [if_pos h4, if_neg (by simp [h])]
theorem prem_4 {nm : BL} {v : JV} {k : Nat} (h4 : v.kind = 4) (h : jixO nm v.l.length false = true) (hk : jixN nm v.l.length false = k) : prem nm v = (.mk v.kind v.b v.n v.s (v.l.take k ++ v.l.drop (k + 1)) v.m, true) := by unfold prem; rw [if_pos h4, if_pos h, hk, Int.toNat_natCast]
theorem prem_5 {nm : BL} {v : JV} (h5 : v.kind = 5) (h : fnd v.m (ba nm) = true) : prem nm v = (.mk v.kind v.b v.n v.s v.l (v.m.take (rinsK v.m (ba nm)) ++ v.m.drop (rinsK v.m (ba nm) + 1)), true) := by unfold prem; rw [if_neg (by omega), if_pos h5, if_pos h]
theorem prem_no5 {nm : BL} {v : JV} (h5 : v.kind = 5) (h : fnd v.m (ba nm) = false) : prem nm v = (vz, false) := by unfold prem; rw [if_neg (by omega), if_pos h5, if_neg (by simp [h])]
theorem prem_n {nm : BL} {v : JV} (h4 : ¬ v.kind = 4) (h5 : ¬ v.kind = 5) : prem nm v = (vz, false) := by unfold prem; rw [if_neg h4, if_neg h5]
theorem fnd_get {m : List BJ} {key : ByteArray} (h : fnd m key = true) : ∃ q, m[rinsK m key]? = some q ∧ q.1 = key := by
  unfold fnd at h
  split at h
  · rename_i q hq; exact ⟨q, hq, of_decide_eq_true h⟩
  · cases h
end Lg
namespace Lg
open Go
def pwi (g : JV → JV × Bool) : List BL → JV → JV × Bool
  | [], v => g v
  | nm :: r, v =>
    if v.kind = 4 then
      if jixO nm v.l.length false = true ∧ (pwi g r (v.l.getD (jixN nm v.l.length false).toNat vz)).2 = true then
        (.mk v.kind v.b v.n v.s (v.l.set (jixN nm v.l.length false).toNat (pwi g r (v.l.getD (jixN nm v.l.length false).toNat vz)).1) v.m, true)
      else (vz, false)
    else if v.kind = 5 ∧ fnd v.m (ba nm) = true ∧ (pwi g r (v.m.getD (rinsK v.m (ba nm)) (ba nm, vz)).2).2 = true then
      (.mk v.kind v.b v.n v.s v.l (v.m.set (rinsK v.m (ba nm)) (ba nm, (pwi g r (v.m.getD (rinsK v.m (ba nm)) (ba nm, vz)).2).1)), true)
    else (vz, false)
variable {g : JV → JV × Bool} {nm : BL} {r : List BL} {v : JV}
theorem pwi_no4 (h4 : v.kind = 4) (h : jixO nm v.l.length false = false) : pwi g (nm :: r) v = (vz, false) := by rw [pwi, if_pos h4, if_neg (by simp [h])]
theorem pwi_4 {a : JV} {k : Nat} (h4 : v.kind = 4) (h : jixO nm v.l.length false = true) (hk : jixN nm v.l.length false = k) (ha : v.l[k]? = some a) (hb : (pwi g r a).2 = true) : pwi g (nm :: r) v = (.mk v.kind v.b v.n v.s (v.l.set k (pwi g r a).1) v.m, true) := by
  have e : v.l.getD (jixN nm v.l.length false).toNat vz = a := by rw [hk, Int.toNat_natCast, List.getD_eq_getElem?_getD, ha]; rfl
  rw [pwi, if_pos h4, e, if_pos ⟨h, hb⟩, hk, Int.toNat_natCast]
theorem pwi_bad4 {a : JV} {k : Nat} (h4 : v.kind = 4) (hk : jixN nm v.l.length false = k) (ha : v.l[k]? = some a) (hb : (pwi g r a).2 = false) : pwi g (nm :: r) v = (vz, false) := by
  have e : v.l.getD (jixN nm v.l.length false).toNat vz = a := by rw [hk, Int.toNat_natCast, List.getD_eq_getElem?_getD, ha]; rfl
  rw [pwi, if_pos h4, e, if_neg (by simp [hb])]
theorem pwi_n (h4 : ¬ v.kind = 4) (h5 : ¬ v.kind = 5) : pwi g (nm :: r) v = (vz, false) := by rw [pwi, if_neg h4, if_neg (by simp [h5])]
theorem pwi_no5 (h4 : ¬ v.kind = 4) (h : fnd v.m (ba nm) = false) : pwi g (nm :: r) v = (vz, false) := by rw [pwi, if_neg h4, if_neg (by simp [h])]
theorem pwi_5 {q : BJ} (h4 : ¬ v.kind = 4) (h5 : v.kind = 5) (h : fnd v.m (ba nm) = true) (hq : v.m[rinsK v.m (ba nm)]? = some q) (hb : (pwi g r q.2).2 = true) : pwi g (nm :: r) v = (.mk v.kind v.b v.n v.s v.l (v.m.set (rinsK v.m (ba nm)) (ba nm, (pwi g r q.2).1)), true) := by
  have e : (v.m.getD (rinsK v.m (ba nm)) (ba nm, vz)).2 = q.2 := by rw [List.getD_eq_getElem?_getD, hq]; rfl
  rw [pwi, if_neg h4, e, if_pos ⟨h5, h, hb⟩]
theorem pwi_bad5 {q : BJ} (h4 : ¬ v.kind = 4) (hq : v.m[rinsK v.m (ba nm)]? = some q) (hb : (pwi g r q.2).2 = false) : pwi g (nm :: r) v = (vz, false) := by
  have e : (v.m.getD (rinsK v.m (ba nm)) (ba nm, vz)).2 = q.2 := by rw [List.getD_eq_getElem?_getD, hq]; rfl
  rw [pwi, if_neg h4, e, if_neg (by simp [hb])]
end Lg
namespace Lg
open Go
theorem may_ms [GLay] {v : JV} (h : jmay v) : msorted v.m := by
  have hm := ((jmay_eq v).1 h).2.1
  refine List.pairwise_iff_getElem.2 fun i j hi hj hij => ?_
  induction j with
  | zero => omega
  | succ j ih =>
    have hs := ((hm (j + 1) v.m[j + 1] hj (List.getElem?_eq_getElem hj)).1).2 v.m[j] (by omega) (by rw [Nat.add_sub_cancel]; exact List.getElem?_eq_getElem (by omega))
    by_cases e : i = j
    · subst e; exact hs
    · exact blt_trans (ih (by omega) (by omega)) hs
inductive jst : JV → Prop where
  | mk (k : Int) (b : Bool) (n : JNum) (s : ByteArray) (l : List JV) (m : List BJ) (h4 : ¬ k = 4 → l = []) (h5 : ¬ k = 5 → m = []) (hs : msorted m) (hl : ∀ x ∈ l, jst x) (hm : ∀ q ∈ m, jst q.2) : jst (.mk k b n s l m)
theorem st_eq (v : JV) : jst v ↔ (¬ v.kind = 4 → v.l = []) ∧ (¬ v.kind = 5 → v.m = []) ∧ msorted v.m ∧ (∀ x ∈ v.l, jst x) ∧ (∀ q ∈ v.m, jst q.2) := by
  constructor
  · intro h
    cases h with
    | mk k b n s l m h4 h5 hs hl hm => exact ⟨h4, h5, hs, hl, hm⟩
  · intro h
    cases v with
    | mk k b n s l m => exact .mk k b n s l m h.1 h.2.1 h.2.2.1 h.2.2.2.1 h.2.2.2.2
theorem st_nol {v : JV} (h : jst v) (hk : ¬ v.kind = 4) : v.l = [] := ((st_eq v).1 h).1 hk
theorem st_nom {v : JV} (h : jst v) (hk : ¬ v.kind = 5) : v.m = [] := ((st_eq v).1 h).2.1 hk
theorem st_ms {v : JV} (h : jst v) : msorted v.m := ((st_eq v).1 h).2.2.1
theorem st_get {v : JV} (h : jst v) {i : Nat} {x : JV} (hx : v.l[i]? = some x) : jst x := ((st_eq v).1 h).2.2.2.1 x (List.mem_of_getElem? hx)
theorem st_mget {v : JV} (h : jst v) {i : Nat} {q : BJ} (hq : v.m[i]? = some q) : jst q.2 := ((st_eq v).1 h).2.2.2.2 q (List.mem_of_getElem? hq)
theorem st_vz : jst vz := .mk _ _ _ _ _ _ (fun _ => rfl) (fun _ => rfl) List.Pairwise.nil (fun x h => by cases h) (fun x h => by cases h)
theorem may_st0 [GLay] : ∀ (n : Nat) (v : JV), (jsize v).toNat ≤ n → jmay v → jst v
  | 0, v, h, _ => by have := jsize_pos v; omega
  | n + 1, v, h, hm => by
    have h1 := jsize_eq v
    have h2 := lsize_nn v.l
    have h3 := msize_nn v.m
    rw [st_eq]
    refine ⟨may_nol hm, may_nom hm, may_ms hm, fun x hx => ?_, fun q hq => ?_⟩
    · obtain ⟨i, hi⟩ := List.getElem?_of_mem hx
      have := lsize_mem hi
      have := jsize_pos x
      exact may_st0 n x (by omega) (may_get hm hi)
    · obtain ⟨i, hi⟩ := List.getElem?_of_mem hq
      have := msize_mem hi
      have := jsize_pos q.2
      exact may_st0 n q.2 (by omega) (may_mget hm hi)
theorem may_st [GLay] {v : JV} (h : jmay v) : jst v := may_st0 _ v (Nat.le_refl _) h
end Lg
namespace Lg
open Go
section
variable {last : Bool} {op : Int} {k : Nat} {x y : JV} {l : List JV}
theorem eA_pre (hk : k ≤ l.length) : ∀ i, i ≤ k → eA last op k x y l i = l.take i
  | 0, _ => by simp [eA]
  | i + 1, h => by
    have hx : l[i]? = some l[i] := List.getElem?_eq_getElem (by omega)
    rw [eA, eA_pre hk i (by omega), eIns_n (by rintro ⟨h1, _, _⟩; omega), eOld_ne hx (by omega), List.append_nil, ltake_succ hx]
theorem eA_post (hk : k < l.length) : ∀ d, k + 1 + d ≤ l.length → eA last op k x y l (k + 1 + d) = eA last op k x y l (k + 1) ++ (l.drop (k + 1)).take d
  | 0, _ => by simp
  | d + 1, h => by
    have hx : l[k + 1 + d]? = some l[k + 1 + d] := List.getElem?_eq_getElem (by omega)
    have hx2 : (l.drop (k + 1))[d]? = some l[k + 1 + d] := by rw [List.getElem?_drop]; exact hx
    rw [show k + 1 + (d + 1) = (k + 1 + d) + 1 by omega, eA, eA_post hk d (by omega), eIns_n (by rintro ⟨h1, _, _⟩; omega), eOld_ne hx (by omega), List.append_nil, ltake_succ hx2, List.append_assoc]
theorem eA_all (hk : k < l.length) : eA last op k x y l (l.length + 1) = l.take k ++ (eIns last op k x k ++ eOld last op k y l k) ++ l.drop (k + 1) := by
  have h := eA_post (last := last) (op := op) (x := x) (y := y) hk (l.length - (k + 1)) (by omega)
  rw [show k + 1 + (l.length - (k + 1)) = l.length by omega, List.take_of_length_le (by simp)] at h
  rw [eA, eIns_n (by rintro ⟨h1, _, _⟩; omega), eOld_end (List.getElem?_eq_none (Nat.le_refl _)), List.append_nil, List.append_nil, h, eA, eA_pre (by omega) k (Nat.le_refl _), List.append_assoc (l.take k)]
theorem eA_set (hk : k < l.length) : eA false op k x y l (l.length + 1) = l.set k y := by
  rw [eA_all hk, eIns_n (by rintro ⟨_, h, _⟩; cases h), eOld_ed (List.getElem?_eq_getElem hk) rfl rfl, List.set_eq_take_append_cons_drop, if_pos hk]; simp
theorem eA_ins (hk : k ≤ l.length) : eA true 1 k x y l (l.length + 1) = l.take k ++ x :: l.drop k := by
  by_cases h : k = l.length
  · subst h
    rw [eA, eA_pre (Nat.le_refl _) _ (Nat.le_refl _), eIns_y ⟨rfl, rfl, by decide⟩, eOld_end (List.getElem?_eq_none (Nat.le_refl _))]; simp
  · have hk' : k < l.length := by omega
    rw [eA_all hk', eIns_y ⟨rfl, rfl, by decide⟩, eOld_keep (List.getElem?_eq_getElem hk') rfl rfl, List.drop_eq_getElem_cons hk']; simp
theorem eA_del (hk : k < l.length) : eA true 2 k x y l (l.length + 1) = l.take k ++ l.drop (k + 1) := by
  rw [eA_all hk, eIns_n (by rintro ⟨_, _, h⟩; exact h rfl), eOld_del rfl rfl (by decide)]; simp
theorem eA_rep (hk : k < l.length) : eA true 3 k x y l (l.length + 1) = l.set k x := by
  rw [eA_all hk, eIns_y ⟨rfl, rfl, by decide⟩, eOld_del rfl rfl (by decide), List.set_eq_take_append_cons_drop, if_pos hk]; simp
end
section
variable [GLay] {last : Bool} {op : Int} {key : ByteArray} {x : JV} {f : JV → JV}
theorem blt_ne {a b : ByteArray} (h : blt a b = true) : ¬ a = b := fun e => by subst e; rw [blt_irr] at h; cases h
theorem blt_asym {a b : ByteArray} (h : blt a b = true) : blt b a = false := blt_le (by rw [h]; rfl)
theorem eM_above : ∀ (m : List BJ) (put : Bool), (∀ q ∈ m, blt key q.1 = true) → eM last op key x f m put = (if (last && decide (op ≠ 2) && !put) = true then [(key, x)] else []) ++ m
  | [], put, _ => by rw [eM, List.append_nil]
  | q :: r, put, h => by
    have hq := h q (List.mem_cons_self ..)
    have hi : eMi last op key q.1 put = (last && decide (op ≠ 2) && !put) := by unfold eMi; rw [blt_asym hq]; simp
    have hr : (last && decide (op ≠ 2) && !(put || eMi last op key q.1 put)) = false := by rw [hi]; cases last <;> cases put <;> simp
    have hne : ¬ q.1 = key := fun e => blt_ne hq e.symm
    rw [eM, eM_above r _ (fun p hp => h p (List.mem_cons_of_mem _ hp)), hr, if_neg hne, hi]
    simp
theorem rinsK_cons (q : BJ) (r : List BJ) : rinsK (q :: r) key = if blt q.1 key = true then rinsK r key + 1 else 0 := by
  unfold rinsK; rw [List.takeWhile_cons]; split <;> simp
theorem fnd_cons (q : BJ) (r : List BJ) : fnd (q :: r) key = if blt q.1 key = true then fnd r key else decide (q.1 = key) := by
  unfold fnd; rw [rinsK_cons]
  by_cases h : blt q.1 key = true
  · rw [if_pos h, if_pos h]; rfl
  · rw [if_neg h, if_neg h]; rfl
theorem blt_tri {a b : ByteArray} (h1 : ¬ blt a b = true) (h2 : ¬ a = b) : blt b a = true := blt_gt (by simp [h1, h2])
theorem eM_sort : ∀ (m : List BJ), msorted m → eM last op key x f m false = m.take (rinsK m key) ++ ((if last = true then (if op = 2 then [] else [(key, x)]) else match (if fnd m key = true then m[rinsK m key]? else none) with | some q => [(q.1, f q.2)] | none => []) ++ m.drop (rinsK m key + (if fnd m key = true then 1 else 0)))
  | [], _ => by
    rw [eM]
    cases last <;> by_cases h : op = 2 <;> simp [h, fnd, rinsK]
  | q :: r, hs => by
    have hs' : msorted r := (List.pairwise_cons.1 hs).2
    have hall := (List.pairwise_cons.1 hs).1
    by_cases hb : blt q.1 key = true
    · have hi : eMi last op key q.1 false = false := by unfold eMi; rw [hb]; simp
      rw [eM, hi, if_neg (by simp), if_neg (blt_ne hb), Bool.or_false, eM_sort r hs', rinsK_cons, if_pos hb, fnd_cons, if_pos hb, show rinsK r key + 1 + (if fnd r key = true then 1 else 0) = (rinsK r key + (if fnd r key = true then 1 else 0)) + 1 by omega]
      rfl
    · rw [rinsK_cons, if_neg hb, fnd_cons, if_neg hb]
      have hi : eMi last op key q.1 false = (last && decide (op ≠ 2)) := by unfold eMi; simp [hb]
      by_cases hq : q.1 = key
      · have hab : ∀ p ∈ r, blt key p.1 = true := fun p hp => hq ▸ hall p hp
        rw [eM, eM_above r _ hab, hi, if_pos hq]
        cases last <;> by_cases h : op = 2 <;> simp [h, hq]
      · have hlt := blt_tri hb hq
        have hab : ∀ p ∈ q :: r, blt key p.1 = true := fun p hp => by
          rcases List.mem_cons.1 hp with rfl | hp
          · exact hlt
          · exact blt_trans hlt (hall p hp)
        rw [eM_above _ _ hab]
        cases last <;> by_cases h : op = 2 <;> simp [h, hq]
end
end Lg
namespace Lg
open Go
variable [GLay]
def eC (b : Bool) : Int := if b = true then 0 else 6
theorem find_sort {key : ByteArray} : ∀ (m : List BJ), msorted m → m.find? (fun q => decide (q.1 = key)) = if fnd m key = true then m[rinsK m key]? else none
  | [], _ => by simp [fnd]
  | q :: r, hs => by
    have hs' : msorted r := (List.pairwise_cons.1 hs).2
    have hall := (List.pairwise_cons.1 hs).1
    rw [rinsK_cons, fnd_cons]
    by_cases hb : blt q.1 key = true
    · rw [if_pos hb, if_pos hb, List.find?_cons_of_neg (by simp [blt_ne hb]), find_sort r hs']; rfl
    · rw [if_neg hb, if_neg hb]
      by_cases hq : q.1 = key
      · rw [List.find?_cons_of_pos (by simp [hq])]; simp [hq]
      · rw [List.find?_cons_of_neg (by simp [hq]), List.find?_eq_none.2 (fun p hp => by
          have := blt_ne (blt_trans (blt_tri hb hq) (hall p hp))
          simpa using fun e => this e.symm)]
        simp [hq]
theorem jfB_fnd {v : JV} {key : ByteArray} (h5 : v.kind = 5) (hs : msorted v.m) : jfB v key = fnd v.m key := by
  unfold jfB jfind
  rw [if_pos h5, find_sort v.m hs]
  by_cases h : fnd v.m key = true
  · obtain ⟨q, hq, _⟩ := fnd_get h
    rw [if_pos h, hq, h]; rfl
  · rw [if_neg h]; simpa using h
theorem ms_lt {m : List BJ} {key : ByteArray} {j : Nat} {p : BJ} (hj : j < rinsK m key) (hp : m[j]? = some p) : blt p.1 key = true := by
  have h1 : (m.takeWhile fun q => blt q.1 key)[j]? = some p := by
    obtain ⟨t, ht⟩ := List.takeWhile_prefix (fun q : BJ => blt q.1 key) (l := m)
    rw [← ht, List.getElem?_append_left hj] at hp
    exact hp
  exact List.all_eq_true.1 (List.all_takeWhile (p := fun q => blt q.1 key) (l := m)) p (List.mem_of_getElem? h1)
theorem ms_uni {m : List BJ} (hs : msorted m) {i j : Nat} {p q : BJ} (hp : m[i]? = some p) (hq : m[j]? = some q) (h : p.1 = q.1) : p = q := by
  rcases Nat.lt_trichotomy i j with e | e | e
  · have := ms_get hs e hp hq; rw [h, blt_irr] at this; cases this
  · subst e; rw [hp] at hq; exact Option.some.inj hq
  · have := ms_get hs e hq hp; rw [h, blt_irr] at this; cases this
variable {op : Int} {x : JV} {g : JV → JV × Bool} {r0 : List BL}
theorem jed_pwi (h0 : r0 ≠ []) (base : ∀ v, jst v → jed op x r0 v = ((g v).1, eC (g v).2)) : ∀ (l : List BL) (v : JV), jst v → jed op x (l ++ r0) v = ((pwi g l v).1, eC (pwi g l v).2)
  | [], v, h => base v h
  | nm :: r, v, h => by
    have hl : (r ++ r0).isEmpty = false := by cases r <;> cases r0 <;> simp_all
    have hs := st_ms h
    rw [List.cons_append]
    by_cases h4 : v.kind = 4
    · have hm0 : v.m = [] := st_nom h (by omega)
      have hjo : jeO op nm false v = jixO nm v.l.length false := by unfold jeO; simp
      have hjk : jeK op nm false v = jixN nm v.l.length false := by unfold jeK; simp
      by_cases ho : jixO nm v.l.length false = true
      · obtain ⟨k, hk, hkl⟩ := jix_nat ho
        have ha : v.l[k]? = some v.l[k] := List.getElem?_eq_getElem hkl
        have ih := jed_pwi h0 base r v.l[k] (st_get h ha)
        have hgd : v.l.getD k vz = v.l[k] := by rw [List.getD_eq_getElem?_getD, ha]; rfl
        cases hb : (pwi g r v.l[k]).2 with
        | true =>
          rw [hb] at ih
          rw [jedA_ok hl h4 (by rw [hjk, hk]) (by rw [hjo]; exact ho) (fun _ => by rw [hgd, ih]; rfl), pwi_4 h4 ho hk ha hb, hgd, ih, eA_set hkl, hm0]; rfl
        | false =>
          rw [hb] at ih
          rw [jedA_bad hl h4 (by rw [hjk, hk]) (by rw [hjo]; exact ho) rfl ha (by rw [ih]; show ¬ eC false = 0; decide), pwi_bad4 h4 hk ha hb, ih] <;> rfl
      · rw [jedA_no hl h4 (by rw [hjo]; simpa using ho), pwi_no4 h4 (by simpa using ho)]; rfl
    · by_cases h5 : v.kind = 5
      · have hl0 : v.l = [] := st_nol h h4
        by_cases hf : fnd v.m (ba nm) = true
        · obtain ⟨q, hq, hqk⟩ := fnd_get hf
          have ih := jed_pwi h0 base r q.2 (st_mget h hq)
          have hjf : jfB v (ba nm) = true := by rw [jfB_fnd h5 hs]; exact hf
          cases hb : (pwi g r q.2).2 with
          | true =>
            rw [hb] at ih
            have hlt := (List.getElem?_eq_some_iff.1 hq).1
            rw [jedM_ok hl h4 h5 (.inl hjf) (eBad_none (fun p hp hk => by
              obtain ⟨j, hj⟩ := List.getElem?_of_mem hp
              rw [ms_uni hs hj hq (hk.trans hqk.symm), ih]; rfl) _), pwi_5 h4 h5 hf hq hb, eM_sort v.m hs, if_neg (by simp), if_pos hf, if_pos hf, hq, hl0, List.set_eq_take_append_cons_drop, if_pos hlt]
            simp only [ih, hqk]; (try rfl)
          | false =>
            rw [hb] at ih
            rw [jedM_bad hl h4 h5 (.inl hjf) (eBad_at (g := fun y => (jed op x (r ++ r0) y).2) hq (fun p hp hk => by
              obtain ⟨j, hj⟩ := List.getElem?_of_mem hp
              rw [List.getElem?_take] at hj
              split at hj
              · rename_i hjl; exact absurd hk (blt_ne (ms_lt hjl hj))
              · cases hj) hqk (by simp only [ih]; show ¬ eC false = 0; decide)) (by simp only [ih]; show ¬ eC false = 0; decide), pwi_bad5 h4 hq hb]
            simp only [ih]
        · rw [jedM_no hl h4 (.inr ⟨by rw [jfB_fnd h5 hs]; simpa using hf, .inr rfl⟩), pwi_no5 h4 (by simpa using hf)]; rfl
      · rw [jedM_no hl h4 (.inl h5), pwi_n h4 h5]; rfl
end Lg
namespace Lg
open Go
variable [GLay]
theorem add_base (x : JV) (nm : BL) (v : JV) (h : jst v) : jed 1 x [nm] v = ((padd nm x v).1, eC (padd nm x v).2) := by
  have hs := st_ms h
  have hl : ([] : List BL).isEmpty = true := rfl
  by_cases h4 : v.kind = 4
  · have hm0 : v.m = [] := st_nom h (by omega)
    have hjo : jeO 1 nm true v = jixO nm v.l.length true := rfl
    have hjk : jeK 1 nm true v = jixN nm v.l.length true := rfl
    by_cases ho : jixO nm v.l.length true = true
    · obtain ⟨k, hk, hkl⟩ := jix_nat2 ho
      rw [jedA_ok hl h4 (by rw [hjk, hk]) (by rw [hjo]; exact ho) (fun h => by cases h), padd_4 h4 ho hk, eA_ins hkl, hm0]; rfl
    · rw [jedA_no hl h4 (by rw [hjo]; simpa using ho), padd_no h4 (by simpa using ho)]; rfl
  · by_cases h5 : v.kind = 5
    · have hl0 : v.l = [] := st_nol h h4
      rw [jedM_ok hl h4 h5 (.inr ⟨rfl, rfl⟩) rfl, padd_5 h5, eM_sort v.m hs, if_pos rfl, if_neg (by decide), hl0]
      have : padM v.m (ba nm) x = v.m.take (rinsK v.m (ba nm)) ++ ([(ba nm, x)] ++ v.m.drop (rinsK v.m (ba nm) + if fnd v.m (ba nm) = true then 1 else 0)) := by
        unfold padM
        by_cases hf : fnd v.m (ba nm) = true
        · obtain ⟨q, hq, _⟩ := fnd_get hf
          rw [if_pos hf, if_pos hf, List.set_eq_take_append_cons_drop, if_pos (List.getElem?_eq_some_iff.1 hq).1]; rfl
        · rw [if_neg hf, if_neg hf]; rfl
      rw [this]; rfl
    · rw [jedM_no hl h4 (.inl h5), padd_n h4 h5]; rfl
theorem rem_base (x : JV) (nm : BL) (v : JV) (h : jst v) : jed 2 x [nm] v = ((prem nm v).1, eC (prem nm v).2) := by
  have hs := st_ms h
  have hl : ([] : List BL).isEmpty = true := rfl
  by_cases h4 : v.kind = 4
  · have hm0 : v.m = [] := st_nom h (by omega)
    have hjo : jeO 2 nm true v = jixO nm v.l.length false := rfl
    have hjk : jeK 2 nm true v = jixN nm v.l.length false := rfl
    by_cases ho : jixO nm v.l.length false = true
    · obtain ⟨k, hk, hkl⟩ := jix_nat ho
      rw [jedA_ok hl h4 (by rw [hjk, hk]) (by rw [hjo]; exact ho) (fun h => by cases h), prem_4 h4 ho hk, eA_del hkl, hm0]; rfl
    · rw [jedA_no hl h4 (by rw [hjo]; simpa using ho), prem_no h4 (by simpa using ho)]; rfl
  · by_cases h5 : v.kind = 5
    · have hl0 : v.l = [] := st_nol h h4
      by_cases hf : fnd v.m (ba nm) = true
      · rw [jedM_ok hl h4 h5 (.inl (by rw [jfB_fnd h5 hs]; exact hf)) rfl, prem_5 h5 hf, eM_sort v.m hs, if_pos rfl, if_pos rfl, if_pos hf, hl0]; rfl
      · rw [jedM_no hl h4 (.inr ⟨by rw [jfB_fnd h5 hs]; simpa using hf, .inl (by decide)⟩), prem_no5 h5 (by simpa using hf)]; rfl
    · rw [jedM_no hl h4 (.inl h5), prem_n h4 h5]; rfl
theorem rep_base (x : JV) (nm : BL) (v : JV) (h : jst v) : jed 3 x [nm] v = ((pwi (fun _ => (x, true)) [nm] v).1, eC (pwi (fun _ => (x, true)) [nm] v).2) := by
  have hs := st_ms h
  have hl : ([] : List BL).isEmpty = true := rfl
  by_cases h4 : v.kind = 4
  · have hm0 : v.m = [] := st_nom h (by omega)
    have hjo : jeO 3 nm true v = jixO nm v.l.length false := rfl
    have hjk : jeK 3 nm true v = jixN nm v.l.length false := rfl
    by_cases ho : jixO nm v.l.length false = true
    · obtain ⟨k, hk, hkl⟩ := jix_nat ho
      have ha : v.l[k]? = some v.l[k] := List.getElem?_eq_getElem hkl
      rw [jedA_ok hl h4 (by rw [hjk, hk]) (by rw [hjo]; exact ho) (fun h => by cases h), pwi_4 h4 ho hk ha rfl, eA_rep hkl, hm0]; rfl
    · rw [jedA_no hl h4 (by rw [hjo]; simpa using ho), pwi_no4 h4 (by simpa using ho)]; rfl
  · by_cases h5 : v.kind = 5
    · have hl0 : v.l = [] := st_nol h h4
      by_cases hf : fnd v.m (ba nm) = true
      · obtain ⟨q, hq, _⟩ := fnd_get hf
        rw [jedM_ok hl h4 h5 (.inl (by rw [jfB_fnd h5 hs]; exact hf)) rfl, pwi_5 h4 h5 hf hq rfl, eM_sort v.m hs, if_pos rfl, if_neg (by decide), if_pos hf, hl0, List.set_eq_take_append_cons_drop, if_pos (List.getElem?_eq_some_iff.1 hq).1]; rfl
      · rw [jedM_no hl h4 (.inr ⟨by rw [jfB_fnd h5 hs]; simpa using hf, .inl (by decide)⟩), pwi_no5 h4 (by simpa using hf)]; rfl
    · rw [jedM_no hl h4 (.inl h5), pwi_n h4 h5]; rfl
theorem pwi_app {g : JV → JV × Bool} (r : List BL) : ∀ (l : List BL) (v : JV), pwi g (l ++ r) v = pwi (pwi g r) l v
  | [], v => rfl
  | nm :: l, v => by rw [List.cons_append, pwi, pwi]; simp only [pwi_app r l]
theorem jed_add (x : JV) (l : List BL) (nm : BL) (v : JV) (h : jst v) : jed 1 x (l ++ [nm]) v = ((pwi (padd nm x) l v).1, eC (pwi (padd nm x) l v).2) := jed_pwi (by simp) (add_base x nm) l v h
theorem jed_rem (x : JV) (l : List BL) (nm : BL) (v : JV) (h : jst v) : jed 2 x (l ++ [nm]) v = ((pwi (prem nm) l v).1, eC (pwi (prem nm) l v).2) := jed_pwi (by simp) (rem_base x nm) l v h
theorem jed_rep (x : JV) (l : List BL) (v : JV) (h : jst v) : jed 3 x l v = ((pwi (fun _ => (x, true)) l v).1, eC (pwi (fun _ => (x, true)) l v).2) := by
  rcases List.eq_nil_or_concat l with rfl | ⟨l0, nm, rfl⟩
  · rw [jed_nil (by decide)]; rfl
  · rw [List.concat_eq_append, pwi_app]; exact jed_pwi (by simp) (rep_base x nm) l0 v h
end Lg
namespace Lg
mutual
def jq : JV → JV → Bool
  | .mk k b n s l m, .mk k' b' n' s' l' m' => decide (k = k') && decide (b = b') && decide (n.neg = n'.neg) && decide (n.digits.data = n'.digits.data) && decide (n.exp = n'.exp) && decide (s.data = s'.data) && jqL l l' && jqM m m'
def jqL : List JV → List JV → Bool
  | [], [] => true
  | x :: r, y :: q => jq x y && jqL r q
  | [], _ :: _ => false
  | _ :: _, [] => false
def jqM : List (ByteArray × JV) → List (ByteArray × JV) → Bool
  | [], [] => true
  | (a, x) :: r, (c, y) :: q => decide (a.data = c.data) && jq x y && jqM r q
  | [], _ :: _ => false
  | _ :: _, [] => false
end
mutual
theorem jq_eq : ∀ {v w : JV}, jq v w = true → v = w
  | .mk k b n s l m, .mk k' b' n' s' l' m', h => by
    simp only [jq, Bool.and_eq_true, decide_eq_true_eq] at h
    obtain ⟨⟨⟨⟨⟨⟨⟨h1, h2⟩, h3⟩, h4⟩, h5⟩, h6⟩, h7⟩, h8⟩ := h
    have hl := jqL_eq h7
    have hm := jqM_eq h8
    obtain ⟨a, ⟨d⟩, e⟩ := n
    obtain ⟨a', ⟨d'⟩, e'⟩ := n'
    obtain ⟨s⟩ := s
    obtain ⟨s'⟩ := s'
    simp only at h3 h4 h5 h6
    subst h1 h2 h3 h4 h5 h6 hl hm
    rfl
theorem jqL_eq : ∀ {l q : List JV}, jqL l q = true → l = q
  | [], [], _ => rfl
  | x :: r, y :: q, h => by
    simp only [jqL, Bool.and_eq_true] at h
    rw [jq_eq h.1, jqL_eq h.2]
  | [], _ :: _, h => by simp [jqL] at h
  | _ :: _, [], h => by simp [jqL] at h
theorem jqM_eq : ∀ {l q : List (ByteArray × JV)}, jqM l q = true → l = q
  | [], [], _ => rfl
  | (⟨a⟩, x) :: r, (⟨c⟩, y) :: q, h => by
    simp only [jqM, Bool.and_eq_true, decide_eq_true_eq] at h
    obtain ⟨⟨h1, h2⟩, h3⟩ := h
    subst h1
    rw [jq_eq h2, jqM_eq h3]
  | [], _ :: _, h => by simp [jqM] at h
  | _ :: _, [], h => by simp [jqM] at h
end
end Lg
namespace Lg
open Go
theorem lb_iff (l : List JV) : lb l ↔ ∀ x ∈ l, jb x := by
  induction l with
  | nil => simp [lb]
  | cons a r ih => simp [lb, ih]
theorem mb_iff (m : List (ByteArray × JV)) : mb m ↔ ∀ q ∈ m, q.1.size ≤ 1000000 ∧ jb q.2 := by
  induction m with
  | nil => simp [mb]
  | cons a r ih => obtain ⟨k, v⟩ := a; simp [mb, ih, and_assoc]
theorem vz_jb0 : jb vz := vz_jb.1
theorem vz_js : jsize vz = 1 := by simp [vz, jsize, lsize, msize]
theorem gd_l {v : JV} {k : Nat} (hs : jsize v ≤ 10000) (hb : jb v) : jsize (v.l.getD k vz) ≤ 10000 ∧ jb (v.l.getD k vz) := by
  rw [List.getD_eq_getElem?_getD]
  cases h : v.l[k]? with
  | none => exact ⟨by rw [Option.getD_none, vz_js]; decide, vz_jb0⟩
  | some x =>
    have h1 := lsize_mem h
    have h2 := jsize_eq v
    have h3 := msize_nn v.m
    exact ⟨by rw [Option.getD_some]; omega, lb_get ((jb_eq v).1 hb).2.2.2.2.1 h⟩
theorem gd_m {v : JV} {k : Nat} {key : ByteArray} (hs : jsize v ≤ 10000) (hb : jb v) : jsize (v.m.getD k (key, vz)).2 ≤ 10000 ∧ jb (v.m.getD k (key, vz)).2 := by
  rw [List.getD_eq_getElem?_getD]
  cases h : v.m[k]? with
  | none => exact ⟨by rw [Option.getD_none, vz_js]; decide, vz_jb0⟩
  | some x =>
    have h1 := msize_mem h
    have h2 := jsize_eq v
    have h3 := lsize_nn v.l
    exact ⟨by rw [Option.getD_some]; omega, ((mb_iff _).1 ((jb_eq v).1 hb).2.2.2.2.2 x (List.mem_of_getElem? h)).2⟩
theorem ba_le {nm : BL} (h : nm.length ≤ 1000000) : (ba nm).size ≤ 1000000 := by rw [ba_size]; exact h
theorem pwi_jb {g : JV → JV × Bool} (hg : ∀ v, jsize v ≤ 10000 → jb v → jb (g v).1) : ∀ (l : List BL) (v : JV), (∀ n ∈ l, n.length ≤ 1000000) → jsize v ≤ 10000 → jb v → jb (pwi g l v).1
  | [], v, _, hs, hb => hg v hs hb
  | nm :: r, v, hl, hs, hb => by
    have ih := pwi_jb hg r
    have hl' : ∀ n ∈ r, n.length ≤ 1000000 := fun n h => hl n (List.mem_cons_of_mem _ h)
    have hv := (jb_eq v).1 hb
    rw [pwi]
    split
    · split
      · rw [jb_eq]
        refine ⟨hv.1, hv.2.1, by simp only [JV.l, List.length_set]; exact hv.2.2.1, hv.2.2.2.1, (lb_iff _).2 fun x hx => ?_, hv.2.2.2.2.2⟩
        rcases List.mem_or_eq_of_mem_set hx with h | h
        · exact (lb_iff _).1 hv.2.2.2.2.1 x h
        · rw [h]; exact ih _ hl' (gd_l hs hb).1 (gd_l hs hb).2
      · exact vz_jb0
    · split
      · rw [jb_eq]
        refine ⟨hv.1, hv.2.1, hv.2.2.1, by simp only [JV.m, List.length_set]; exact hv.2.2.2.1, hv.2.2.2.2.1, (mb_iff _).2 fun x hx => ?_⟩
        rcases List.mem_or_eq_of_mem_set hx with h | h
        · exact (mb_iff _).1 hv.2.2.2.2.2 x h
        · rw [h]; exact ⟨ba_le (hl nm (List.mem_cons_self ..)), ih _ hl' (gd_m hs hb).1 (gd_m hs hb).2⟩
      · exact vz_jb0
theorem lsize_ln : ∀ l : List JV, (l.length : Int) ≤ lsize l
  | [] => by simp [lsize]
  | a :: r => by have h1 := lsize_ln r; have h2 := jsize_pos a; simp only [lsize, List.length_cons]; omega
theorem msize_ln : ∀ l : List (ByteArray × JV), (l.length : Int) ≤ msize l
  | [] => by simp [msize]
  | (k, a) :: r => by have h1 := msize_ln r; have h2 := jsize_pos a; simp only [msize, List.length_cons]; omega
theorem jl_ln {v : JV} (hs : jsize v ≤ 10000) : v.l.length ≤ 10000 ∧ v.m.length ≤ 10000 := by
  have h2 := jsize_eq v
  have h3 := lsize_ln v.l
  have h4 := msize_ln v.m
  omega
theorem padd_jb {nm : BL} {x : JV} (hn : nm.length ≤ 1000000) (hx : jb x) (v : JV) (hs : jsize v ≤ 10000) (hb : jb v) : jb (padd nm x v).1 := by
  have hv := (jb_eq v).1 hb
  have hln := jl_ln hs
  unfold padd
  split
  · split
    · rw [jb_eq]
      refine ⟨hv.1, hv.2.1, ?_, hv.2.2.2.1, (lb_iff _).2 fun y hy => ?_, hv.2.2.2.2.2⟩
      · show List.length (_ ++ _) ≤ _
        simp only [List.length_append, List.length_take, List.length_cons, List.length_drop]; omega
      · rcases List.mem_append.1 hy with h | h
        · exact (lb_iff _).1 hv.2.2.2.2.1 y (List.mem_of_mem_take h)
        · rcases List.mem_cons.1 h with h | h
          · rw [h]; exact hx
          · exact (lb_iff _).1 hv.2.2.2.2.1 y (List.mem_of_mem_drop h)
    · exact vz_jb0
  · split
    · rw [jb_eq]
      have hm : (padM v.m (ba nm) x).length ≤ 1000000 ∧ ∀ q ∈ padM v.m (ba nm) x, q.1.size ≤ 1000000 ∧ jb q.2 := by
        unfold padM
        split
        · refine ⟨by rw [List.length_set]; omega, fun q hq => ?_⟩
          rcases List.mem_or_eq_of_mem_set hq with h | h
          · exact (mb_iff _).1 hv.2.2.2.2.2 q h
          · rw [h]; exact ⟨ba_le hn, hx⟩
        · refine ⟨by simp only [List.length_append, List.length_take, List.length_cons, List.length_drop]; omega, fun q hq => ?_⟩
          rcases List.mem_append.1 hq with h | h
          · exact (mb_iff _).1 hv.2.2.2.2.2 q (List.mem_of_mem_take h)
          · rcases List.mem_cons.1 h with h | h
            · rw [h]; exact ⟨ba_le hn, hx⟩
            · exact (mb_iff _).1 hv.2.2.2.2.2 q (List.mem_of_mem_drop h)
      exact ⟨hv.1, hv.2.1, hv.2.2.1, hm.1, hv.2.2.2.2.1, (mb_iff _).2 hm.2⟩
    · exact vz_jb0
theorem prem_jb {nm : BL} (v : JV) (hs : jsize v ≤ 10000) (hb : jb v) : jb (prem nm v).1 := by
  have hv := (jb_eq v).1 hb
  have hln := jl_ln hs
  unfold prem
  split
  · split
    · rw [jb_eq]
      refine ⟨hv.1, hv.2.1, ?_, hv.2.2.2.1, (lb_iff _).2 fun y hy => ?_, hv.2.2.2.2.2⟩
      · show List.length (_ ++ _) ≤ _
        simp only [List.length_append, List.length_take, List.length_drop]; omega
      · rcases List.mem_append.1 hy with h | h
        · exact (lb_iff _).1 hv.2.2.2.2.1 y (List.mem_of_mem_take h)
        · exact (lb_iff _).1 hv.2.2.2.2.1 y (List.mem_of_mem_drop h)
    · exact vz_jb0
  · split
    · split
      · rw [jb_eq]
        refine ⟨hv.1, hv.2.1, hv.2.2.1, ?_, hv.2.2.2.2.1, (mb_iff _).2 fun q hq => ?_⟩
        · show List.length (_ ++ _) ≤ _
          simp only [List.length_append, List.length_take, List.length_drop]; omega
        · rcases List.mem_append.1 hq with h | h
          · exact (mb_iff _).1 hv.2.2.2.2.2 q (List.mem_of_mem_take h)
          · exact (mb_iff _).1 hv.2.2.2.2.2 q (List.mem_of_mem_drop h)
      · exact vz_jb0
    · exact vz_jb0
theorem jed_jb [GLay] {op : Int} (hop : op = 1 ∨ op = 2 ∨ op = 3) {x : JV} (hx : jb x) (l : List BL) (hl : ∀ n ∈ l, n.length ≤ 1000000) {v : JV} (hs : jsize v ≤ 10000) (hb : jb v) (hm : jst v) : jb (jed op x l v).1 ∧ 0 ≤ (jed op x l v).2 ∧ (jed op x l v).2 ≤ 7 := by
  have he : ∀ b, 0 ≤ eC b ∧ eC b ≤ 7 := by decide
  rcases hop with rfl | rfl | rfl
  · rcases List.eq_nil_or_concat l with rfl | ⟨l0, nm, rfl⟩
    · rw [jed_nil (by decide)]; exact ⟨hx, Int.le_refl _, show (0 : Int) ≤ 7 by decide⟩
    · rw [List.concat_eq_append] at *
      rw [jed_add x l0 nm v hm]
      exact ⟨pwi_jb (padd_jb (hl nm (by simp)) hx) l0 v (fun n h => hl n (List.mem_append_left _ h)) hs hb, he _⟩
  · rcases List.eq_nil_or_concat l with rfl | ⟨l0, nm, rfl⟩
    · rw [jed_nil2]; exact ⟨vz_jb0, show (0 : Int) ≤ 7 by decide, Int.le_refl _⟩
    · rw [List.concat_eq_append] at *
      rw [jed_rem x l0 nm v hm]
      exact ⟨pwi_jb prem_jb l0 v (fun n h => hl n (List.mem_append_left _ h)) hs hb, he _⟩
  · rw [jed_rep x l v hm]
    exact ⟨pwi_jb (fun _ _ _ => hx) l v hl hs hb, he _⟩
end Lg
namespace Lg
open Go
def prM (m : List BJ) (key : ByteArray) : List BJ := m.take (rinsK m key) ++ m.drop (rinsK m key + 1)
section
variable [GLay] {key : ByteArray} {x y : JV}
theorem padM_nil : padM [] key x = [(key, x)] := by simp [padM, fnd, rinsK]
theorem padM_cons (q : BJ) (r : List BJ) : padM (q :: r) key x = if blt q.1 key = true then q :: padM r key x else if q.1 = key then (key, x) :: r else (key, x) :: q :: r := by
  unfold padM
  rw [rinsK_cons, fnd_cons]
  by_cases h : blt q.1 key = true
  · simp only [if_pos h]
    by_cases hf : fnd r key = true
    · rw [if_pos hf, if_pos hf]; rfl
    · rw [if_neg hf, if_neg hf]; rfl
  · simp only [if_neg h]
    by_cases hq : q.1 = key
    · simp [hq]
    · simp [hq]
theorem padM_mem : ∀ (m : List BJ), ∀ q ∈ padM m key x, q = (key, x) ∨ q ∈ m
  | [], q, h => by rw [padM_nil] at h; simp at h; exact .inl h
  | p :: r, q, h => by
    rw [padM_cons] at h
    split at h
    · rcases List.mem_cons.1 h with h | h
      · exact .inr (h ▸ List.mem_cons_self ..)
      · rcases padM_mem r q h with h | h
        · exact .inl h
        · exact .inr (List.mem_cons_of_mem _ h)
    · split at h
      · rcases List.mem_cons.1 h with h | h
        · exact .inl h
        · exact .inr (List.mem_cons_of_mem _ h)
      · rcases List.mem_cons.1 h with h | h
        · exact .inl h
        · exact .inr h
theorem padM_sorted : ∀ {m : List BJ}, msorted m → msorted (padM m key x)
  | [], _ => by rw [padM_nil]; exact List.pairwise_singleton _ _
  | p :: r, hs => by
    have hs' : msorted r := (List.pairwise_cons.1 hs).2
    have hall := (List.pairwise_cons.1 hs).1
    rw [padM_cons]
    split
    · rename_i hb
      refine List.pairwise_cons.2 ⟨fun q hq => ?_, padM_sorted hs'⟩
      rcases padM_mem r q hq with h | h
      · subst h; exact hb
      · exact hall q h
    · rename_i hb
      split
      · rename_i hq
        exact List.pairwise_cons.2 ⟨fun q h => by rw [← hq]; exact hall q h, hs'⟩
      · rename_i hq
        have hlt := blt_tri hb hq
        refine List.pairwise_cons.2 ⟨fun q h => ?_, hs⟩
        rcases List.mem_cons.1 h with h | h
        · subst h; exact hlt
        · exact blt_trans hlt (hall q h)
theorem prM_sorted {m : List BJ} (h : msorted m) : msorted (prM m key) := by
  unfold prM; rw [← List.eraseIdx_eq_take_drop_succ]
  exact List.Pairwise.sublist (List.eraseIdx_sublist ..) h
theorem set_keys {m : List BJ} {k : Nat} {q : BJ} (hq : m[k]? = some q) : (m.set k (q.1, y)).map (·.1) = m.map (·.1) := by
  obtain ⟨hk, e⟩ := List.getElem?_eq_some_iff.1 hq
  rw [List.map_set]
  have : (m.map (·.1))[k]'(by simpa using hk) = q.1 := by simp [e]
  show List.set _ k q.1 = _
  rw [← this, List.set_getElem_self]
theorem ms_keys {m n : List BJ} (h : m.map (·.1) = n.map (·.1)) (hs : msorted n) : msorted m := by
  have h1 : (n.map (·.1)).Pairwise (fun a b => blt a b = true) := List.pairwise_map.2 hs
  rw [← h] at h1
  exact List.pairwise_map.1 h1
end
section
variable [GLay] {nm : BL} {r : List BL} {v : JV}
theorem jget_f5 {q : BJ} (hs : msorted v.m) (h5 : v.kind = 5) (hf : fnd v.m (ba nm) = true) (hq : v.m[rinsK v.m (ba nm)]? = some q) : jget (nm :: r) v = jget r q.2 := by
  have e : jfD v (ba nm) = q.2 := by unfold jfD jfind; rw [if_pos h5, find_sort _ hs, if_pos hf, hq]; rfl
  rw [jget_5 (by omega) (by rw [jfB_fnd h5 hs]; exact hf), e]
theorem jget_nf5 (hs : msorted v.m) (h5 : v.kind = 5) (hf : fnd v.m (ba nm) = false) : jget (nm :: r) v = (vz, false) := jget_no5 (by omega) (by rw [jfB_fnd h5 hs]; exact hf)
theorem jget_nk (h4 : ¬ v.kind = 4) (h5 : ¬ v.kind = 5) : jget (nm :: r) v = (vz, false) := jget_no5 h4 (by unfold jfB jfind; rw [if_neg h5]; rfl)
theorem jget_st : ∀ (l : List BL) {v : JV}, jst v → jst (jget l v).1
  | [], v, h => h
  | nm :: r, v, h => by
    by_cases h4 : v.kind = 4
    · by_cases ho : jixO nm v.l.length false = true
      · obtain ⟨k, hk, hlt⟩ := jix_nat ho
        rw [jget_4 h4 ho hk (List.getElem?_eq_getElem hlt)]
        exact jget_st r (st_get h (List.getElem?_eq_getElem hlt))
      · rw [jget_no4 h4 (by simpa using ho)]; exact st_vz
    · by_cases h5 : v.kind = 5
      · by_cases hf : fnd v.m (ba nm) = true
        · obtain ⟨q, hq, _⟩ := fnd_get hf
          rw [jget_f5 (st_ms h) h5 hf hq]; exact jget_st r (st_mget h hq)
        · rw [jget_nf5 (st_ms h) h5 (by simpa using hf)]; exact st_vz
      · rw [jget_nk h4 h5]; exact st_vz
end
section
variable [GLay] {g : JV → JV × Bool}
theorem jv_eta (v : JV) : JV.mk v.kind v.b v.n v.s v.l v.m = v := by cases v; rfl
theorem set_mem {α : Type} {l : List α} {k : Nat} {a x : α} (h : x ∈ l.set k a) : x ∈ l ∨ x = a := List.mem_or_eq_of_mem_set h
theorem pwi_st (hg : ∀ v, jst v → jst (g v).1) : ∀ (l : List BL) (v : JV), jst v → jst (pwi g l v).1
  | [], v, h => hg v h
  | nm :: l, v, hv => by
    by_cases h4 : v.kind = 4
    · by_cases ho : jixO nm v.l.length false = true
      · obtain ⟨k, hk, hkl⟩ := jix_nat ho
        have ha : v.l[k]? = some v.l[k] := List.getElem?_eq_getElem hkl
        cases hb : (pwi g l v.l[k]).2 with
        | false => rw [pwi_bad4 h4 hk ha hb]; exact st_vz
        | true =>
          rw [pwi_4 h4 ho hk ha hb, st_eq]
          have hv' := (st_eq v).1 hv
          refine ⟨fun h => absurd h4 h, hv'.2.1, hv'.2.2.1, fun x hx => ?_, hv'.2.2.2.2⟩
          rcases set_mem hx with hx | hx
          · exact hv'.2.2.2.1 x hx
          · rw [hx]; exact pwi_st hg l _ (st_get hv ha)
      · rw [pwi_no4 h4 (by simpa using ho)]; exact st_vz
    · by_cases h5 : v.kind = 5
      · by_cases hf : fnd v.m (ba nm) = true
        · obtain ⟨q, hq, hqk⟩ := fnd_get hf
          have hqk : q.1 = ba nm := hqk
          cases hb : (pwi g l q.2).2 with
          | false => rw [pwi_bad5 h4 hq hb]; exact st_vz
          | true =>
            rw [pwi_5 h4 h5 hf hq hb, st_eq]
            have hv' := (st_eq v).1 hv
            refine ⟨hv'.1, fun h => absurd h5 h, ms_keys (n := v.m) (by rw [← hqk]; rw [← hqk] at hq; exact set_keys hq) hv'.2.2.1, hv'.2.2.2.1, fun x hx => ?_⟩
            rcases set_mem hx with hx | hx
            · exact hv'.2.2.2.2 x hx
            · rw [hx]; exact pwi_st hg l _ (st_mget hv hq)
        · rw [pwi_no5 h4 (by simpa using hf)]; exact st_vz
      · rw [pwi_n h4 h5]; exact st_vz
end
section
variable [GLay] {nm : BL} {x u : JV}
theorem padd_st (hx : jst x) (v : JV) (hv : jst v) : jst (padd nm x v).1 := by
  have hv' := (st_eq v).1 hv
  by_cases h4 : v.kind = 4
  · by_cases ho : jixO nm v.l.length true = true
    · obtain ⟨k, hk, hkl⟩ := jix_nat2 ho
      rw [padd_4 h4 ho hk, st_eq]
      refine ⟨fun h => absurd h4 h, hv'.2.1, hv'.2.2.1, fun y hy => ?_, hv'.2.2.2.2⟩
      rcases List.mem_append.1 hy with h | h
      · exact hv'.2.2.2.1 y (List.mem_of_mem_take h)
      · rcases List.mem_cons.1 h with h | h
        · rw [h]; exact hx
        · exact hv'.2.2.2.1 y (List.mem_of_mem_drop h)
    · rw [padd_no h4 (by simpa using ho)]; exact st_vz
  · by_cases h5 : v.kind = 5
    · rw [padd_5 h5, st_eq]
      refine ⟨hv'.1, fun h => absurd h5 h, padM_sorted hv'.2.2.1, hv'.2.2.2.1, fun q hq => ?_⟩
      rcases padM_mem _ q hq with h | h
      · rw [h]; exact hx
      · exact hv'.2.2.2.2 q h
    · rw [padd_n h4 h5]; exact st_vz
theorem prem_st (v : JV) (hv : jst v) : jst (prem nm v).1 := by
  have hv' := (st_eq v).1 hv
  by_cases h4 : v.kind = 4
  · by_cases ho : jixO nm v.l.length false = true
    · obtain ⟨k, hk, hkl⟩ := jix_nat ho
      rw [prem_4 h4 ho hk, st_eq]
      refine ⟨fun h => absurd h4 h, hv'.2.1, hv'.2.2.1, fun y hy => ?_, hv'.2.2.2.2⟩
      rcases List.mem_append.1 hy with h | h
      · exact hv'.2.2.2.1 y (List.mem_of_mem_take h)
      · exact hv'.2.2.2.1 y (List.mem_of_mem_drop h)
    · rw [prem_no h4 (by simpa using ho)]; exact st_vz
  · by_cases h5 : v.kind = 5
    · by_cases hf : fnd v.m (ba nm) = true
      · rw [prem_5 h5 hf, st_eq]
        refine ⟨hv'.1, fun h => absurd h5 h, prM_sorted hv'.2.2.1, hv'.2.2.2.1, fun q hq => ?_⟩
        rcases List.mem_append.1 hq with h | h
        · exact hv'.2.2.2.2 q (List.mem_of_mem_take h)
        · exact hv'.2.2.2.2 q (List.mem_of_mem_drop h)
      · rw [prem_no5 h5 (by simpa using hf)]; exact st_vz
    · rw [prem_n h4 h5]; exact st_vz
theorem jed_st {op : Int} (hop : op = 1 ∨ op = 2 ∨ op = 3) {x : JV} (hx : jst x) (l : List BL) {v : JV} (hv : jst v) : jst (jed op x l v).1 := by
  rcases hop with rfl | rfl | rfl
  · rcases List.eq_nil_or_concat l with rfl | ⟨l0, nm, rfl⟩
    · rw [jed_nil (by decide)]; exact hx
    · rw [List.concat_eq_append, jed_add x l0 nm v hv]; exact pwi_st (padd_st hx) l0 v hv
  · rcases List.eq_nil_or_concat l with rfl | ⟨l0, nm, rfl⟩
    · rw [jed_nil2]; exact st_vz
    · rw [List.concat_eq_append, jed_rem x l0 nm v hv]; exact pwi_st prem_st l0 v hv
  · rw [jed_rep x l v hv]; exact pwi_st (fun _ _ => hx) l v hv
end
section
variable [GLay] {x z v : JV} {l0 : List BL} {nm : BL}
end
end Lg
namespace Lg
open Go
noncomputable def jdo (v : JV) (o : JOp) : JV × Int := open Classical in
  if o.op ≤ 3 then jed o.op o.v o.pa v else
  if o.op = 4 ∧ o.fr.length < o.pa.length ∧ o.pa.take o.fr.length = o.fr then (vz, 9) else
  if (jget (if o.op = 6 then o.pa else o.fr) v).2 = false then (vz, 6) else
  if o.op = 6 then (if (jget o.pa v).1 = o.v then (v, 0) else (vz, 8)) else
  if o.op = 4 then (if o.pa = o.fr then (v, 0) else if (jed 2 vz o.fr v).2 ≠ 0 then (vz, (jed 2 vz o.fr v).2) else jed 1 (jget o.fr v).1 o.pa (jed 2 vz o.fr v).1) else
  jed 1 (jget o.fr v).1 o.pa v
def pmv (v : JV) (o : JOp) : JV × Int :=
  if o.fr.length < o.pa.length ∧ o.pa.take o.fr.length = o.fr then (vz, 9) else
  if (jget o.fr v).2 = false then (v, 6) else
  if o.pa = o.fr then (v, 0) else
  if (jed 2 vz o.fr v).2 ≠ 0 then (vz, (jed 2 vz o.fr v).2) else jed 1 (jget o.fr v).1 o.pa (jed 2 vz o.fr v).1
noncomputable def pts (v : JV) (o : JOp) : JV × Int := open Classical in
  (v, if (jget o.pa v).2 = false then 6 else if (jget o.pa v).1 = o.v then 0 else 8)
noncomputable def pdo (v : JV) (o : JOp) : JV × Int :=
  if o.op = 1 ∨ o.op = 2 ∨ o.op = 3 then jed o.op o.v o.pa v else
  if o.op = 4 then pmv v o else
  if o.op = 5 then (if (jget o.fr v).2 = false then (vz, 6) else jed 1 (jget o.fr v).1 o.pa v) else pts v o
theorem pdo_jdo {v : JV} {o : JOp} (h1 : 1 ≤ o.op) (h6 : o.op ≤ 6) : (pdo v o).2 = (jdo v o).2 ∧ ((jdo v o).2 = 0 → pdo v o = jdo v o) := by
  obtain ⟨op, pa, fr, w⟩ := o
  simp only at h1 h6
  rcases (show op = 1 ∨ op = 2 ∨ op = 3 ∨ op = 4 ∨ op = 5 ∨ op = 6 by omega) with rfl | rfl | rfl | rfl | rfl | rfl
  · exact ⟨rfl, fun _ => rfl⟩
  · exact ⟨rfl, fun _ => rfl⟩
  · exact ⟨rfl, fun _ => rfl⟩
  · have e1 : pdo v ⟨4, pa, fr, w⟩ = pmv v ⟨4, pa, fr, w⟩ := rfl
    have e2 : jdo v ⟨4, pa, fr, w⟩ = if fr.length < pa.length ∧ pa.take fr.length = fr then (vz, 9) else if (jget fr v).2 = false then (vz, 6) else (if pa = fr then (v, 0) else if (jed 2 vz fr v).2 ≠ 0 then (vz, (jed 2 vz fr v).2) else jed 1 (jget fr v).1 pa (jed 2 vz fr v).1) := by
      unfold jdo
      simp only [if_neg (show ¬ (4 : Int) ≤ 3 by decide), if_neg (show ¬ (4 : Int) = 6 by decide), true_and, if_true]
    rw [e1, e2]
    unfold pmv
    simp only
    by_cases ha : fr.length < pa.length ∧ pa.take fr.length = fr
    · rw [if_pos ha, if_pos ha]; exact ⟨rfl, fun _ => rfl⟩
    · rw [if_neg ha, if_neg ha]
      by_cases hb : (jget fr v).2 = false
      · rw [if_pos hb, if_pos hb]; exact ⟨rfl, fun h => absurd h (show ¬ (6 : Int) = 0 by decide)⟩
      · rw [if_neg hb, if_neg hb]; exact ⟨rfl, fun _ => rfl⟩
  · have e1 : pdo v ⟨5, pa, fr, w⟩ = if (jget fr v).2 = false then (vz, 6) else jed 1 (jget fr v).1 pa v := rfl
    have e2 : jdo v ⟨5, pa, fr, w⟩ = if (jget fr v).2 = false then (vz, 6) else jed 1 (jget fr v).1 pa v := by
      unfold jdo
      simp only [if_neg (show ¬ (5 : Int) ≤ 3 by decide), if_neg (show ¬ (5 : Int) = 6 by decide), if_neg (show ¬ (5 : Int) = 4 by decide)]
      rw [if_neg (fun h => absurd h.1 (by decide))]
    rw [e1, e2]; exact ⟨rfl, fun _ => rfl⟩
  · have e1 : pdo v ⟨6, pa, fr, w⟩ = pts v ⟨6, pa, fr, w⟩ := rfl
    have e2 : jdo v ⟨6, pa, fr, w⟩ = open Classical in if (jget pa v).2 = false then (vz, 6) else if (jget pa v).1 = w then (v, 0) else (vz, 8) := by
      unfold jdo
      simp only [if_neg (show ¬ (6 : Int) ≤ 3 by decide), if_true]
      rw [if_neg (fun h => absurd h.1 (by decide))]
    rw [e1, e2]
    unfold pts
    simp only
    by_cases hb : (jget pa v).2 = false
    · rw [if_pos hb, if_pos hb]; exact ⟨rfl, fun h => absurd h (show ¬ (6 : Int) = 0 by decide)⟩
    · rw [if_neg hb, if_neg hb]
      by_cases hs : (jget pa v).1 = w
      · rw [if_pos hs, if_pos hs]; exact ⟨rfl, fun _ => rfl⟩
      · rw [if_neg hs, if_neg hs]; exact ⟨rfl, fun h => absurd h (show ¬ (8 : Int) = 0 by decide)⟩
def jchk (r : JV × Int) : Int := if r.2 ≠ 0 then r.2 else if 3000 < jsize r.1 then 5 else if 32 < jdepth r.1 then 3 else 0
noncomputable def jap : List JOp → JV → Nat → JV × Int × Int
  | [], v, _ => (v, 0, 0)
  | o :: r, v, i => if jchk (jdo v o) ≠ 0 then (vz, jchk (jdo v o), (i : Int)) else jap r (jdo v o).1 (i + 1)
theorem jap_ok {o : JOp} {r : List JOp} {v : JV} {i : Nat} (h : jchk (jdo v o) = 0) : jap (o :: r) v i = jap r (jdo v o).1 (i + 1) := by rw [jap, if_neg (by simp [h])]
theorem jap_bad {o : JOp} {r : List JOp} {v : JV} {i : Nat} {c : Int} (h : jchk (jdo v o) = c) (hc : ¬ c = 0) : jap (o :: r) v i = (vz, c, (i : Int)) := by rw [jap, h, if_pos hc]
theorem jchk_0 {r : JV × Int} (h : jchk r = 0) : r.2 = 0 ∧ jsize r.1 ≤ 3000 ∧ jdepth r.1 ≤ 32 := by
  unfold jchk at h
  split at h
  · rename_i h1; exact absurd h h1
  · rename_i h1
    split at h
    · cases h
    · split at h
      · cases h
      · exact ⟨Classical.byContradiction h1, by omega, by omega⟩
theorem jap_app (l m : List JOp) : ∀ (v : JV) (i : Nat), jap (l ++ m) v i = if (jap l v i).2.1 = 0 then jap m (jap l v i).1 (i + l.length) else jap l v i := by
  induction l with
  | nil => intro v i; simp [jap]
  | cons o r ih =>
    intro v i
    rw [List.cons_append]
    by_cases h : jchk (jdo v o) = 0
    · rw [jap_ok h, jap_ok h, ih, List.length_cons, show i + 1 + r.length = i + (r.length + 1) by omega]
    · rw [jap_bad rfl h, jap_bad rfl h, if_neg h]
theorem jap_shift (l : List JOp) : ∀ (v : JV) (i j : Nat), (jap l v i).1 = (jap l v j).1 ∧ (jap l v i).2.1 = (jap l v j).2.1 ∧ ((jap l v i).2.1 ≠ 0 → (jap l v (i + j)).2.2 = (jap l v j).2.2 + i) := by
  induction l with
  | nil => intro v i j; exact ⟨rfl, rfl, fun h => absurd rfl h⟩
  | cons o r ih =>
    intro v i j
    by_cases h : jchk (jdo v o) = 0
    · rw [jap_ok h, jap_ok h, jap_ok h]
      obtain ⟨h1, h2, _⟩ := ih (jdo v o).1 (i + 1) (j + 1)
      refine ⟨h1, h2, fun h3 => ?_⟩
      have := (ih (jdo v o).1 i (j + 1)).2.2 (by rw [(ih (jdo v o).1 i (j + 1)).2.1, ← h2]; exact h3)
      rw [show i + j + 1 = i + (j + 1) by omega]; exact this
    · rw [jap_bad rfl h, jap_bad rfl h, jap_bad rfl h]
      exact ⟨rfl, rfl, fun _ => by show ((i + j : Nat) : Int) = j + i; omega⟩
end Lg
namespace Lg
open Go
theorem lsize_app (a b : List JV) : lsize (a ++ b) = lsize a + lsize b := by
  induction a with
  | nil => simp [lsize]
  | cons x r ih => simp only [List.cons_append, lsize, ih]; omega
theorem msize_app (a b : List BJ) : msize (a ++ b) = msize a + msize b := by
  induction a with
  | nil => simp [msize]
  | cons x r ih => obtain ⟨k, x⟩ := x; simp only [List.cons_append, msize, ih]; omega
theorem lsize_split {l : List JV} {k : Nat} (hk : k < l.length) : lsize l = lsize (l.take k) + jsize l[k] + lsize (l.drop (k + 1)) := by
  have h : l = l.take k ++ (l[k] :: l.drop (k + 1)) := by rw [← List.drop_eq_getElem_cons hk, List.take_append_drop]
  conv => lhs; rw [h]
  rw [lsize_app, lsize]; omega
theorem msize_split {l : List BJ} {k : Nat} (hk : k < l.length) : msize l = msize (l.take k) + jsize l[k].2 + msize (l.drop (k + 1)) := by
  have h : l = l.take k ++ (l[k] :: l.drop (k + 1)) := by rw [← List.drop_eq_getElem_cons hk, List.take_append_drop]
  have e : l[k] = (l[k].1, l[k].2) := rfl
  conv => lhs; rw [h, e]
  rw [msize_app, msize]; omega
theorem lsize_set {l : List JV} {k : Nat} (hk : k < l.length) (a : JV) : lsize (l.set k a) = lsize l - jsize l[k] + jsize a := by
  rw [lsize_split hk, List.set_eq_take_append_cons_drop, if_pos hk, lsize_app, lsize]; omega
theorem msize_set {l : List BJ} {k : Nat} (hk : k < l.length) (n : ByteArray) (a : JV) : msize (l.set k (n, a)) = msize l - jsize l[k].2 + jsize a := by
  rw [msize_split hk, List.set_eq_take_append_cons_drop, if_pos hk, msize_app, msize]; omega
theorem vz_size : jsize vz = 1 := vz_js
section
variable [GLay] {g : JV → JV × Bool} {C : Int}
theorem pwi_size (hC : 0 ≤ C) (hg : ∀ v, jsize (g v).1 ≤ jsize v + C) : ∀ (l : List BL) (v : JV), jsize (pwi g l v).1 ≤ jsize v + C
  | [], v => hg v
  | nm :: r, v => by
    have hp := jsize_pos v
    have hz : jsize vz ≤ jsize v + C := by rw [vz_size]; omega
    have hv := jsize_eq v
    by_cases h4 : v.kind = 4
    · by_cases ho : jixO nm v.l.length false = true
      · obtain ⟨k, hk, hkl⟩ := jix_nat ho
        have ha : v.l[k]? = some v.l[k] := List.getElem?_eq_getElem hkl
        cases hb : (pwi g r v.l[k]).2 with
        | false => rw [pwi_bad4 h4 hk ha hb]; exact hz
        | true =>
          rw [pwi_4 h4 ho hk ha hb]
          show jsize (JV.mk _ _ _ _ (v.l.set k _) _) ≤ _
          have ih := pwi_size hC hg r v.l[k]
          rw [jsize, lsize_set hkl]; omega
      · rw [pwi_no4 h4 (by simpa using ho)]; exact hz
    · by_cases h5 : v.kind = 5
      · by_cases hf : fnd v.m (ba nm) = true
        · obtain ⟨q, hq, hqk⟩ := fnd_get hf
          have hkl := (List.getElem?_eq_some_iff.1 hq).1
          have hqe : v.m[rinsK v.m (ba nm)] = q := (List.getElem?_eq_some_iff.1 hq).2
          cases hb : (pwi g r q.2).2 with
          | false => rw [pwi_bad5 h4 hq hb]; exact hz
          | true =>
            rw [pwi_5 h4 h5 hf hq hb]
            show jsize (JV.mk _ _ _ _ _ (v.m.set (rinsK v.m (ba nm)) _)) ≤ _
            have ih := pwi_size hC hg r q.2
            rw [jsize, msize_set hkl, hqe]; omega
        · rw [pwi_no5 h4 (by simpa using hf)]; exact hz
      · rw [pwi_n h4 h5]; exact hz
theorem padM_size (m : List BJ) (key : ByteArray) (x : JV) : msize (padM m key x) ≤ msize m + jsize x := by
  induction m with
  | nil => rw [padM_nil]; simp [msize]
  | cons q r ih =>
    obtain ⟨k, y⟩ := q
    have := jsize_pos y
    rw [padM_cons]
    split
    · simp only [msize]; omega
    · split
      · simp only [msize]; omega
      · simp only [msize]; omega
theorem padd_size (nm : BL) (x v : JV) : jsize (padd nm x v).1 ≤ jsize v + jsize x := by
  have hp := jsize_pos v
  have hx := jsize_pos x
  have hv := jsize_eq v
  by_cases h4 : v.kind = 4
  · by_cases ho : jixO nm v.l.length true = true
    · obtain ⟨k, hk, hkl⟩ := jix_nat2 ho
      rw [padd_4 h4 ho hk]
      show jsize (JV.mk _ _ _ _ (v.l.take k ++ x :: v.l.drop k) _) ≤ _
      have h1 : lsize (v.l.take k) + lsize (v.l.drop k) = lsize v.l := by rw [← lsize_app, List.take_append_drop]
      rw [jsize, lsize_app, lsize]; omega
    · rw [padd_no h4 (by simpa using ho)]; show jsize vz ≤ _; rw [vz_size]; omega
  · by_cases h5 : v.kind = 5
    · rw [padd_5 h5]
      show jsize (JV.mk _ _ _ _ _ (padM v.m (ba nm) x)) ≤ _
      have := padM_size v.m (ba nm) x
      rw [jsize]; omega
    · rw [padd_n h4 h5]; show jsize vz ≤ _; rw [vz_size]; omega
theorem prem_size (nm : BL) (v : JV) : jsize (prem nm v).1 ≤ jsize v + 0 := by
  have hp := jsize_pos v
  have hv := jsize_eq v
  by_cases h4 : v.kind = 4
  · by_cases ho : jixO nm v.l.length false = true
    · obtain ⟨k, hk, hkl⟩ := jix_nat ho
      rw [prem_4 h4 ho hk]
      show jsize (JV.mk _ _ _ _ (v.l.take k ++ v.l.drop (k + 1)) _) ≤ _
      have h1 := lsize_split hkl
      have h2 := jsize_pos v.l[k]
      rw [jsize, lsize_app]; omega
    · rw [prem_no h4 (by simpa using ho)]; show jsize vz ≤ _; rw [vz_size]; omega
  · by_cases h5 : v.kind = 5
    · by_cases hf : fnd v.m (ba nm) = true
      · obtain ⟨q, hq, hqk⟩ := fnd_get hf
        have hkl := (List.getElem?_eq_some_iff.1 hq).1
        rw [prem_5 h5 hf]
        show jsize (JV.mk _ _ _ _ _ (v.m.take (rinsK v.m (ba nm)) ++ v.m.drop (rinsK v.m (ba nm) + 1))) ≤ _
        have h1 := msize_split hkl
        have h2 := jsize_pos v.m[rinsK v.m (ba nm)].2
        rw [jsize, msize_app]; omega
      · rw [prem_no5 h5 (by simpa using hf)]; show jsize vz ≤ _; rw [vz_size]; omega
    · rw [prem_n h4 h5]; show jsize vz ≤ _; rw [vz_size]; omega
theorem jed_size {op : Int} (hop : op = 1 ∨ op = 2 ∨ op = 3) (x : JV) (l : List BL) {v : JV} (hv : jst v) : jsize (jed op x l v).1 ≤ jsize v + jsize x := by
  have hx := jsize_pos x
  have hp := jsize_pos v
  rcases hop with rfl | rfl | rfl
  · rcases List.eq_nil_or_concat l with rfl | ⟨l0, nm, rfl⟩
    · rw [jed_nil (by decide)]; show jsize x ≤ _; omega
    · rw [List.concat_eq_append, jed_add x l0 nm v hv]; exact pwi_size (by omega) (padd_size nm x) l0 v
  · rcases List.eq_nil_or_concat l with rfl | ⟨l0, nm, rfl⟩
    · rw [jed_nil2]; show jsize vz ≤ _; rw [vz_size]; omega
    · rw [List.concat_eq_append, jed_rem x l0 nm v hv]
      have := pwi_size (Int.le_refl 0) (prem_size nm) l0 v
      show jsize (pwi _ _ _).1 ≤ _; omega
  · rw [jed_rep x l v hv]
    exact pwi_size (by omega) (fun u => by have := jsize_pos u; show jsize x ≤ _; omega) l v
end
structure OPB (o : JOp) : Prop where
  lo : 1 ≤ o.op
  hi : o.op ≤ 6
  jb : Lg.jb o.v
  st : jst o.v
  sz : jsize o.v ≤ 3000
  pa : o.pa.length ≤ 2000000
  fr : o.fr.length ≤ 2000000
  pan : ∀ n ∈ o.pa, n.length ≤ 1000000
  frn : ∀ n ∈ o.fr, n.length ≤ 1000000
section
variable [GLay] {v : JV} {o : JOp}
theorem jdo_le3 (h : o.op ≤ 3) : jdo v o = jed o.op o.v o.pa v := by unfold jdo; rw [if_pos h]
theorem jdo_t0 (h : ¬ o.op ≤ 3) (hi : ¬ (o.op = 4 ∧ o.fr.length < o.pa.length ∧ o.pa.take o.fr.length = o.fr)) (hg : ¬ (jget (if o.op = 6 then o.pa else o.fr) v).2 = false) (h6 : o.op = 6) (hs : (jget o.pa v).1 = o.v) : jdo v o = (v, 0) := by unfold jdo; rw [if_neg h, if_neg hi, if_neg hg, if_pos h6, if_pos hs]
theorem jdo_stay (h : ¬ o.op ≤ 3) (hi : ¬ (o.op = 4 ∧ o.fr.length < o.pa.length ∧ o.pa.take o.fr.length = o.fr)) (hg : ¬ (jget (if o.op = 6 then o.pa else o.fr) v).2 = false) (h6 : ¬ o.op = 6) (h4 : o.op = 4) (he : o.pa = o.fr) : jdo v o = (v, 0) := by unfold jdo; rw [if_neg h, if_neg hi, if_neg hg, if_neg h6, if_pos h4, if_pos he]
theorem pmv_ok (hob : OPB o) (hb : jb v) (hs : jst v) (hz : jsize v ≤ 3000) : (jb (pmv v o).1 ∧ jst (pmv v o).1 ∧ jsize (pmv v o).1 ≤ 9000) ∧ 0 ≤ (pmv v o).2 ∧ (pmv v o).2 ≤ 9 := by
  have hvz : jb vz ∧ jst vz ∧ jsize vz ≤ 9000 := ⟨vz_jb0, st_vz, by rw [vz_size]; decide⟩
  have hw := jget_jb o.fr hb
  have hws := jget_st o.fr hs
  have hwz := jget_size o.fr hz (by decide)
  have hr := jed_jb (op := 2) (.inr (.inl rfl)) vz_jb0 o.fr hob.frn (by omega : jsize v ≤ 10000) hb hs
  have hrs := jed_st (op := 2) (.inr (.inl rfl)) st_vz o.fr hs
  have hrz := jed_size (op := 2) (.inr (.inl rfl)) vz o.fr hs
  rw [vz_size] at hrz
  have ha := jed_jb (op := 1) (.inl rfl) hw o.pa hob.pan (by omega : jsize (jed 2 vz o.fr v).1 ≤ 10000) hr.1 hrs
  have has := jed_st (op := 1) (.inl rfl) hws o.pa hrs
  have haz := jed_size (op := 1) (.inl rfl) (jget o.fr v).1 o.pa hrs
  unfold pmv
  split
  · exact ⟨hvz, by show (0 : Int) ≤ 9; decide, Int.le_refl _⟩
  · split
    · exact ⟨⟨hb, hs, by show jsize v ≤ 9000; omega⟩, by show (0 : Int) ≤ 6; decide, by show (6 : Int) ≤ 9; decide⟩
    · split
      · exact ⟨⟨hb, hs, by show jsize v ≤ 9000; omega⟩, Int.le_refl _, by show (0 : Int) ≤ 9; decide⟩
      · split
        · exact ⟨hvz, hr.2.1, by have := hr.2.2; show (jed 2 vz o.fr v).2 ≤ 9; omega⟩
        · exact ⟨⟨ha.1, has, by omega⟩, ha.2.1, by have := ha.2.2; omega⟩
theorem pdo_ok (hob : OPB o) (hb : jb v) (hs : jst v) (hz : jsize v ≤ 3000) : (jb (pdo v o).1 ∧ jst (pdo v o).1 ∧ jsize (pdo v o).1 ≤ 9000) ∧ 0 ≤ (pdo v o).2 ∧ (pdo v o).2 ≤ 9 := by
  have hvz : jb vz ∧ jst vz ∧ jsize vz ≤ 9000 := ⟨vz_jb0, st_vz, by rw [vz_size]; decide⟩
  unfold pdo
  split
  · rename_i h
    have h1 := jed_jb h hob.jb o.pa hob.pan (by omega : jsize v ≤ 10000) hb hs
    have h2 := jed_size h o.v o.pa hs
    have h3 := hob.sz
    exact ⟨⟨h1.1, jed_st h hob.st o.pa hs, by omega⟩, h1.2.1, by have := h1.2.2; omega⟩
  · split
    · exact pmv_ok hob hb hs hz
    · split
      · split
        · exact ⟨hvz, by show (0 : Int) ≤ 6; decide, by show (6 : Int) ≤ 9; decide⟩
        · have hw := jget_jb o.fr hb
          have h1 := jed_jb (op := 1) (.inl rfl) hw o.pa hob.pan (by omega : jsize v ≤ 10000) hb hs
          have h2 := jed_size (op := 1) (.inl rfl) (jget o.fr v).1 o.pa hs
          have h3 := jget_size o.fr hz (by decide)
          exact ⟨⟨h1.1, jed_st (.inl rfl) (jget_st o.fr hs) o.pa hs, by omega⟩, h1.2.1, by have := h1.2.2; omega⟩
      · refine ⟨⟨hb, hs, by show jsize v ≤ 9000; omega⟩, ?_⟩
        show 0 ≤ (if _ then _ else _ : Int) ∧ (if _ then _ else _ : Int) ≤ 9
        split
        · decide
        · split <;> decide
theorem pts_6 (h : (jget o.pa v).2 = false) : pts v o = (v, 6) := by unfold pts; rw [if_pos h]
theorem pts_0 (h : ¬ (jget o.pa v).2 = false) (hs : (jget o.pa v).1 = o.v) : pts v o = (v, 0) := by unfold pts; rw [if_neg h, if_pos hs]
theorem pts_8 (h : ¬ (jget o.pa v).2 = false) (hs : ¬ (jget o.pa v).1 = o.v) : pts v o = (v, 8) := by unfold pts; rw [if_neg h, if_neg hs]
theorem pmv_into (h : o.fr.length < o.pa.length ∧ o.pa.take o.fr.length = o.fr) : pmv v o = (vz, 9) := by unfold pmv; rw [if_pos h]
theorem pmv_none (h : ¬ (o.fr.length < o.pa.length ∧ o.pa.take o.fr.length = o.fr)) (hg : (jget o.fr v).2 = false) : pmv v o = (v, 6) := by unfold pmv; rw [if_neg h, if_pos hg]
theorem pmv_stay (h : ¬ (o.fr.length < o.pa.length ∧ o.pa.take o.fr.length = o.fr)) (hg : ¬ (jget o.fr v).2 = false) (he : o.pa = o.fr) : pmv v o = (v, 0) := by unfold pmv; rw [if_neg h, if_neg hg, if_pos he]
theorem pmv_rbad (h : ¬ (o.fr.length < o.pa.length ∧ o.pa.take o.fr.length = o.fr)) (hg : ¬ (jget o.fr v).2 = false) (he : ¬ o.pa = o.fr) (hr : ¬ (jed 2 vz o.fr v).2 = 0) : pmv v o = (vz, (jed 2 vz o.fr v).2) := by unfold pmv; rw [if_neg h, if_neg hg, if_neg he, if_pos hr]
theorem pmv_mv (h : ¬ (o.fr.length < o.pa.length ∧ o.pa.take o.fr.length = o.fr)) (hg : ¬ (jget o.fr v).2 = false) (he : ¬ o.pa = o.fr) (hr : (jed 2 vz o.fr v).2 = 0) : pmv v o = jed 1 (jget o.fr v).1 o.pa (jed 2 vz o.fr v).1 := by unfold pmv; rw [if_neg h, if_neg hg, if_neg he, if_neg (fun z => z hr)]
theorem pdo_1 (h : o.op = 1) : pdo v o = jed 1 o.v o.pa v := by unfold pdo; rw [if_pos (.inl h), h]
theorem pdo_2 (h : o.op = 2) : pdo v o = jed 2 o.v o.pa v := by unfold pdo; rw [if_pos (.inr (.inl h)), h]
theorem pdo_3 (h : o.op = 3) : pdo v o = jed 3 o.v o.pa v := by unfold pdo; rw [if_pos (.inr (.inr h)), h]
theorem pdo_4 (h : o.op = 4) : pdo v o = pmv v o := by unfold pdo; rw [if_neg (by omega), if_pos h]
theorem pdo_5n (h : o.op = 5) (hg : (jget o.fr v).2 = false) : pdo v o = (vz, 6) := by unfold pdo; rw [if_neg (by omega), if_neg (by omega), if_pos h, if_pos hg]
theorem pdo_5 (h : o.op = 5) (hg : ¬ (jget o.fr v).2 = false) : pdo v o = jed 1 (jget o.fr v).1 o.pa v := by unfold pdo; rw [if_neg (by omega), if_neg (by omega), if_pos h, if_neg hg]
theorem pdo_6 (h : o.op = 6) : pdo v o = pts v o := by unfold pdo; rw [if_neg (by omega), if_neg (by omega), if_neg (by omega)]
end
end Lg
set_option maxRecDepth 20000
set_option maxHeartbeats 4000000
namespace Lg
open Go Go.Proofs Go.RowKit
variable [GLay] 
theorem ba_inj3 {x y : BL} (h : ba x = ba y) : x = y := by
  have := congrArg (fun b => b.data.toList) h
  simpa only [ba_toList] using this
theorem seq_c (f g : Bool) (a b : List BL) (ea eb : List (List AV)) (σ : List AO) (ha : ea = srow a) (hb : eb = srow b) (hl : a.length ≤ 100000000) (hl2 : b.length ≤ 100000000) : ACalls Tryz.prog 112 [.sl f 1 ea, .sl g 1 eb] σ (Ret (.bool (decide (a = b))) σ) := by
 refine ACalls_body Tryz.func112 rfl Tryz.ntmps112 (res1 Tryz.results112) (Nat.le_of_ble_eq_true rfl) (fun hcl hal => ?_)
 subst ha
 subst hb
 have hra := srow_len a
 have hrb := srow_len b
 refine zw1 ?_
 refine AWp_seq ?_
 refine zw5 ?_
 refine AWp_cond rfl (fun h1 => ?_) (fun h1 => ?_)
 ·(try rw [h1]); replace h1 := zcl h1
  refine zw1 ?_
  refine zrt ?_
  rw [decide_eq_false (fun e : a = b => by subst e; omega)]
  exact ResQ_10 rfl hcl trivial (Ret_of rfl)
 ·(try rw [h1]); replace h1 := zcl h1
  refine AWp_skip ?_
  refine AWp_seq ?_
  refine zw3 ?_
  refine AWp_block ?_
  -- loop 0 LIVE 0:param 1:param 4:assign 12:call 13:move
  refine AWp_loop (ι := Nat) (fun i => i ≤ a.length ∧ a.take i = b.take i) (fun i => ⟨[], [(0, .sl f 1 (srow a)), (1, .sl g 1 (srow b)), (12, .int .i64 ((srow a).length : Int)), (13, .int .i64 (i : Int))]⟩) (fun i => σ) (fun i => a.length - i) (0) (⟨Nat.zero_le _, by simp⟩) ?_ rfl (fun i hi => ?_)
  ·exact ⟨rfl, rfl, rfl, rfl, rfl, trivial⟩
  obtain ⟨hi1, hi2⟩ := hi
  refine zw1 ?_
  refine AWp_seq ?_
  refine AWp_cond rfl (fun h2 => ?_) (fun h2 => ?_)
  ·(try rw [h2]); replace h2 := zcl h2
   obtain ⟨x, hxa⟩ : ∃ x, a[i]? = some x := ⟨_, List.getElem?_eq_getElem (show i < a.length by omega)⟩
   obtain ⟨y, hyb⟩ : ∃ y, b[i]? = some y := ⟨_, List.getElem?_eq_getElem (show i < b.length by omega)⟩
   have hxr := srow_get hxa
   have hyr := srow_get hyb
   refine AWp_skip ?_
   refine AWp_seq ?_
   refine AWp_block ?_
   refine zw2 ?_
   refine AWp_seq ?_
   refine AWp_drawL #[0, 0, 3, 7, 0, 0, 48, 112, 255] Tryz.mixed (by decide +kernel) (by decide +kernel) ?_
   refine zd2 ?_
   refine yA rfl rfl (fun _ => op_indexAddr rfl Tryz.underlying31 Tryz.sizeOf9 rfl rfl (by omega) (hxr)) ?_
   refine zp1 ?_
   refine zd2 ?_
   refine yA rfl rfl (fun _ => op_indexAddr rfl Tryz.underlying31 Tryz.sizeOf9 rfl rfl (by omega) (hyr)) ?_
   refine zp1 ?_
   refine zd1 ?_
   refine RP.nil rfl ?_
   refine AWp_cond rfl (fun h3 => ?_) (fun h3 => ?_)
   ·(try rw [h3]); replace h3 := zcl h3
    refine zw1 ?_
    refine zrt ?_
    rw [decide_eq_false (fun e : a = b => by subst e; rw [hxa] at hyb; exact h3 (by rw [Option.some.inj hyb]))]
    exact ResQ_10 rfl hcl trivial (Ret_of rfl)
   ·(try rw [h3]); replace h3 := zcl h3
    refine AWp_skip ?_
    refine AWp_regL ?_
    refine zv2 ?_
    refine ⟨i + 1, σ.length, ⟨by omega, ?_⟩, by omega, Nat.le_refl _, ⟨rfl, rfl, rfl, rfl, rfl, trivial⟩, hcl, by simp [ltE, AV.lt], List.take_length⟩
    have hxy : x = y := ba_inj3 h3
    rw [ltake_succ hxa, ltake_succ hyb, hi2, hxy]
  ·(try rw [h2]); replace h2 := zcl h2
   refine AWp_exit ?_
   refine zw1 ?_
   refine zrt ?_
   rw [decide_eq_true (show a = b by rw [← List.take_length (l := a), show a.length = i by omega, hi2, show i = b.length by omega, List.take_length])]
   exact ResQ_10 rfl hcl trivial (Ret_of rfl)

end Lg
set_option maxRecDepth 20000
set_option maxHeartbeats 4000000
namespace Lg
open Go Go.Proofs Go.RowKit
variable [GLay] 
theorem ba_nil0 {nm : BL} : (ba nm = ⟨#[]⟩) = (nm = []) := propext ⟨fun h => by have := congrArg ByteArray.size h; rw [ba_size] at this; exact List.eq_nil_of_length_eq_zero this, fun h => by subst h; rfl⟩
theorem ba_minus {nm : BL} : (ba nm = ⟨#[45]⟩) = (nm = [45]) := propext ⟨fun h => by have := congrArg (fun b => b.data.toList) h; rwa [ba_toList] at this, fun h => by subst h; rfl⟩
theorem jixB_len {nm : BL} : jixB nm ↔ (nm.length = 0 ∨ ¬ runl (ba nm) 0 = nm.length ∨ (1 < nm.length ∧ (bat (ba nm) 0).toNat = 48) ∨ 18 < nm.length) := by unfold jixB; rw [List.length_eq_zero_iff]
theorem ridx_c (nm : BL) (n : Nat) (e : Bool) (σ : List AO) (hs : nm.length ≤ 1000000) (hn : n ≤ 1000000000) : ACalls Tryz.prog 47 [.str (ba nm), .int .i64 (n : Int), .bool e] σ (Ret (.tup [.int .i64 (jixN nm n e), .bool (jixO nm n e)]) σ) := by
 refine ACalls_body Tryz.func47 rfl Tryz.ntmps47 (res2 Tryz.results47) (Nat.le_of_ble_eq_true rfl) (fun hcl hal => ?_)
 have hbs := ba_size nm
 refine zw2 ?_
 refine AWp_join (ι := Unit) (fun b => ¬ (e = true ∧ nm = [45])) (fun b => ⟨[], [(0, .str (ba nm)), (1, .int .i64 (n : Int)), (2, .bool e), (6, .int .i64 0), (7, .bool false)]⟩) (fun b => σ) ?_ (fun b hj => ?_)
 ·skip
  refine zu2 ?_
  refine zsp 11 rfl (fun h1 => ?_) fun h1 => ?_
  ·rw [h1]; replace h1 := zcl h1
   refine zv3 ?_
   refine AWp_cond rfl (fun h2 => ?_) (fun h2 => ?_)
   ·(try rw [h2]); replace h2 := zcl h2
    refine zw3 ?_
    refine zrt ?_
    obtain ⟨q1, q2⟩ := jix_minus (n := n) (e := true) rfl (ba_minus ▸ h2)
    rw [q1, q2]
    exact ResQ_20 rfl rfl hcl (by simp [AV.lt, AV.ltL]) (Ret_of rfl)
   ·(try rw [h2]); replace h2 := zcl h2
    refine AWp_skip ?_
    exact ⟨(), (fun x => h2 (ba_minus ▸ x.2)), ⟨rfl, rfl, rfl, rfl, rfl, rfl, trivial⟩, rfl⟩
  ·rw [h1]; replace h1 := zcl h1
   refine zv3 ?_
   refine AWp_condF rfl ?_
   refine AWp_skip ?_
   exact ⟨(), (fun x => by cases x.1), ⟨rfl, rfl, rfl, rfl, rfl, rfl, trivial⟩, rfl⟩
 ·skip
  have hj0 := hj
  clear hj
  refine AWp_seq ?_
  refine AWp_join (ι := Bool) (fun b => b = decide (jixB nm)) (fun b => ⟨[], [(0, .str (ba nm)), (1, .int .i64 (n : Int)), (2, .bool e), (6, .int .i64 0), (7, .bool false), (39, .bool b)]⟩) (fun b => σ) ?_ (fun b hj => ?_)
  ·skip
   refine AWp_regL ?_
   refine zg3 ?_
   refine zsp 18 rfl (fun h3 => ?_) fun h3 => ?_
   ·rw [h3]; replace h3 := zcl h3
    refine zg20 ?_
    refine zg1 ?_
    refine zon ?_
    refine ⟨_, ?_, ⟨rfl, rfl, rfl, rfl, rfl, rfl, rfl, trivial⟩, rfl⟩
    (try rw [ba_nil0, ← List.length_eq_zero_iff] at h3)
    (try rw [show ((0 : Int).toNat) = 0 from rfl] at h4)
    (try rw [show ((0 : Int).toNat) = 0 from rfl] at h6)
    first | exact (decide_eq_true (jixB_len.2 (by omega))).symm | exact (decide_eq_false (fun x => by have := jixB_len.1 x; omega)).symm | exact decide_eq_decide.2 (by rw [jixB_len]; omega)
   ·rw [h3]; replace h3 := zcl h3
    refine zg1 ?_
    refine ztG rfl rfl (zc rfl (run_c _ _ _ (by omega) (by omega) (by omega))) ?_
    refine zg5 ?_
    refine zsp 25 rfl (fun h4 => ?_) fun h4 => ?_
    ·rw [h4]; replace h4 := zcl h4
     refine zg10 ?_
     refine zg4 ?_
     refine zon ?_
     refine ⟨_, ?_, ⟨rfl, rfl, rfl, rfl, rfl, rfl, rfl, trivial⟩, rfl⟩
     (try rw [ba_nil0, ← List.length_eq_zero_iff] at h3)
     (try rw [show ((0 : Int).toNat) = 0 from rfl] at h4)
     (try rw [show ((0 : Int).toNat) = 0 from rfl] at h6)
     first | exact (decide_eq_true (jixB_len.2 (by omega))).symm | exact (decide_eq_false (fun x => by have := jixB_len.1 x; omega)).symm | exact decide_eq_decide.2 (by rw [jixB_len]; omega)
    ·rw [h4]; replace h4 := zcl h4
     refine zg4 ?_
     refine zsp 29 rfl (fun h5 => ?_) fun h5 => ?_
     ·rw [h5]; replace h5 := zcl h5
      refine zg6 ?_
      refine zsp 35 rfl (fun h6 => ?_) fun h6 => ?_
      ·rw [h6]; replace h6 := zcl h6
       refine zv4 ?_
       refine ⟨_, ?_, ⟨rfl, rfl, rfl, rfl, rfl, rfl, rfl, trivial⟩, rfl⟩
       (try rw [ba_nil0, ← List.length_eq_zero_iff] at h3)
       (try rw [show ((0 : Int).toNat) = 0 from rfl] at h4)
       (try rw [show ((0 : Int).toNat) = 0 from rfl] at h6)
       first | exact (decide_eq_true (jixB_len.2 (by omega))).symm | exact (decide_eq_false (fun x => by have := jixB_len.1 x; omega)).symm | exact decide_eq_decide.2 (by rw [jixB_len]; omega)
      ·rw [h6]; replace h6 := zcl h6
       refine zv4 ?_
       refine ⟨_, ?_, ⟨rfl, rfl, rfl, rfl, rfl, rfl, rfl, trivial⟩, rfl⟩
       (try rw [ba_nil0, ← List.length_eq_zero_iff] at h3)
       (try rw [show ((0 : Int).toNat) = 0 from rfl] at h4)
       (try rw [show ((0 : Int).toNat) = 0 from rfl] at h6)
       first | exact (decide_eq_true (jixB_len.2 (by omega))).symm | exact (decide_eq_false (fun x => by have := jixB_len.1 x; omega)).symm | exact decide_eq_decide.2 (by rw [jixB_len]; omega)
     ·rw [h5]; replace h5 := zcl h5
      refine zg10 ?_
      refine zon ?_
      refine ⟨_, ?_, ⟨rfl, rfl, rfl, rfl, rfl, rfl, rfl, trivial⟩, rfl⟩
      (try rw [ba_nil0, ← List.length_eq_zero_iff] at h3)
      (try rw [show ((0 : Int).toNat) = 0 from rfl] at h4)
      (try rw [show ((0 : Int).toNat) = 0 from rfl] at h6)
      first | exact (decide_eq_true (jixB_len.2 (by omega))).symm | exact (decide_eq_false (fun x => by have := jixB_len.1 x; omega)).symm | exact decide_eq_decide.2 (by rw [jixB_len]; omega)
  ·skip
   subst hj
   refine AWp_cond rfl (fun h7 => ?_) (fun h7 => ?_)
   ·(try rw [h7]); replace h7 := zcl h7
    refine zw2 ?_
    refine zrt ?_
    obtain ⟨q1, q2⟩ := jix_bad (n := n) hj0 (by simpa using h7)
    rw [q1, q2]
    exact ResQ_20 rfl rfl hcl (by simp [AV.lt, AV.ltL]) (Ret_of rfl)
   ·(try rw [h7]); replace h7 := zcl h7
    have hb : ¬ jixB nm := by simpa using h7
    obtain ⟨hd, hl0, hl18⟩ := jixB_aD hb
    have hv0 := valL_bd hd
    refine AWp_skip ?_
    refine zw1 ?_
    refine AWp_seq ?_
    refine zw1 ?_
    refine AWp_block ?_
    -- loop 0 LIVE 0:param 1:param 2:param 6:assign 7:assign 8:assign 9:assign
    refine AWp_loop (ι := Nat) (fun i => i ≤ nm.length) (fun i => ⟨[], [(0, .str (ba nm)), (1, .int .i64 (n : Int)), (2, .bool e), (6, .int .i64 0), (7, .bool false), (8, .int .i64 (valL 0 (nm.take i))), (9, .int .i64 (i : Int))]⟩) (fun i => σ) (fun i => nm.length - i) (0) (Nat.zero_le _) ?_ rfl (fun i hi => ?_)
    ·repeat' first | rfl | trivial | constructor
    refine AWp_seq ?_
    refine zw4 ?_
    refine AWp_cond rfl (fun h8 => ?_) (fun h8 => ?_)
    ·(try rw [h8]); replace h8 := zcl h8
     obtain ⟨c, hc⟩ : ∃ c, nm[i]? = some c := ⟨_, List.getElem?_eq_getElem (show i < nm.length by omega)⟩
     have hb1 := valL_take hd hl18 (show i < nm.length by omega)
     have hc256 := c.toNat_lt
     have hbc : bat (ba nm) i = c := by rw [bat_ba, List.getD_eq_getElem?_getD, hc]; rfl
     have hbt : (bat (ba nm) (i : Int).toNat).toNat = c.toNat := by rw [Int.toNat_natCast, hbc]
     refine AWp_skip ?_
     refine AWp_seq ?_
     refine AWp_block ?_
     refine AWp_regL ?_
     refine zv9 ?_
     refine AWp_regL ?_
     refine zv3 ?_
     refine ⟨i + 1, σ.length, by omega, by omega, Nat.le_refl _, ⟨rfl, rfl, rfl, rfl, rfl, rfl, ?_, rfl, trivial⟩, hcl, by simp [ltE, AV.lt], List.take_length⟩
     have hst := valL_step hc
     rw [← hbt] at hst
     rw [hst]; rfl
    ·(try rw [h8]); replace h8 := zcl h8
     have hie : i = nm.length := by omega
     subst hie
     rw [List.take_length]
     refine AWp_exit ?_
     refine AWp_seq ?_
     refine zu4 ?_
     refine zsp 57 rfl (fun h9 => ?_) fun h9 => ?_
     ·rw [h9]; replace h9 := zcl h9
      refine zv7 ?_
      refine AWp_condT rfl ?_
      refine zw3 ?_
      refine zrt ?_
      obtain ⟨q1, q2⟩ := jix_val hj0 hb hv0.1 (.inl h9)
      rw [q1, q2]
      exact ResQ_20 rfl rfl hcl (by simp [AV.lt, AV.ltL]) (Ret_of rfl)
     ·rw [h9]; replace h9 := zcl h9
      refine zg4 ?_
      refine zsp 61 rfl (fun h10 => ?_) fun h10 => ?_
      ·rw [h10]; replace h10 := zcl h10
       refine zv3 ?_
       refine AWp_cond rfl (fun h11 => ?_) (fun h11 => ?_)
       ·(try rw [h11]); replace h11 := zcl h11
        refine zw3 ?_
        refine zrt ?_
        subst h11
        obtain ⟨q1, q2⟩ := jix_val hj0 hb hv0.1 (.inr ⟨h10, rfl⟩)
        rw [q1, q2]
        exact ResQ_20 rfl rfl hcl (by simp [AV.lt, AV.ltL]) (Ret_of rfl)
       ·(try rw [h11]); replace h11 := zcl h11
        refine AWp_skip ?_
        refine zw2 ?_
        refine zrt ?_
        have he : e = false := by simpa using h11
        subst he
        obtain ⟨q1, q2⟩ := jix_big (n := n) hj0 hb (fun x => x.elim (by omega) (fun y => by cases y.2))
        rw [q1, q2]
        exact ResQ_20 rfl rfl hcl (by simp [AV.lt, AV.ltL]) (Ret_of rfl)
      ·rw [h10]; replace h10 := zcl h10
       refine zv3 ?_
       refine AWp_condF rfl ?_
       refine AWp_skip ?_
       refine zw2 ?_
       refine zrt ?_
       obtain ⟨q1, q2⟩ := jix_big hj0 hb (fun x => x.elim (by omega) (fun y => h10 y.1))
       rw [q1, q2]
       exact ResQ_20 rfl rfl hcl (by simp [AV.lt, AV.ltL]) (Ret_of rfl)
end Lg
set_option maxRecDepth 20000
set_option maxHeartbeats 4000000
namespace Lg
open Go Go.Proofs Go.RowKit
variable [GLay] 
theorem rptr_c (s : BL) (σ : List AO) (hs : s.length ≤ 1000000) : ACalls Tryz.prog 34 [.str (ba s)] σ (Ret (.tup [.sl false 1 (srow (pN s)), .int .i64 (pEi s)]) σ) := by
 refine ACalls_body Tryz.func34 rfl Tryz.ntmps34 (res2 Tryz.results34) (Nat.le_of_ble_eq_true rfl) (fun hcl hal => ?_)
 have hbz : (ba s).size = s.length := ba_size s
 refine zw2 ?_
 refine AWp_seq ?_
 refine zw2 ?_
 refine AWp_cond rfl (fun h1 => ?_) (fun h1 => ?_)
 ·(try rw [h1]); replace h1 := zcl h1
  have hs0 : s = [] := ba_nil.1 h1
  refine zw2 ?_
  refine AWp_slotLe 2 rfl (AVle.nils false 1) ?_ (by decide)
  refine zrt ?_
  subst hs0
  exact ResQ_20 rfl rfl hcl (by simp [AV.lt, AV.ltL, AV.ltLL]) (Ret_of rfl)
 ·(try rw [h1]); replace h1 := zcl h1
  have hs0 : ¬ s = [] := fun e => h1 (ba_nil.2 e)
  have hsl : 0 < s.length := List.length_pos_iff.2 hs0
  refine AWp_skip ?_
  refine AWp_seq ?_
  refine zw3 ?_
  refine AWp_cond rfl (fun h2 => ?_) (fun h2 => ?_)
  ·(try rw [h2]); replace h2 := zcl h2
   have h47 : ¬ s[0]? = some 47 := fun e => h2 ((g47 hsl).1 e)
   refine zw2 ?_
   refine AWp_slotLe 2 rfl (AVle.nils false 1) ?_ (by decide)
   refine zrt ?_
   have hE : pE s = some 0 := by unfold pE; rw [if_neg hs0, if_pos h47]
   rw [pEi_s hE, pN_bad hs0 hE]
   exact ResQ_20 rfl rfl hcl (by simp [AV.lt, AV.ltL, AV.ltLL]) (Ret_of rfl)
  ·(try rw [h2]); replace h2 := zcl h2
   have h47 : s[0]? = some 47 := (g47 hsl).2 h2
   refine AWp_skip ?_
   refine zw1 ?_
   refine AWp_seq ?_
   refine AWp_seq ?_
   refine AWp_ghostT 4 1 rfl ?_ (by decide)
   refine AWp_regL ?_
   refine zv1 ?_
   refine AWp_block ?_
   -- loop 0 LIVE 0:param 2:assign 3:assign 4:assign 5:assign
   refine AWp_loop (ι := Nat × List BL × Nat) (fun z => PAt s z.1 z.2.1) (fun z => ⟨[], [(0, .str (ba s)), (4, .arr (σ.length + 0) z.2.2 1 0 z.2.1.length), (5, .int .i64 (z.1 : Int))]⟩) (fun z => σ ++ [.arr 1 z.2.2 (srow z.2.1).flatten]) (fun z => s.length - z.1) ((0, [], 0)) (PAt.zero s) ?_ rfl (fun z hz => ?_)
   ·exact ⟨rfl, rfl, rfl, rfl, trivial⟩
   obtain ⟨i, L, g⟩ := z
   simp only at hz ⊢
   have hzl := hz.le
   have hzn := hz.len
   have z1 : ∀ c : UInt8, (ByteArray.mk #[c]).size = 1 := fun c => rfl
   refine AWp_seq ?_
   refine zw4 ?_
   refine AWp_cond rfl (fun h3 => ?_) (fun h3 => ?_)
   ·(try rw [h3]); replace h3 := zcl h3
    refine AWp_skip ?_
    refine AWp_seq ?_
    refine AWp_block ?_
    refine zw4 ?_
    refine AWp_seq ?_
    refine zw2 ?_
    refine AWp_cond rfl (fun h4 => ?_) (fun h4 => ?_)
    ·(try rw [h4]); replace h4 := zcl h4
     have hz47 := (g47 (show i < s.length by omega)).2 h4
     refine zu1 ?_
     refine zt rfl (op_buildSlice [[_]] rfl Tryz.underlying31 Tryz.sizeOf9 Tryz.zeroValue9 rfl (by decide) (by decide) rfl rfl rfl rfl rfl) ?_
     refine zt rfl (op_appendArrT rfl 0 (sz := 1) (m := 1) (len := L.length) (cs := [.str ⟨#[]⟩]) rfl (.inr ⟨_, rfl⟩) Tryz.underlying31 Tryz.underlying31 Tryz.type9 rfl rfl rfl (by decide) rfl rfl (by rw [sflat_len, Nat.mul_one]) rfl rfl rfl (by show (L.length + 1) * 16 ≤ _; omega) (by omega) rfl) ?_
     refine zv1 ?_
     refine AWp_exit ?_
     refine AWp_regL ?_
     refine zv3 ?_
     have hp9 := hz.slash hz47
     refine ⟨(i + 1, L ++ [[]], g + 1), σ.length + 1, hp9, by have := hp9.le; simp only; omega, by simp, ⟨rfl, rfl, by rw [List.length_append]; rfl, rfl, trivial⟩, closed_own 1 hcl ?_, ?_, ?_⟩
     ·simp [ownLt, AO.cells, ltL_append, AV.ltL, AV.lt, flat_lt]
     ·simp [ltE, AV.lt]
     ·refine (take_own 1).trans ?_
      rw [srow_snoc]; rfl
    ·(try rw [h4]); replace h4 := zcl h4
     have hn47 : ¬ s[i]? = some 47 := fun e => h4 ((g47 (show i < s.length by omega)).1 e)
     have hi1 : 1 ≤ i := by rcases Nat.eq_zero_or_pos i with e | e; subst e; exact absurd h47 hn47; exact e
     obtain ⟨ps, q, hLq⟩ := hz.last hi1
     have hqs := hz.el q (by rw [hLq]; simp)
     have hLl := hz.len
     subst hLq
     have hLp : 1 ≤ (ps ++ [q]).length := by rw [List.length_append]; simp
     have hqz : (ba q).size = q.length := ba_size q
     have hlst := srow_last ps q
     refine AWp_skip ?_
     refine AWp_seq ?_
     refine zw2 ?_
     refine AWp_cond rfl (fun h5 => ?_) (fun h5 => ?_)
     ·(try rw [h5]); replace h5 := zcl h5
      have hz126 := (g126 (show i < s.length by omega)).2 h5
      refine AWp_seq ?_
      refine zw5 ?_
      refine AWp_cond rfl (fun h6 => ?_) (fun h6 => ?_)
      ·(try rw [h6]); replace h6 := zcl h6
       refine zw3 ?_
       refine AWp_slotLe 2 rfl (AVle.nils false 1) ?_ (by decide)
       refine zrt ?_
       have ht : tbad s i = true := tbad_t (show i < s.length by omega) h5 (.inl (by omega))
       have hE : pE s = some i := pE_at hs0 h47 (show i < s.length by omega) ht hz.bad
       rw [pEi_s hE, pN_bad hs0 hE]
       exact ResQ_2 rfl rfl hcl (by simp [AV.lt, AV.ltL, AV.ltLL]) (Ret_of rfl)
      ·(try rw [h6]); replace h6 := zcl h6
       refine AWp_skip ?_
       refine zw3 ?_
       refine AWp_seq ?_
       refine zu5 ?_
       refine zsp 40 rfl (fun h7 => ?_) fun h7 => ?_
       ·rw [h7]; replace h7 := zcl h7
        refine zv5 ?_
        refine AWp_cond rfl (fun h8 => ?_) (fun h8 => ?_)
        ·(try rw [h8]); replace h8 := zcl h8
         refine zw4 ?_
         refine AWp_slotLe 2 rfl (AVle.nils false 1) ?_ (by decide)
         refine zrt ?_
         have ht : tbad s i = true := tbad_t (show i < s.length by omega) h5 (.inr ⟨h7, h8⟩)
         have hE : pE s = some i := pE_at hs0 h47 (show i < s.length by omega) ht hz.bad
         rw [pEi_s hE, pN_bad hs0 hE]
         exact ResQ_2 rfl rfl hcl (by simp [AV.lt, AV.ltL, AV.ltLL]) (Ret_of (by rw [show (i : Int) + 1 - 1 = i by omega]; rfl))
        ·(try rw [h8]); replace h8 := zcl h8
         refine AWp_skip ?_
         refine zw1 ?_
         refine zw4 ?_
         refine AWp_cond rfl (fun h9 => ?_) (fun h9 => ?_)
         ·(try rw [h9]); replace h9 := zcl h9
          have hi9 := hz126
          refine AWp_regL ?_
          refine zv1 ?_
          refine AWp_drawL #[0, 0, 2, 6, 0, 0, 32, 96, 240, 496, 0, 1024, 3072, 8176, 16383, 32767] Tryz.mixed (by decide +kernel) (by decide +kernel) ?_
          refine zd2 ?_
          refine yP rfl rfl (op_lenS rfl rfl Tryz.underlying31 rfl rfl ⟨1, _, get_own 0⟩) (trivial) ?_
          refine zd3 ?_
          refine yP rfl rfl (op_lenS rfl rfl Tryz.underlying31 rfl rfl ⟨1, _, get_own 0⟩) (trivial) ?_
          refine zd1 ?_
          refine yP rfl rfl (op_indexAddrAO (j := 0) rfl Tryz.underlying31 Tryz.sizeOf9 rfl rfl (by omega) (by omega) rfl) (trivial) ?_
          refine yP rfl rfl (op_load1 rfl Tryz.isAgg9 (ldv_el (j := 0) (i := (ps ++ [q]).length - 1) rfl hlst (by omega))) (trivial) ?_
          refine zd1 ?_
          refine yA rfl rfl (fun _ => op_buildSlice [[_]] rfl Tryz.underlying102 Tryz.sizeOf5 Tryz.zeroValue5 rfl (by decide) (by decide) rfl rfl rfl rfl rfl) ?_
          refine yA rfl rfl (fun _ => (by first | exact op_bytesStr (b := ⟨#[126]⟩) (m := 1) rfl Tryz.underlying102 Tryz.underlying5 Tryz.underlying9 rfl rfl rfl | exact op_bytesStr (b := ⟨#[47]⟩) (m := 1) rfl Tryz.underlying102 Tryz.underlying5 Tryz.underlying9 rfl rfl rfl | exact op_bytesStr (b := ⟨#[bat (ba s) i]⟩) (m := 1) rfl Tryz.underlying102 Tryz.underlying5 Tryz.underlying9 rfl rfl rfl)) ?_
          refine yA rfl rfl (fun _ => op_cat rfl rfl rfl (by rw [hqz]; show q.length + 1 ≤ _; omega)) ?_
          refine yP rfl rfl (op_indexAddrAO (j := 0) rfl Tryz.underlying31 Tryz.sizeOf9 rfl rfl (by omega) (by omega) rfl) (trivial) ?_
          refine yEN rfl rfl rfl (op_storeEl (j := 0) (i := (ps ++ [q]).length - 1) rfl Tryz.sizeOf9 rfl rfl (by omega) rfl (by rw [sflat_len]; omega)) (⟨.inl rfl, ⟨.inl rfl, ⟨.inl rfl, ⟨.inl rfl, ⟨.inl rfl, trivial⟩⟩⟩⟩⟩) (trivial) ?_
          refine RP.nil rfl ?_
          refine AWp_regL ?_
          refine zv3 ?_
          have hz49 := (g49 (show i + 1 < s.length by omega)).2 h8
          have hp9 := hz.esc hi1 rfl hz126 hz49 (.inr rfl)
          refine ⟨(i + 1 + 1, ps ++ [q ++ [47]], g), σ.length + 1, hp9, by have := hp9.le; simp only; omega, by simp, ⟨rfl, rfl, by rw [List.length_append, List.length_append]; rfl, rfl, trivial⟩, closed_own 1 hcl ?_, ?_, ?_⟩
          ·simp [ownLt, AO.cells]; rw [AV.ltL_iff]; intro a ha; rcases List.mem_or_eq_of_mem_set ha with h | rfl; exact (AV.ltL_iff _ _).1 (flat_lt (srow_lt _ _)) a h; trivial
          ·simp [ltE, AV.lt]
          ·refine (take_own 1).trans ?_
           rw [← srow_setl ps q (q ++ [47]), ← ba_app]; rfl
         ·(try rw [h9]); replace h9 := zcl h9
          exact absurd h8 h9
       ·rw [h7]; replace h7 := zcl h7
        refine zv5 ?_
        refine AWp_condF rfl ?_
        refine AWp_skip ?_
        refine zw1 ?_
        refine zw4 ?_
        refine AWp_cond rfl (fun h10 => ?_) (fun h10 => ?_)
        ·(try rw [h10]); replace h10 := zcl h10
         omega
        ·(try rw [h10]); replace h10 := zcl h10
         refine AWp_skip ?_
         refine AWp_drawL #[0, 0, 2, 6, 0, 0, 32, 96, 240, 496, 0, 1024, 3072, 8176, 16383, 32767] Tryz.mixed (by decide +kernel) (by decide +kernel) ?_
         refine zd2 ?_
         refine yP rfl rfl (op_lenS rfl rfl Tryz.underlying31 rfl rfl ⟨1, _, get_own 0⟩) (trivial) ?_
         refine zd3 ?_
         refine yP rfl rfl (op_lenS rfl rfl Tryz.underlying31 rfl rfl ⟨1, _, get_own 0⟩) (trivial) ?_
         refine zd1 ?_
         refine yP rfl rfl (op_indexAddrAO (j := 0) rfl Tryz.underlying31 Tryz.sizeOf9 rfl rfl (by omega) (by omega) rfl) (trivial) ?_
         refine yP rfl rfl (op_load1 rfl Tryz.isAgg9 (ldv_el (j := 0) (i := (ps ++ [q]).length - 1) rfl hlst (by omega))) (trivial) ?_
         refine zd1 ?_
         refine yA rfl rfl (fun _ => op_buildSlice [[_]] rfl Tryz.underlying102 Tryz.sizeOf5 Tryz.zeroValue5 rfl (by decide) (by decide) rfl rfl rfl rfl rfl) ?_
         refine yA rfl rfl (fun _ => (by first | exact op_bytesStr (b := ⟨#[126]⟩) (m := 1) rfl Tryz.underlying102 Tryz.underlying5 Tryz.underlying9 rfl rfl rfl | exact op_bytesStr (b := ⟨#[47]⟩) (m := 1) rfl Tryz.underlying102 Tryz.underlying5 Tryz.underlying9 rfl rfl rfl | exact op_bytesStr (b := ⟨#[bat (ba s) i]⟩) (m := 1) rfl Tryz.underlying102 Tryz.underlying5 Tryz.underlying9 rfl rfl rfl)) ?_
         refine yA rfl rfl (fun _ => op_cat rfl rfl rfl (by rw [hqz]; show q.length + 1 ≤ _; omega)) ?_
         refine yP rfl rfl (op_indexAddrAO (j := 0) rfl Tryz.underlying31 Tryz.sizeOf9 rfl rfl (by omega) (by omega) rfl) (trivial) ?_
         refine yEN rfl rfl rfl (op_storeEl (j := 0) (i := (ps ++ [q]).length - 1) rfl Tryz.sizeOf9 rfl rfl (by omega) rfl (by rw [sflat_len]; omega)) (⟨.inl rfl, ⟨.inl rfl, ⟨.inl rfl, ⟨.inl rfl, ⟨.inl rfl, trivial⟩⟩⟩⟩⟩) (trivial) ?_
         refine RP.nil rfl ?_
         refine AWp_regL ?_
         refine zv3 ?_
         have hz48 := (g48 (show i + 1 < s.length by omega)).2 h7
         have hp9 := hz.esc hi1 rfl hz126 hz48 (.inl rfl)
         refine ⟨(i + 1 + 1, ps ++ [q ++ [126]], g), σ.length + 1, hp9, by have := hp9.le; simp only; omega, by simp, ⟨rfl, rfl, by rw [List.length_append, List.length_append]; rfl, rfl, trivial⟩, closed_own 1 hcl ?_, ?_, ?_⟩
         ·simp [ownLt, AO.cells]; rw [AV.ltL_iff]; intro a ha; rcases List.mem_or_eq_of_mem_set ha with h | rfl; exact (AV.ltL_iff _ _).1 (flat_lt (srow_lt _ _)) a h; trivial
         ·simp [ltE, AV.lt]
         ·refine (take_own 1).trans ?_
          rw [← srow_setl ps q (q ++ [126]), ← ba_app]; rfl
     ·(try rw [h5]); replace h5 := zcl h5
      have hn126 : ¬ s[i]? = some 126 := fun e => h5 ((g126 (show i < s.length by omega)).1 e)
      refine AWp_skip ?_
      refine AWp_drawL #[0, 0, 2, 6, 0, 0, 32, 96, 240, 496, 0, 1024, 3072, 8176, 16383, 32767] Tryz.mixed (by decide +kernel) (by decide +kernel) ?_
      refine zd2 ?_
      refine yP rfl rfl (op_lenS rfl rfl Tryz.underlying31 rfl rfl ⟨1, _, get_own 0⟩) (trivial) ?_
      refine zd3 ?_
      refine yP rfl rfl (op_lenS rfl rfl Tryz.underlying31 rfl rfl ⟨1, _, get_own 0⟩) (trivial) ?_
      refine zd1 ?_
      refine yP rfl rfl (op_indexAddrAO (j := 0) rfl Tryz.underlying31 Tryz.sizeOf9 rfl rfl (by omega) (by omega) rfl) (trivial) ?_
      refine yP rfl rfl (op_load1 rfl Tryz.isAgg9 (ldv_el (j := 0) (i := (ps ++ [q]).length - 1) rfl hlst (by omega))) (trivial) ?_
      refine zd1 ?_
      refine yA rfl rfl (fun _ => op_buildSlice [[_]] rfl Tryz.underlying102 Tryz.sizeOf5 Tryz.zeroValue5 rfl (by decide) (by decide) rfl rfl rfl rfl rfl) ?_
      refine yA rfl rfl (fun _ => (by first | exact op_bytesStr (b := ⟨#[126]⟩) (m := 1) rfl Tryz.underlying102 Tryz.underlying5 Tryz.underlying9 rfl rfl rfl | exact op_bytesStr (b := ⟨#[47]⟩) (m := 1) rfl Tryz.underlying102 Tryz.underlying5 Tryz.underlying9 rfl rfl rfl | exact op_bytesStr (b := ⟨#[bat (ba s) i]⟩) (m := 1) rfl Tryz.underlying102 Tryz.underlying5 Tryz.underlying9 rfl rfl rfl)) ?_
      refine yA rfl rfl (fun _ => op_cat rfl rfl rfl (by rw [hqz]; show q.length + 1 ≤ _; omega)) ?_
      refine yP rfl rfl (op_indexAddrAO (j := 0) rfl Tryz.underlying31 Tryz.sizeOf9 rfl rfl (by omega) (by omega) rfl) (trivial) ?_
      refine yEN rfl rfl rfl (op_storeEl (j := 0) (i := (ps ++ [q]).length - 1) rfl Tryz.sizeOf9 rfl rfl (by omega) rfl (by rw [sflat_len]; omega)) (⟨.inl rfl, ⟨.inl rfl, ⟨.inl rfl, ⟨.inl rfl, ⟨.inl rfl, trivial⟩⟩⟩⟩⟩) (trivial) ?_
      refine RP.nil rfl ?_
      refine AWp_regL ?_
      refine zv3 ?_
      have hzb : s[i]? = some (bat (ba s) i) := (get_is (show i < s.length by omega)).2 rfl
      have hp9 := hz.byte hi1 rfl hzb (fun e => hn47 (hzb.trans (congrArg some e))) (fun e => hn126 (hzb.trans (congrArg some e)))
      refine ⟨(i + 1, ps ++ [q ++ [bat (ba s) i]], g), σ.length + 1, hp9, by have := hp9.le; simp only; omega, by simp, ⟨rfl, rfl, by rw [List.length_append, List.length_append]; rfl, rfl, trivial⟩, closed_own 1 hcl ?_, ?_, ?_⟩
      ·simp [ownLt, AO.cells]; rw [AV.ltL_iff]; intro a ha; rcases List.mem_or_eq_of_mem_set ha with h | rfl; exact (AV.ltL_iff _ _).1 (flat_lt (srow_lt _ _)) a h; trivial
      ·simp [ltE, AV.lt]
      ·refine (take_own 1).trans ?_
       rw [← srow_setl ps q (q ++ [bat (ba s) i]), ← ba_app]; rfl
   ·(try rw [h3]); replace h3 := zcl h3
    refine AWp_exit ?_
    refine AWp_seq ?_
    have hie : i = s.length := by omega
    subst hie
    obtain ⟨hE, hN⟩ := hz.done hs0 h47
    refine AWp_freezeAO 4 0 g 1 L.length (srow L) rfl rfl (srow_el _) (srow_len _) (by decide) ?_ (by decide)
    refine AWp_regL ?_
    refine zv3 ?_
    refine zrt ?_
    rw [hN, pEi_n hE]
    exact ResQ_2 rfl rfl hcl (by simp [AV.lt, AV.ltL]) (Ret_of rfl)
end Lg
namespace Lg
open Go Go.RowKit
variable [GLay]
variable {P : Program} {N : Nat} {σ l : List AO} {e : Env} {Q : QA} {o : Oper}
theorem AWp_freezeI {c : Code} (t p off : Nat) (T : TypeId) {cs : List AV} (hl : lookO e.l t = some (.iface T (.ptr p off))) (hσ : σ[p]? = some (.box cs)) (k : AWp P N c (e.put (some t) (.iface T (.pp (cs.drop off)))) (σ.set p .gone) Q) (ht : t < N) : AWp P N c e σ Q := fun s0 s a hs g x he => by
  subst hs
  have hv := he.tmps t
  rw [show e.look t = .iface T (.ptr p off) from lookO_eq hl] at hv
  obtain ⟨v, hv0, hv1⟩ := hv.inv_iface
  obtain ⟨s', e1, e2, g', x', hv'⟩ := freezeBox_V g hσ hv1
  have hv2 : V s' (.iface T (.pp (cs.drop off))) (a.eval (.tmp t)) := by rw [hv0]; exact .iface _ _ _ hv'
  have := k s0 s' a e1 g' (x.trans x') (by
    have h1 := (he.mono g x').put (some t) hv2 (fun d hd => by cases hd; exact ht)
    have h2 : a.put (some t) (a.eval (.tmp t)) = a := put_self (by rw [he.size]; exact ht)
    rwa [h2] at h1)
  rwa [e2] at this
section asserts
variable {T U U' E : TypeId} {x : Operand} {v : AV}
theorem op_assertT (ho : o.op = .typeAssert x T U true) (hu : P.underlying U = some (.pointer E)) (hx : opO e x = some (.iface U v)) : AOp P σ e o (.tup [v, .bool true]) σ :=
  .of_run fun s a hs g hv => by
    have h1 := hv x (by simp [ho, Op.operands])
    rw [opO_eq hx] at h1
    obtain ⟨w, h2, h3⟩ := h1.inv_iface
    refine ⟨.tuple #[w, .bool true], ?_, .tup [v, .bool true] [w, .bool true] rfl (fun i c z e1 e2 => by
      match i, e1, e2 with
      | 0, e1, e2 => cases e1; cases e2; exact h3
      | 1, e1, e2 => cases e1; cases e2; exact .bool _)⟩
    simp [execOp, ho, h2, Instr.typeAssert, run_underlying hu]
end asserts
end Lg
set_option maxRecDepth 20000
set_option maxHeartbeats 4000000
namespace Lg
open Go Go.Proofs Go.RowKit
variable [GLay] 
def errV : Option (Int × Int) → AV
  | none => .nili
  | some z => .iface 87 (.pp [.int .i64 z.1, .int .i64 z.2])
theorem op_neErr {P : Program} {σ : List AO} {e : Env} {o : Oper} {T T' : TypeId} {x : Operand} {ms : Array (String × TypeId)} {z : Option (Int × Int)} (ho : o.op = .binOp .neq T x (.const .nilIface) T') (hu : P.underlying T = some (.interface ms)) (hx : opO e x = some (errV z)) : AOp P σ e o (.bool z.isSome) σ := by
  cases z with
  | none => exact op_neINil ho hu hx
  | some z => exact op_neIN ho hu hx
end Lg
set_option maxRecDepth 20000
set_option maxHeartbeats 4000000
namespace Lg
open Go Go.Proofs Go.RowKit
variable [GLay] 
theorem equalV_c (k : Nat) (fn : Go.Func) (hfn : Tryz.prog.funcs[k]? = some fn) (hname : (fn.name == "runtime.NumGoroutine") = false) (hb : fn.body.isNone = false) (l r : List JV) (σ : List AO) (hl : l.length ≤ 1000000) (hr : r.length ≤ 1000000) (hf : ∀ (i : Nat) x y, l[i]? = some x → r[i]? = some y → ∀ σ, ACalls Tryz.prog k [.agg (vcells x), .agg (vcells y)] σ (Ret (.bool (pb (x = y))) σ)) : ACalls Tryz.prog 143 [.sl false 8 (lcells l), .sl false 8 (lcells r), .func (.func k) [] []] σ (Ret (.bool (pb (l = r))) σ) := by
 refine ACalls_body Tryz.func143 rfl Tryz.ntmps143 (res1 Tryz.results143) (Nat.le_of_ble_eq_true rfl) (fun hcl hal => ?_)
 have hll := lcells_length l
 have hrl := lcells_length r
 refine zw1 ?_
 refine AWp_seq ?_
 refine zw5 ?_
 refine AWp_cond rfl (fun h1 => ?_) (fun h1 => ?_)
 ·(try rw [h1]); replace h1 := zcl h1
  have hne : ¬ l = r := fun e => by subst e; omega
  refine zw1 ?_
  refine zrt ?_
  exact ResQ_10 rfl hcl trivial (Ret_of (bool_f hne))
 ·(try rw [h1]); replace h1 := zcl h1
  have hlen : l.length = r.length := by omega
  refine AWp_skip ?_
  refine AWp_seq ?_
  refine zw3 ?_
  refine AWp_block ?_
  -- loop 0 LIVE 1:param 2:param 6:assign 15:move 16:call 17:move
  refine AWp_loop (ι := Nat) (fun i => i ≤ l.length ∧ ∀ j : Nat, j < i → l[j]? = r[j]?) (fun i => ⟨[], [(1, .sl false 8 (lcells r)), (2, .func (.func k) [] []), (15, .sl false 8 (lcells l)), (16, .int .i64 (l.length : Int)), (17, .int .i64 (i : Int))]⟩) (fun i => σ) (fun i => l.length - i) (0) (⟨Nat.zero_le _, fun j hj => absurd hj (by omega)⟩) ?_ rfl (fun i hi => ?_)
  ·refine ⟨rfl, rfl, rfl, rfl, ?_, rfl, trivial⟩
   rw [← hll]; rfl
  obtain ⟨hi1, hi2⟩ := hi
  refine zw1 ?_
  refine AWp_seq ?_
  refine AWp_cond rfl (fun h2 => ?_) (fun h2 => ?_)
  ·(try rw [h2]); replace h2 := zcl h2
   obtain ⟨x, hx⟩ : ∃ x, l[i]? = some x := ⟨_, List.getElem?_eq_getElem (show i < l.length by omega)⟩
   obtain ⟨y, hy⟩ : ∃ y, r[i]? = some y := ⟨_, List.getElem?_eq_getElem (show i < r.length by omega)⟩
   refine AWp_skip ?_
   refine AWp_seq ?_
   refine AWp_block ?_
   refine zu1 ?_
   refine zt rfl (op_indexAddr rfl Tryz.underlying25 Tryz.sizeOf28 rfl rfl (by omega) (lcells_get hx)) ?_
   rw [vcells_eq x]
   refine zv4 ?_
   refine zu2 ?_
   refine zt rfl (op_indexAddr rfl Tryz.underlying25 Tryz.sizeOf28 rfl rfl (by omega) (lcells_get hy)) ?_
   rw [vcells_eq y]
   refine zv3 ?_
   refine zu3 ?_
   refine zt rfl (op_callF rfl rfl rfl hfn hname hb (AC2 (vcells_eq x) (vcells_eq y) (hf i x y hx hy _))) ?_
   refine zv1 ?_
   refine AWp_cond rfl (fun h3 => ?_) (fun h3 => ?_)
   ·(try rw [h3]); replace h3 := zcl h3
    refine zw1 ?_
    refine zrt ?_
    refine ResQ_1 rfl hcl trivial (Ret_of (bool_f fun e => ?_))
    subst e; rw [hx] at hy; cases hy; rw [pb_t rfl] at h3; cases h3
   ·(try rw [h3]); replace h3 := zcl h3
    refine AWp_skip ?_
    refine AWp_regL ?_
    refine zv2 ?_
    have hxy := (pb_iff _).1 h3
    refine ⟨i + 1, σ.length, ⟨by omega, fun j hj => ?_⟩, by omega, Nat.le_refl _, ⟨rfl, rfl, rfl, rfl, rfl, rfl, trivial⟩, closed_old hcl, ?_, take_old⟩
    ·by_cases e : j = i
     ·subst e; rw [hx, hy, hxy]
     ·exact hi2 j (by omega)
    ·simp [ltE, AV.lt, AV.ltL]
  ·(try rw [h2]); replace h2 := zcl h2
   refine AWp_exit ?_
   refine zw1 ?_
   refine zrt ?_
   exact ResQ_10 rfl hcl trivial (Ret_of (bool_t (list_eq_of hlen fun j hj => hi2 j (by omega))))

theorem equalM_c (k : Nat) (fn : Go.Func) (hfn : Tryz.prog.funcs[k]? = some fn) (hname : (fn.name == "runtime.NumGoroutine") = false) (hb : fn.body.isNone = false) (l r : List (ByteArray × JV)) (σ : List AO) (hl : l.length ≤ 1000000) (hr : r.length ≤ 1000000) (hf : ∀ (i : Nat) x y, l[i]? = some x → r[i]? = some y → ∀ σ, ACalls Tryz.prog k [.agg (.str x.1 :: vcells x.2), .agg (.str y.1 :: vcells y.2)] σ (Ret (.bool (pb (x = y))) σ)) : ACalls Tryz.prog 144 [.sl false 9 (mcells l), .sl false 9 (mcells r), .func (.func k) [] []] σ (Ret (.bool (pb (l = r))) σ) := by
 refine ACalls_body Tryz.func144 rfl Tryz.ntmps144 (res1 Tryz.results144) (Nat.le_of_ble_eq_true rfl) (fun hcl hal => ?_)
 have hll := mcells_length l
 have hrl := mcells_length r
 refine zw1 ?_
 refine AWp_seq ?_
 refine zw5 ?_
 refine AWp_cond rfl (fun h1 => ?_) (fun h1 => ?_)
 ·(try rw [h1]); replace h1 := zcl h1
  have hne : ¬ l = r := fun e => by subst e; omega
  refine zw1 ?_
  refine zrt ?_
  exact ResQ_10 rfl hcl trivial (Ret_of (bool_f hne))
 ·(try rw [h1]); replace h1 := zcl h1
  have hlen : l.length = r.length := by omega
  refine AWp_skip ?_
  refine AWp_seq ?_
  refine zw3 ?_
  refine AWp_block ?_
  -- loop 0 LIVE 1:param 2:param 6:assign 15:move 16:call 17:move
  refine AWp_loop (ι := Nat) (fun i => i ≤ l.length ∧ ∀ j : Nat, j < i → l[j]? = r[j]?) (fun i => ⟨[], [(1, .sl false 9 (mcells r)), (2, .func (.func k) [] []), (15, .sl false 9 (mcells l)), (16, .int .i64 (l.length : Int)), (17, .int .i64 (i : Int))]⟩) (fun i => σ) (fun i => l.length - i) (0) (⟨Nat.zero_le _, fun j hj => absurd hj (by omega)⟩) ?_ rfl (fun i hi => ?_)
  ·refine ⟨rfl, rfl, rfl, rfl, ?_, rfl, trivial⟩
   rw [← hll]; rfl
  obtain ⟨hi1, hi2⟩ := hi
  refine zw1 ?_
  refine AWp_seq ?_
  refine AWp_cond rfl (fun h2 => ?_) (fun h2 => ?_)
  ·(try rw [h2]); replace h2 := zcl h2
   obtain ⟨x, hx⟩ : ∃ x, l[i]? = some x := ⟨_, List.getElem?_eq_getElem (show i < l.length by omega)⟩
   obtain ⟨y, hy⟩ : ∃ y, r[i]? = some y := ⟨_, List.getElem?_eq_getElem (show i < r.length by omega)⟩
   refine AWp_skip ?_
   refine AWp_seq ?_
   refine AWp_block ?_
   refine zu1 ?_
   refine zt rfl (op_indexAddr rfl Tryz.underlying26 Tryz.sizeOf64 rfl rfl (by omega) (mcells_get hx)) ?_
   rw [vcells_eq x.2]
   refine zv4 ?_
   refine zu2 ?_
   refine zt rfl (op_indexAddr rfl Tryz.underlying26 Tryz.sizeOf64 rfl rfl (by omega) (mcells_get hy)) ?_
   rw [vcells_eq y.2]
   refine zv3 ?_
   refine zu3 ?_
   refine zt rfl (op_callF rfl rfl rfl hfn hname hb (AC2 (congrArg _ (vcells_eq x.2)) (congrArg _ (vcells_eq y.2)) (hf i x y hx hy _))) ?_
   refine zv1 ?_
   refine AWp_cond rfl (fun h3 => ?_) (fun h3 => ?_)
   ·(try rw [h3]); replace h3 := zcl h3
    refine zw1 ?_
    refine zrt ?_
    refine ResQ_1 rfl hcl trivial (Ret_of (bool_f fun e => ?_))
    subst e; rw [hx] at hy; cases hy; rw [pb_t rfl] at h3; cases h3
   ·(try rw [h3]); replace h3 := zcl h3
    refine AWp_skip ?_
    refine AWp_regL ?_
    refine zv2 ?_
    have hxy := (pb_iff _).1 h3
    refine ⟨i + 1, σ.length, ⟨by omega, fun j hj => ?_⟩, by omega, Nat.le_refl _, ⟨rfl, rfl, rfl, rfl, rfl, rfl, trivial⟩, closed_old hcl, ?_, take_old⟩
    ·by_cases e : j = i
     ·subst e; rw [hx, hy, hxy]
     ·exact hi2 j (by omega)
    ·simp [ltE, AV.lt, AV.ltL]
  ·(try rw [h2]); replace h2 := zcl h2
   refine AWp_exit ?_
   refine zw1 ?_
   refine zrt ?_
   exact ResQ_10 rfl hcl trivial (Ret_of (bool_t (list_eq_of hlen fun j hj => hi2 j (by omega))))

theorem sameFn_c (x y : ByteArray × JV) (σ : List AO) (h : ∀ σ, ACalls Tryz.prog 114 [.agg (vcells x.2), .agg (vcells y.2)] σ (Ret (.bool (pb (x.2 = y.2))) σ)) : ACalls Tryz.prog 145 [.agg (.str x.1 :: vcells x.2), .agg (.str y.1 :: vcells y.2)] σ (Ret (.bool (pb (x = y))) σ) := by
 refine ACalls_body Tryz.func145 rfl Tryz.ntmps145 (res1 Tryz.results145) (Nat.le_of_ble_eq_true rfl) (fun hcl hal => ?_)
 rw [vcells_eq x.2, vcells_eq y.2]
 refine zw3 ?_
 refine zu6 ?_
 refine zsp 10 rfl (fun h1 => ?_) fun h1 => ?_
 ·rw [h1]; replace h1 := zcl h1
  refine zg4 ?_
  refine ztG rfl rfl (zc rfl (AC2 (vcells_eq x.2) (vcells_eq y.2) (h _))) ?_
  refine zv2 ?_
  refine zrt ?_
  refine ResQ_1 rfl hcl trivial (Ret_of ?_)
  refine bool_of ?_
  rw [Prod.ext_iff]
  simp_all [pb_iff, pb_niff]
 ·rw [h1]; replace h1 := zcl h1
  refine zv7 ?_
  refine zrt ?_
  refine ResQ_1 rfl hcl trivial (Ret_of ?_)
  refine bool_of ?_
  rw [Prod.ext_iff]
  simp_all [pb_iff, pb_niff]

theorem same_any (n : Nat) : ∀ (x y : JV) (σ : List AO), jsize x ≤ n → jb x → jb y → ACalls Tryz.prog 114 [.agg (vcells x), .agg (vcells y)] σ (Ret (.bool (pb (x = y))) σ) := by
 induction n with
 | zero => intro x y σ h; have := jsize_pos x; omega
 | succ n ih =>
 intro x y σ hn hjx hjy
 have hvs := jsize_eq x
 have hl := lsize_nn x.l
 have hm := msize_nn x.m
 obtain ⟨hb1, hb2, hb3, hb4, hb5, hb6⟩ := (jb_eq x).1 hjx
 obtain ⟨hc1, hc2, hc3, hc4, hc5, hc6⟩ := (jb_eq y).1 hjy
 refine ACalls_body Tryz.func114 rfl Tryz.ntmps114 (res1 Tryz.results114) (Nat.le_of_ble_eq_true rfl) (fun hcl hal => ?_)
 rw [vcells_eq x, vcells_eq y]
 refine zw3 ?_
 refine zu6 ?_
 refine zsp 10 rfl (fun h1 => ?_) fun h1 => ?_
 ·rw [h1]; replace h1 := zcl h1
  refine zg7 ?_
  refine zsp 17 rfl (fun h2 => ?_) fun h2 => ?_
  ·rw [h2]; replace h2 := zcl h2
   refine zg4 ?_
   refine ztG rfl rfl (op_eqS rfl Tryz.underlying24 (by kernel_rfl) (by kernel_rfl) (.bool _ _ _ _ _ _ _ _ (by decide) rfl Tryz.underlying4 (.str _ _ _ _ _ _ _ _ (by decide) rfl Tryz.underlying9 (.int _ _ _ _ _ _ _ _ _ _ (by decide) rfl Tryz.underlying3 (.nil _)))) rfl rfl) ?_
   refine zg2 ?_
   refine zsp 24 rfl (fun h3 => ?_) fun h3 => ?_
   ·rw [h3]; replace h3 := zcl h3
    refine zg7 ?_
    refine zsp 31 rfl (fun h4 => ?_) fun h4 => ?_
    ·rw [h4]; replace h4 := zcl h4
     refine zg4 ?_
     refine ztG rfl rfl (zc rfl (equalV_c 114 _ Tryz.func114 rfl rfl x.l y.l _ hb3 hc3 (fun i u w hu hw σ => ih u w σ (by have := lsize_mem hu; omega) (lb_get hb5 hu) (lb_get hc5 hw)))) ?_
     refine zg2 ?_
     refine zsp 38 rfl (fun h5 => ?_) fun h5 => ?_
     ·rw [h5]; replace h5 := zcl h5
      refine zg4 ?_
      refine ztG rfl rfl (zc rfl (equalM_c 145 _ Tryz.func145 rfl rfl x.m y.m _ hb4 hc4 (fun i u w hu hw σ => sameFn_c u w σ (fun σ => ih u.2 w.2 σ (by have := msize_mem hu; omega) (mb_get hb6 hu).2 (mb_get hc6 hw).2)))) ?_
      refine zv2 ?_
      refine zrt ?_
      refine ResQ_1 rfl hcl trivial (Ret_of ?_)
      refine bool_of ?_
      rw [jv_ext]
      simp_all [pb_iff, pb_niff]
     ·rw [h5]; replace h5 := zcl h5
      refine zv7 ?_
      refine zrt ?_
      refine ResQ_1 rfl hcl trivial (Ret_of ?_)
      refine bool_of ?_
      rw [jv_ext]
      simp_all [pb_iff, pb_niff]
    ·rw [h4]; replace h4 := zcl h4
     refine zg10 ?_
     refine zg4 ?_
     refine zon ?_
     refine zrt ?_
     refine ResQ_1 rfl hcl trivial (Ret_of ?_)
     refine bool_of ?_
     rw [jv_ext]
     simp_all [pb_iff, pb_niff]
   ·rw [h3]; replace h3 := zcl h3
    refine zg20 ?_
    refine zg1 ?_
    refine zon ?_
    refine zrt ?_
    refine ResQ_1 rfl hcl trivial (Ret_of ?_)
    refine bool_of ?_
    rw [jv_ext]
    simp_all [pb_iff, pb_niff]
  ·rw [h2]; replace h2 := zcl h2
   refine zg20 ?_
   refine zg8 ?_
   refine zon ?_
   refine zrt ?_
   refine ResQ_1 rfl hcl trivial (Ret_of ?_)
   refine bool_of ?_
   rw [jv_ext]
   simp_all [pb_iff, pb_niff]
 ·rw [h1]; replace h1 := zcl h1
  refine zg30 ?_
  refine zg5 ?_
  refine zon ?_
  refine zrt ?_
  refine ResQ_1 rfl hcl trivial (Ret_of ?_)
  refine bool_of ?_
  rw [jv_ext]
  simp_all [pb_iff, pb_niff]

theorem depth_any (n : Nat) : ∀ (v : JV) (σ : List AO), jsize v ≤ n → n ≤ 1000000000 → ACalls Tryz.prog 55 [.agg (vcells v)] σ (Ret (.int .i64 (jdepth v)) σ) := by
 induction n with
 | zero => intro v σ h; have := jsize_pos v; omega
 | succ n ih =>
 intro v σ hn hb
 have hvs := jsize_eq v
 have hl := lsize_nn v.l
 have hm := msize_nn v.m
 have hd1 := ldep_nn v.l
 have hd2 := mdep_nn v.m
 have hde := jdepth_eq v
 have hll := llen_le v.l
 have hml := mlen_le v.m
 refine ACalls_body Tryz.func55 rfl Tryz.ntmps55 (res1 Tryz.results55) (Nat.le_of_ble_eq_true rfl) (fun hcl hal => ?_)
 rw [vcells_eq v]
 refine zw2 ?_
 refine AWp_seq ?_
 refine AWp_join (ι := Bool) (fun b => b = (!decide (v.kind = 4) && !decide (v.kind = 5))) (fun b => ⟨[], [(1, .ptr (σ.length + 0) 0), (15, .bool b)]⟩) (fun b => σ ++ [.box [.int .i64 v.kind, .bool v.b, .bool v.n.neg, .str v.n.digits, .int .i64 v.n.exp, .str v.s, .sl false 8 (lcells v.l), .sl false 9 (mcells v.m)]]) ?_ (fun b hj => ?_)
 ·skip
  refine AWp_regL ?_
  refine zg4 ?_
  refine zsp 11 rfl (fun h1 => ?_) fun h1 => ?_
  ·rw [h1]; replace h1 := zcl h1
   refine zv4 ?_
   refine ⟨_, ?_, ⟨rfl, rfl, rfl, trivial⟩, rfl⟩
   simp_all
  ·rw [h1]; replace h1 := zcl h1
   refine zv4 ?_
   refine ⟨_, ?_, ⟨rfl, rfl, rfl, trivial⟩, rfl⟩
   simp_all
 ·skip
  refine AWp_cond rfl (fun h2 => ?_) (fun h2 => ?_)
  ·(try rw [h2]); replace h2 := zcl h2
   refine zw1 ?_
   refine zrt ?_
   refine ResQ_1 rfl hcl trivial (Ret_of ?_)
   rw [h2] at hj; congr 1; rw [hde, if_neg (by simp at hj; omega)]
  ·(try rw [h2]); replace h2 := zcl h2
   refine AWp_skip ?_
   refine zw1 ?_
   refine AWp_seq ?_
   refine zw4 ?_
   refine AWp_block ?_
   -- loop 0 LIVE 1:box 2:assign 3:assign 17:load 18:call 19:move
   refine AWp_loop (ι := Nat) (fun i => i ≤ v.l.length) (fun i => ⟨[], [(1, .ptr (σ.length + 0) 0), (3, .int .i64 (ldep (v.l.take i))), (17, .sl false 8 (lcells v.l)), (18, .int .i64 (v.l.length : Int)), (19, .int .i64 (i : Int))]⟩) (fun i => σ ++ [_]) (fun i => v.l.length - i) (0) (Nat.zero_le _) ?_ rfl (fun i hi => ?_)
   ·refine ⟨rfl, rfl, rfl, rfl, ?_, rfl, trivial⟩
    rw [← lcells_length]; rfl
   refine zw1 ?_
   refine AWp_seq ?_
   refine AWp_cond rfl (fun h3 => ?_) (fun h3 => ?_)
   ·(try rw [h3]); replace h3 := zcl h3
    obtain ⟨x, hx⟩ : ∃ x, v.l[i]? = some x := ⟨_, List.getElem?_eq_getElem (show i < v.l.length by omega)⟩
    have hlm := lsize_mem hx
    refine AWp_skip ?_
    refine AWp_seq ?_
    refine AWp_block ?_
    refine zu1 ?_
    rw [vcells_eq x]
    refine zv3 ?_
    refine AWp_regL ?_
    refine zg2 ?_
    refine zt rfl (zc rfl (AC1 (vcells_eq x) (ih x _ (by omega) (by omega)))) ?_
    refine zv2 ?_
    refine AWp_regL ?_
    refine zv2 ?_
    refine ⟨i + 1, σ.length + 1, by omega, by omega, by simp, ⟨rfl, rfl, ?_, rfl, rfl, rfl, trivial⟩, closed_own 1 hcl ?_, ?_, take_own 1⟩
    ·rw [ldep_take v.l i x hx]; rfl
    ·simp [ownLt, AO.cells, AV.ltL, AV.lt]
    ·simp [ltE, AV.lt]
   ·(try rw [h3]); replace h3 := zcl h3
    have hie : v.l.take i = v.l := by rw [show i = v.l.length by omega]; exact List.take_length
    rw [hie]
    refine AWp_exit ?_
    refine AWp_seq ?_
    refine zw4 ?_
    refine AWp_block ?_
    -- loop 1 LIVE 2:assign 3:assign 29:load 30:call 31:move
    refine AWp_loop (ι := Nat) (fun i => i ≤ v.m.length) (fun i => ⟨[], [(1, .ptr (σ.length + 0) 0), (3, .int .i64 (max (ldep v.l) (mdep (v.m.take i)))), (29, .sl false 9 (mcells v.m)), (30, .int .i64 (v.m.length : Int)), (31, .int .i64 (i : Int))]⟩) (fun i => σ ++ [_]) (fun i => v.m.length - i) (0) (Nat.zero_le _) ?_ rfl (fun i hi => ?_)
    ·refine ⟨rfl, rfl, ?_, rfl, ?_, rfl, trivial⟩
     ·rw [show max (ldep v.l) (mdep (v.m.take 0)) = ldep v.l by simp only [List.take_zero, mdep]; omega]; rfl
     ·rw [← mcells_length]; rfl
    refine zw1 ?_
    refine AWp_seq ?_
    refine AWp_cond rfl (fun h4 => ?_) (fun h4 => ?_)
    ·(try rw [h4]); replace h4 := zcl h4
     obtain ⟨q, hq⟩ : ∃ q, v.m[i]? = some q := ⟨_, List.getElem?_eq_getElem (show i < v.m.length by omega)⟩
     have hms := msize_mem hq
     refine AWp_skip ?_
     refine AWp_seq ?_
     refine AWp_block ?_
     refine zu1 ?_
     rw [vcells_eq q.2]
     refine zv3 ?_
     refine AWp_regL ?_
     refine zg3 ?_
     refine zt rfl (zc rfl (AC1 (vcells_eq q.2) (ih q.2 _ (by omega) (by omega)))) ?_
     refine zv2 ?_
     refine AWp_regL ?_
     refine zv2 ?_
     refine ⟨i + 1, σ.length + 1, by omega, by omega, by simp, ⟨rfl, rfl, ?_, rfl, rfl, rfl, trivial⟩, closed_own 1 hcl ?_, ?_, take_own 1⟩
     ·rw [mdep_take v.m i q hq, show ∀ a b c : Int, max a (max b c) = max (max a b) c by intros; omega]; rfl
     ·simp [ownLt, AO.cells, AV.ltL, AV.lt]
     ·simp [ltE, AV.lt]
    ·(try rw [h4]); replace h4 := zcl h4
     have hie2 : v.m.take i = v.m := by rw [show i = v.m.length by omega]; exact List.take_length
     rw [hie2]
     refine AWp_exit ?_
     refine zw3 ?_
     refine zrt ?_
     refine ResQ_1 rfl hcl trivial (Ret_of ?_)
     rw [h2] at hj; congr 1; rw [hde, if_pos (by by_cases hk : v.kind = 4 <;> simp_all)]

theorem size_any (n : Nat) : ∀ (v : JV) (σ : List AO), jsize v ≤ n → n ≤ 1000000000 → ACalls Tryz.prog 54 [.agg (vcells v)] σ (Ret (.int .i64 (jsize v)) σ) := by
 induction n with
 | zero => intro v σ h; have := jsize_pos v; omega
 | succ n ih =>
 intro v σ hn hb
 have hvs := jsize_eq v
 have hl := lsize_nn v.l
 have hm := msize_nn v.m
 have hll := llen_le v.l
 have hml := mlen_le v.m
 refine ACalls_body Tryz.func54 rfl Tryz.ntmps54 (res1 Tryz.results54) (Nat.le_of_ble_eq_true rfl) (fun hcl hal => ?_)
 rw [vcells_eq v]
 refine zw2 ?_
 refine zw1 ?_
 refine AWp_seq ?_
 refine zw4 ?_
 refine AWp_block ?_
 -- loop 0 LIVE 1:box 2:assign 3:assign 9:load 10:call 11:move
 refine AWp_loop (ι := Nat) (fun i => i ≤ v.l.length) (fun i => ⟨[], [(1, .ptr (σ.length + 0) 0), (3, .int .i64 (1 + lsize (v.l.take i))), (9, .sl false 8 (lcells v.l)), (10, .int .i64 (v.l.length : Int)), (11, .int .i64 (i : Int))]⟩) (fun i => σ ++ [_]) (fun i => v.l.length - i) (0) (Nat.zero_le _) ?_ rfl (fun i hi => ?_)
 ·refine ⟨rfl, rfl, rfl, rfl, ?_, rfl, trivial⟩
  rw [← lcells_length]; rfl
 have htl := lsize_take_le v.l i
 have htn := lsize_nn (v.l.take i)
 refine zw1 ?_
 refine AWp_seq ?_
 refine AWp_cond rfl (fun h1 => ?_) (fun h1 => ?_)
 ·(try rw [h1]); replace h1 := zcl h1
  obtain ⟨x, hx⟩ : ∃ x, v.l[i]? = some x := ⟨_, List.getElem?_eq_getElem (show i < v.l.length by omega)⟩
  have hlm := lsize_mem hx
  have hxp := jsize_pos x
  have hts := lsize_take v.l i x hx
  have htl1 := lsize_take_le v.l (i + 1)
  refine AWp_skip ?_
  refine AWp_seq ?_
  refine AWp_block ?_
  refine zu1 ?_
  rw [vcells_eq x]
  refine zv3 ?_
  refine AWp_regL ?_
  refine zg2 ?_
  refine zt rfl (zc rfl (AC1 (vcells_eq x) (ih x _ (by omega) (by omega)))) ?_
  refine zv2 ?_
  refine AWp_regL ?_
  refine zv2 ?_
  refine ⟨i + 1, σ.length + 1, by omega, by omega, by simp, ⟨rfl, rfl, ?_, rfl, rfl, rfl, trivial⟩, closed_own 1 hcl ?_, ?_, take_own 1⟩
  ·rw [lsize_take v.l i x hx, ← Int.add_assoc]; rfl
  ·simp [ownLt, AO.cells, AV.ltL, AV.lt]
  ·simp [ltE, AV.lt]
 ·(try rw [h1]); replace h1 := zcl h1
  have hie : v.l.take i = v.l := by rw [show i = v.l.length by omega]; exact List.take_length
  rw [hie]
  refine AWp_exit ?_
  refine AWp_seq ?_
  refine zw4 ?_
  refine AWp_block ?_
  -- loop 1 LIVE 2:assign 3:assign 21:load 22:call 23:move
  refine AWp_loop (ι := Nat) (fun i => i ≤ v.m.length) (fun i => ⟨[], [(1, .ptr (σ.length + 0) 0), (3, .int .i64 (1 + lsize v.l + msize (v.m.take i))), (21, .sl false 9 (mcells v.m)), (22, .int .i64 (v.m.length : Int)), (23, .int .i64 (i : Int))]⟩) (fun i => σ ++ [_]) (fun i => v.m.length - i) (0) (Nat.zero_le _) ?_ rfl (fun i hi => ?_)
  ·refine ⟨rfl, rfl, ?_, rfl, ?_, rfl, trivial⟩
   ·simp [msize]; rfl
   ·rw [← mcells_length]; rfl
  have htl2 := msize_take_le v.m i
  have htn2 := msize_nn (v.m.take i)
  refine zw1 ?_
  refine AWp_seq ?_
  refine AWp_cond rfl (fun h2 => ?_) (fun h2 => ?_)
  ·(try rw [h2]); replace h2 := zcl h2
   obtain ⟨q, hq⟩ : ∃ q, v.m[i]? = some q := ⟨_, List.getElem?_eq_getElem (show i < v.m.length by omega)⟩
   have hms := msize_mem hq
   have hqp := jsize_pos q.2
   have hts2 := msize_take v.m i q hq
   have htl3 := msize_take_le v.m (i + 1)
   refine AWp_skip ?_
   refine AWp_seq ?_
   refine AWp_block ?_
   refine zu1 ?_
   rw [vcells_eq q.2]
   refine zv3 ?_
   refine AWp_regL ?_
   refine zg3 ?_
   refine zt rfl (zc rfl (AC1 (vcells_eq q.2) (ih q.2 _ (by omega) (by omega)))) ?_
   refine zv2 ?_
   refine AWp_regL ?_
   refine zv2 ?_
   refine ⟨i + 1, σ.length + 1, by omega, by omega, by simp, ⟨rfl, rfl, ?_, rfl, rfl, rfl, trivial⟩, closed_own 1 hcl ?_, ?_, take_own 1⟩
   ·rw [msize_take v.m i q hq, ← Int.add_assoc]; rfl
   ·simp [ownLt, AO.cells, AV.ltL, AV.lt]
   ·simp [ltE, AV.lt]
  ·(try rw [h2]); replace h2 := zcl h2
   have hie2 : v.m.take i = v.m := by rw [show i = v.m.length by omega]; exact List.take_length
   rw [hie2]
   refine AWp_exit ?_
   refine zw2 ?_
   refine zrt ?_
   refine ResQ_1 rfl hcl trivial (Ret_of ?_)
   congr 1; omega
end Lg
