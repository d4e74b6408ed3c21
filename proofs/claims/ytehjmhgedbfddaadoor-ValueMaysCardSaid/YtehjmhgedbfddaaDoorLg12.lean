import Derived.Test.YtehjmhgedbfddaaDoorLg11
set_option linter.unusedVariables false
set_option linter.unusedSimpArgs false
set_option linter.unusedSectionVars false
namespace Lg
open Go Go.RowKit
variable [GLay]

variable {P : Program} {σ : List AO} {e : Env} {o : Oper}

/-! ### append -/
/-- What is appended: its cells, and how many elements. -/
def srcv (σ : List AO) : AV → Option (List AV × Nat)
  | .nils => some ([], 0)
  | .sl _ _ es => some (es.flatten, es.length)
  | .arr p g sz off len => match σ[p]? with
    | some (.arr _ g' cs) => if g = g' then (tk (len * sz) (cs.drop (off * sz))).map fun ds => (ds, len) else none
    | _ => none
  | .str s => some (s.data.toList.map fun b => .int .u8 b.toNat, s.size)
  | _ => none
/-- The element size of a slice value. -/
def szv : AV → Nat → Prop
  | .sl _ sz _, n | .arr _ _ sz _ _, n => sz = n
  | .str _, n => n = 1
  | _, _ => True

theorem one_of_pw {s : CS} {cs : List AV} {vs : List Value} (h1 : PW s cs vs) (h2 : ones cs = true) : ∀ v ∈ vs, v.oneCell' = true := fun v hv => by
  obtain ⟨i, hi, rfl⟩ := List.getElem_of_mem hv
  have hi' : i < cs.length := h1.1 ▸ hi
  exact (h1.2 i cs[i] vs[i] (List.getElem?_eq_getElem hi') (List.getElem?_eq_getElem hi)).one ((ones_iff cs).1 h2 _ (List.getElem_mem hi'))

/-- The appended cells can be read, now and behind a draw. -/
theorem V.src {s : CS} (g : Good s) {a : AV} {c : Value} {sz m : Nat} {cs : List AV} (h : V s a c) (hs : srcv s.σ a = some (cs, m)) (hsz : szv a sz) :
    ∃ vs : List Value, PW s cs vs ∧ (Builtin.lenOf c).run P s.w = .ok m s.w ∧ ∀ w : World, w.heap = s.w.heap → (Builtin.firstCells sz m c).run P w = .ok vs.toArray w := by
  have hload : ∀ {b off len cap : Nat} {vs : List Value}, vs.length = m * sz → (∀ (i : Nat) (v : Value), vs[i]? = some v → s.w.cell? ⟨b, off + i, none⟩ = some v) → ∀ w : World, w.heap = s.w.heap →
      (Builtin.firstCells sz m (.slice (some ⟨b, off, none⟩) len cap)).run P w = .ok vs.toArray w := fun {b off len cap vs} hl hc w hw =>
    run_firstCells_some w sz m _ len cap vs hl fun j v hj => by
      rw [add_none]
      have := hc j v hj
      simp only [World.cell?, hw] at this ⊢
      exact this
  cases a <;> simp only [srcv, Option.some.injEq, Prod.mk.injEq, reduceCtorEq] at hs
  · obtain ⟨rfl, rfl⟩ := hs
    rename_i b
    refine ⟨b.data.toList.map fun u => .int .u8 u.toNat, ?_, ?_, fun w _ => ?_⟩
    · refine ⟨by simp, fun i c v h1 h2 => ?_⟩
      rw [List.getElem?_map] at h1 h2
      cases hu : b.data.toList[i]? with
      | none => rw [hu] at h1; cases h1
      | some u => rw [hu] at h1 h2; cases h1; cases h2; exact .int _ _
    · rw [h.inv_str]; simp [Builtin.lenOf]
    · rw [h.inv_str]
      simp only [Builtin.firstCells, Sem.run_pure]
      congr 1
      apply Array.ext'
      simp
  · obtain ⟨rfl, rfl⟩ := hs
    rw [h.inv_nils]
    exact ⟨[], .nil, by simp [Builtin.lenOf], fun w _ => by simp [Builtin.firstCells]⟩
  · rename_i f sz' es
    obtain ⟨rfl, rfl⟩ := hs
    have hsz : sz' = sz := hsz
    subst hsz
    rcases h.inv_sl with ⟨ad, rfl, rfl⟩ | ⟨b, off, cap, vs, rfl, _, hel, hc, hp, _⟩
    · exact ⟨[], .nil, by simp [Builtin.lenOf], fun w _ => by cases ad <;> simp [Builtin.firstCells, loadCells, loadCellsFrom]⟩
    · exact ⟨vs, hp, by simp [Builtin.lenOf], hload (by rw [hp.1, flatten_len hel]) hc⟩
  · rename_i p gg sz' off len
    have hsz : sz' = sz := hsz
    subst hsz
    split at hs
    · rename_i sz2 g' cs0 hσ
      split at hs
      · rename_i e0
        subst e0
        simp only [Option.map_eq_some_iff, Prod.mk.injEq] at hs
        obtain ⟨ds, hd, rfl, rfl⟩ := hs
        obtain ⟨rfl, hle⟩ := tk_eq hd
        obtain ⟨rfl, ⟨ad, rfl, rfl⟩ | ⟨cap, rfl, h4, h5⟩⟩ := h.inv_arr hσ
        · refine ⟨[], by simpa using PW.nil, by simp [Builtin.lenOf], fun w _ => ?_⟩
          cases ad <;> simp [Builtin.firstCells, loadCells, loadCellsFrom]
        · by_cases h0 : len * sz2 = 0
          · refine ⟨[], by rw [h0]; simpa using PW.nil, by simp [Builtin.lenOf], ?_⟩
            exact hload (by simp [h0]) (by simp)
          · have hlive : s.live p := by
              unfold CS.live; rw [hσ]
              intro ht
              have : (off + cap) * sz2 = 0 := by omega
              have h6 : len * sz2 ≤ (off + cap) * sz2 := Nat.mul_le_mul_right _ (by omega)
              omega
            obtain ⟨_, vs, T, hb, _, h7, h8, hp⟩ := g.rep hσ hlive
            simp at hle
            have hx := (hp.drop (off * sz2)).take (len * sz2)
            rw [List.drop_take, List.take_take, List.drop_drop, Nat.min_eq_left (by omega)] at hx
            refine ⟨_, hx, by simp [Builtin.lenOf], hload (by simp; omega) fun i v hi => ?_⟩
            rw [List.getElem?_take] at hi
            split at hi
            · rw [List.getElem?_drop, Nat.add_assoc] at hi
              rw [cells_get hb, Nat.add_assoc]; exact hi
            · cases hi
      · cases hs
    · cases hs

theorem run_append_room' {w : World} {t u ty E : TypeId} {i : TypeInfo} {d : TypeDesc} {b off sLen sCap m : Nat} {x : Value} {news : List Value} {cur : List Value} {T : TypeId}
    (hd : d = .string ∨ ∃ E', d = .slice E') (ht : P.underlying t = some (.slice E)) (hu : P.underlying u = some d) (hi : P.info? E = some i) (hx : (Builtin.lenOf x).run P w = .ok m w) (hf : (Builtin.firstCells i.size m x).run P w = .ok news.toArray w)
    (hroom : sLen + m ≤ sCap) (hb : w.heap[b]? = some (.cells cur.toArray T (0, 0))) (hfit : off + sLen * i.size + news.length ≤ cur.length) (h1 : ∀ v ∈ news, v.oneCell' = true) :
    (Builtin.append_ #[t, u] ty #[.slice (some ⟨b, off, none⟩) sLen sCap, x]).run P w =
      .ok (.slice (some ⟨b, off, none⟩) (sLen + m) sCap) (w.setRow b (cur.take (off + sLen * i.size) ++ news ++ cur.drop (off + sLen * i.size + news.length)).toArray) := by
  have hst := run_storeCells_at P b (off + sLen * i.size) T news 0 cur.toArray w hb (by simpa using hfit) h1
  simp only [Nat.add_zero] at hst
  rcases hd with rfl | ⟨E', rfl⟩ <;> simp [Builtin.append_, run_underlying ht, run_underlying hu, Go.sizeOf, typeInfo, hi, hx, hf, hroom, add_none, hst]

theorem run_append_new' {w : World} {t u ty E : TypeId} {i : TypeInfo} {z : Value} {d : TypeDesc} {A : Option Addr} {sLen sCap m : Nat} {x : Value} {olds news : List Value}
    (hd : d = .string ∨ ∃ E', d = .slice E') (ht : P.underlying t = some (.slice E)) (hu : P.underlying u = some d) (hi : P.info? E = some i) (hz : i.zero = some z) (hx : (Builtin.lenOf x).run P w = .ok m w)
    (hf : (Builtin.firstCells i.size m x).run P w.drew = .ok news.toArray w.drew) (hfo : (Builtin.firstCells i.size sLen (.slice A sLen sCap)).run P w.drew = .ok olds.toArray w.drew)
    (hroom : sCap < sLen + m) (h63 : sLen + m ≤ 9223372036854775807) (hby : (sLen + m) * i.bytes ≤ 140737488355328) :
    ∃ rest : List Value, ∃ cap : Nat, sLen + m ≤ cap ∧ rest.length = (cap - (sLen + m)) * z.cells.size ∧ (Builtin.append_ #[t, u] ty #[.slice A sLen sCap, x]).run P w =
      .ok (.slice (some ⟨w.heap.size, 0, none⟩) (sLen + m) cap) (w.drew.alloc (.cells (olds ++ news ++ rest).toArray E (0, 0))) := by
  have hn : ¬ (sLen + m ≤ sCap) := by omega
  have h63' : ¬ (9223372036854775807 < ((sLen : Int) + (m : Int))) := by omega
  have hfit := growslice_fits (need := sLen + m) (old := sCap) (bytes := i.bytes) hroom hby
  have h48' : ¬ (281474976710656 < Builtin.nextslicecap (sLen + m) sCap * i.bytes) := by omega
  refine ⟨(Builtin.zeroCells z.cells (grownCap w (sLen + m) sCap E - (sLen + m))).toList, grownCap w (sLen + m) sCap E, grownCap_ge _ _ _ _, by simp [size_zeroCells], ?_⟩
  rcases hd with rfl | ⟨E', rfl⟩
  all_goals
    simp [Builtin.append_, run_underlying ht, run_underlying hu, Go.sizeOf, typeInfo, zeroValue, hi, hz, hx, hn, h63', h48', Question.forced, hf, hfo, newRow, grownCap]
    congr 2
    apply Array.ext'
    simp
end Lg
