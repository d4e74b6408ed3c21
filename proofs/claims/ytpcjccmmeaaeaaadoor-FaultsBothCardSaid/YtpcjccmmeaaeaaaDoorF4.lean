/- A part of the proof of Any faults, rising; any two lists of them, one; any, under any name: as the document has it.: Lg58 Lg59 Lg60 Lk9 Lt1 Lt2 Lt3 Lt4 Lg61 Lg62 Lf1 Lk8 Lr5 Lo1 Lr6 Lo2 Lo3 Ln9 Ln10 Ln11 Ln12 Le1 Le2 Le3 Le4 Lg53 Le5 Le6 Lr7 Lr8 Le7 Le8 Le9 Le10 Le11 Le12 Le13 Le14 Lj1 Lj2 Lc1 Lc2 Lc3 Lc4 Lg54 Lc5 Lc9 Lc10 Lg55 Lg63 Lf2 Lw3 F1 F4 Lf3 Lc6 Lc7 F5 F6 Sh8 F7 F2 Sh5 P1 F3 X4 K4 F8. -/
import Derived.Test.YtpcjccmmeaaeaaaDoorF3
import Derived.Test.YtpcjccmmeaaeaaaDoorF2
import Derived.Shelf.SlSortCmp.NoneTotal
import Derived.Lib.Atoi
import Derived.Lib.Overlaps
import Derived.Lib.SlTrimSet
import Derived.Deep.Strs
import Derived.Lib.Walk
import Derived.StillTailTactics
import Derived.Deep.QuietTactic
import Derived.BigQuiet
import Derived.Sort.Grow
import Derived.Shelf.Small.Bits
import Derived.RowKit
import Derived.Laws.Cover1
import Derived.Test.YtpcjccmmeaaeaaaDoorProg
import Derived.Shelf.Strings.Replace
import Derived.Shelf.Strings.Split
import Derived.Shelf.Strings.Shaped
set_option linter.unusedVariables false
set_option linter.unusedSimpArgs false
set_option linter.unusedSectionVars false
namespace Lg
open Go Go.RowKit
variable [GLay]
section
variable {P : Program} {N : Nat} {σ l : List AO} {e : Env} {Q : QA}
end
end Lg
namespace Lg
open Go Go.RowKit
variable [GLay]
end Lg
namespace Lg
open Go Go.RowKit
variable [GLay]
section
variable {P : Program} {N : Nat} {σ l : List AO} {e : Env} {o : Oper}
end
end Lg
namespace Lg
open Go Go.RowKit
section
variable [GLay] {P : Program} {N : Nat} {σ l : List AO} {e : Env} {Q : QA}
end
end Lg
namespace Lg
open Go Go.RowKit
variable [GLay] {P : Program} {N : Nat} {σ l : List AO} {e : Env} {Q : QA} {o : Oper}
end Lg
namespace Lg
open Go
end Lg
namespace Lg
open Go
mutual
def seenV : JV → Int → List (Int × AV)
  | .mk k b n s l m, id => seenL l (id + 1) ++ seenM m (id + 1 + lsize l) ++ [(id, .agg (vcells (.mk k b n s l m)))]
def seenL : List JV → Int → List (Int × AV)
  | [], _ => []
  | x :: r, id => seenV x id ++ seenL r (id + jsize x)
def seenM : List (ByteArray × JV) → Int → List (Int × AV)
  | [], _ => []
  | (_, x) :: r, id => seenV x id ++ seenM r (id + jsize x)
end
mutual
theorem seenV_key : ∀ (v : JV) (id : Int), ∀ q ∈ seenV v id, id ≤ q.1 ∧ q.1 < id + jsize v
  | .mk k b n s l m, id => fun q hq => by
    have hl := lsize_nn l
    have hm := msize_nn m
    rw [seenV] at hq
    rw [jsize]
    rcases List.mem_append.1 hq with hq | hq
    · rcases List.mem_append.1 hq with hq | hq
      · have := seenL_key l _ q hq; omega
      · have := seenM_key m _ q hq; omega
    · rw [List.mem_singleton] at hq; subst hq; simp only; omega
theorem seenL_key : ∀ (l : List JV) (id : Int), ∀ q ∈ seenL l id, id ≤ q.1 ∧ q.1 < id + lsize l
  | [], id => fun q hq => by simp [seenL] at hq
  | x :: r, id => fun q hq => by
    have hr := lsize_nn r
    have hx := jsize_pos x
    rw [seenL] at hq
    rw [lsize]
    rcases List.mem_append.1 hq with hq | hq
    · have := seenV_key x _ q hq; omega
    · have := seenL_key r _ q hq; omega
theorem seenM_key : ∀ (m : List (ByteArray × JV)) (id : Int), ∀ q ∈ seenM m id, id ≤ q.1 ∧ q.1 < id + msize m
  | [], id => fun q hq => by simp [seenM] at hq
  | (a, x) :: r, id => fun q hq => by
    have hr := msize_nn r
    have hx := jsize_pos x
    rw [seenM] at hq
    rw [msize]
    rcases List.mem_append.1 hq with hq | hq
    · have := seenV_key x _ q hq; omega
    · have := seenM_key r _ q hq; omega
end
section
variable [GLay]
mutual
theorem seenV_lt (n : Nat) : ∀ (v : JV) (id : Int), ∀ q ∈ seenV v id, q.2.lt n
  | .mk k b nn s l m, id => fun q hq => by
    rw [seenV] at hq
    rcases List.mem_append.1 hq with hq | hq
    · rcases List.mem_append.1 hq with hq | hq
      · exact seenL_lt n l _ q hq
      · exact seenM_lt n m _ q hq
    · rw [List.mem_singleton] at hq; subst hq; simp [AV.lt]
theorem seenL_lt (n : Nat) : ∀ (l : List JV) (id : Int), ∀ q ∈ seenL l id, q.2.lt n
  | [], id => fun q hq => by simp [seenL] at hq
  | x :: r, id => fun q hq => by
    rw [seenL] at hq
    rcases List.mem_append.1 hq with hq | hq
    · exact seenV_lt n x _ q hq
    · exact seenL_lt n r _ q hq
theorem seenM_lt (n : Nat) : ∀ (m : List (ByteArray × JV)) (id : Int), ∀ q ∈ seenM m id, q.2.lt n
  | [], id => fun q hq => by simp [seenM] at hq
  | (a, x) :: r, id => fun q hq => by
    rw [seenM] at hq
    rcases List.mem_append.1 hq with hq | hq
    · exact seenV_lt n x _ q hq
    · exact seenM_lt n r _ q hq
end
end
end Lg
namespace Lg
open Go
def DD (r : RS) (x : JV × RS) : Prop := r.deep ≤ 32 → x.2.bad = 0 → jdepth x.1 + r.deep ≤ 32
section
variable [GLay]
variable {rv : RS → JV × RS} {s : ByteArray} (hs : s.size ≤ 100000) (hrv : ∀ r, ROK s r → VR s r (rv r)) (hd : ∀ r, ROK s r → DD r (rv r))
include hrv hd
include hs
end
section
variable [GLay]
end
section
variable [GLay]
end
end Lg
namespace Lg
open Go
section
variable {σ : List AO} {p q : Nat} {x y : AO}
end
section
variable [GLay]
variable {σ : List AO} {p q : Nat} {x y : AO}
end
section
variable [GLay]
structure SP (v : JV) (id deep frm nw lst : Int) (M : List (Int × AV)) (p q : Nat) (σ : List AO) : Prop where
  hp : σ[p]? = some (.box [.mapv q, .int .i64 frm, .int .i64 nw, .int .i64 lst])
  hq : σ[q]? = some (.map (imap M))
  key : ∀ a ∈ M, a.1 < id
  ml : ∀ k, ∀ a ∈ M, a.2.lt k
  len : (M.length : Int) + jsize v ≤ 20000
  d0 : 0 ≤ deep
  dd : deep + jdepth v ≤ 40
  i0 : 0 ≤ id
  ib : id + jsize v ≤ 1000000000
  f : frm ≤ id
  n0 : 0 ≤ nw
  nb : nw + jsize v ≤ 1000000
theorem SP.ne {v : JV} {id deep frm nw lst : Int} {M : List (Int × AV)} {p q : Nat} {σ : List AO} (h : SP v id deep frm nw lst M p q σ) : p ≠ q := fun e => by
  have h1 := h.hp; have h2 := h.hq
  rw [e, h2] at h1; cases h1
theorem SP.none {v : JV} {id deep frm nw lst : Int} {M : List (Int × AV)} {p q : Nat} {σ : List AO} (h : SP v id deep frm nw lst M p q σ) (K : List JV) : iget (M ++ seenL K (id + 1)) id = none :=
  iget_none fun a ha e => by
    rcases List.mem_append.1 ha with ha | ha
    · have := h.key a ha; omega
    · have := seenL_key _ _ a ha; omega
theorem SP.lt {v : JV} {id deep frm nw lst : Int} {M : List (Int × AV)} {p q : Nat} {σ : List AO} (h : SP v id deep frm nw lst M p q σ) (k : Nat) (K : List JV) : AV.ltL k (mflat (imap (M ++ seenL K (id + 1)))) :=
  imap_lt k _ fun a ha => by
    rcases List.mem_append.1 ha with ha | ha
    · exact h.ml k a ha
    · exact seenL_lt k _ _ a ha
end
end Lg
namespace Lg
open Go Go.RowKit
class LenOf (τ : List AO) (σ : outParam (List AO)) : Prop where h : τ.length = σ.length
section
variable [GLay]
variable {σ l : List AO} {p q r : Nat} {X Y Z X' Y' Z' : AO}
end
section
variable [GLay]
variable {τ σ l : List AO} [hτ : LenOf τ σ]
variable {P : Program} {N : Nat} {e : Env} {Q : QA} {o : Oper}
end
section
variable [GLay] {P : Program} {N : Nat} {σ : List AO} {e : Env} {Q : QA} {o : Oper}
end
section
variable [GLay] {P : Program} {σ l : List AO} {p q r : Nat} {X Y Z : AO} {e : Env} {o : Oper}
end
section
variable [GLay] {P : Program} {f : FuncId} {args : List AV} {v : AV} {σ l : List AO} {p q r : Nat} {X Y Z X' Y' Z' : AO}
end
end Lg
namespace Lg
open Go Go.Proofs Go.Shelf Go.RowKit Go.Sort
abbrev FT := ByteArray × ByteArray × ByteArray
def fenc (x : FT) : List Value := [.string x.1, .string x.2.1, .string x.2.2]
def frow (x : FT) : List AV := [.str x.1, .str x.2.1, .str x.2.2]
def frows (l : List FT) : List (List AV) := l.map frow
theorem frows_flen (l : List FT) : (frows l).flatten.length = l.length * 3 := by
  induction l with
  | nil => rfl
  | cons x l ih => show (frow x ++ (frows l).flatten).length = _; rw [List.length_append, ih]; simp [frow]; omega
theorem fenc_flen (l : List FT) : (l.map fenc).flatten.length = l.length * 3 := by
  induction l with
  | nil => rfl
  | cons x l ih => show (fenc x ++ (l.map fenc).flatten).length = _; rw [List.length_append, ih]; simp [fenc]; omega
theorem fenc_get : ∀ (l : List FT) (t : Nat), t < l.length * 3 → (l.map fenc).flatten[t]? = some ((fenc l.toArray[t / 3]!)[t % 3]!)
  | [], t, h => by simp at h
  | x :: l, t, h => by
    show (fenc x ++ (l.map fenc).flatten)[t]? = _
    have hl : (fenc x).length = 3 := rfl
    by_cases ht : t < 3
    · rw [List.getElem?_append_left (by rw [hl]; exact ht)]
      have h3 : t = 0 ∨ t = 1 ∨ t = 2 := by omega
      rcases h3 with rfl | rfl | rfl <;> rfl
    · rw [List.getElem?_append_right (by rw [hl]; omega), hl, fenc_get l (t - 3) (by simp at h; omega)]
      have e1 : t / 3 = (t - 3) / 3 + 1 := by omega
      have e2 : t % 3 = (t - 3) % 3 := by omega
      rw [e1, e2]
      have : l.toArray[(t - 3) / 3]! = (x :: l).toArray[(t - 3) / 3 + 1]! := by simp
      rw [this]
theorem flatK_fenc (l : List FT) : flatK fenc 3 l.toArray = (l.map fenc).flatten.toArray := by
  apply Array.ext_getElem?
  intro t
  by_cases h : t < l.length * 3
  · have e : (l.map fenc).flatten.toArray[t]? = (l.map fenc).flatten[t]? := by rw [List.getElem?_toArray]
    rw [e, fenc_get l t h]
    simp [flatK, h]
  · rw [Array.getElem?_eq_none (by simp; omega), List.getElem?_toArray, List.getElem?_eq_none (by rw [fenc_flen]; omega)]
variable [GLay]
theorem PW_frows {s : CS} : ∀ (l : List FT), PW s (frows l).flatten (l.map fenc).flatten
  | [] => PW.nil
  | x :: l => by
    show PW s (frow x ++ (frows l).flatten) (fenc x ++ (l.map fenc).flatten)
    exact PW.append (PW.cons (.str _) (PW.cons (.str _) (PW.cons (.str _) PW.nil))) (PW_frows l)
theorem PW_frows_inv {s : CS} : ∀ (l : List FT) {vs : List Value}, PW s (frows l).flatten vs → vs = (l.map fenc).flatten
  | [], vs, h => by have := h.inv_nil; exact this
  | x :: l, vs, h => by
    have h : PW s (.str x.1 :: .str x.2.1 :: .str x.2.2 :: (frows l).flatten) vs := h
    obtain ⟨q, qs, rfl, h1, h2⟩ := h.inv_cons
    obtain ⟨q2, qs2, rfl, h3, h4⟩ := h2.inv_cons
    obtain ⟨q3, qs3, rfl, h5, h6⟩ := h4.inv_cons
    obtain rfl := h1.inv_str
    obtain rfl := h3.inv_str
    obtain rfl := h5.inv_str
    rw [PW_frows_inv l h6]
    rfl
theorem frows_holds {s : CS} (g : Good s) {p gg : Nat} {l : List FT} (ho : s.σ[p]? = some (.arr 3 gg (frows l).flatten)) (hn : l ≠ []) :
    s.live p ∧ HoldsK fenc 3 s.w (s.μ p).b (s.μ p).base l.toArray ∧ (s.μ p).b < s.w.heap.size := by
  have hlen : 0 < l.length := List.length_pos_iff.2 hn
  rcases g.obj p _ ho with ⟨_, h0⟩ | ⟨h0, hnok, vs, T, h2, h3, h4, h5⟩
  · have := congrArg List.length h0; rw [frows_flen] at this; simp at this; omega
  · have hl : s.live p := by unfold CS.live; rw [ho]; exact h0
    refine ⟨hl, ?_, (g.live_lt hl).1⟩
    have hv := PW_frows_inv l h5
    unfold HoldsK
    rw [flatK_fenc]
    intro j hj
    have hj' : j < l.length * 3 := by rw [List.size_toArray, fenc_flen] at hj; exact hj
    rw [frows_flen] at h4 hv
    have hg : vs[(s.μ p).base + j]? = some ((l.map fenc).flatten.toArray[j]!) := by
      have : ((vs.drop (s.μ p).base).take (l.length * 3))[j]? = (l.map fenc).flatten[j]? := by rw [hv]
      rw [List.getElem?_take, if_pos hj', List.getElem?_drop] at this
      have hlt : j < (l.map fenc).flatten.length := by rw [fenc_flen]; exact hj'
      rw [this, List.getElem?_eq_getElem hlt, getElem!_pos _ j (by rw [List.size_toArray]; exact hlt)]
      rfl
    refine ⟨?_, ?_⟩
    · unfold World.cell?
      rw [h2]
      simp [hg]
    · unfold World.frozen?
      rw [h2]
      simp
theorem putCells_list (vs news : List Value) (base : Nat) (h : base + news.length ≤ vs.length) :
    putCells id base news.toArray vs.toArray = (vs.take base ++ news ++ vs.drop (base + news.length)).toArray := by
  apply Array.ext_getElem?
  intro k
  simp only [putCells, Array.getElem?_mapIdx, List.getElem?_toArray, List.size_toArray, List.getElem?_append, List.length_append, List.length_take, List.getElem?_take, List.getElem?_drop]
  rw [Nat.min_eq_left (by omega)]
  by_cases h1 : k < base
  · simp only [show k < base + news.length by omega, h1, if_true]
    rw [List.getElem?_eq_getElem (by omega)]
    simp only [Option.map_some]
    rw [if_neg (by omega)]
  · by_cases h2 : k < base + news.length
    · simp only [h2, h1, if_true, if_false]
      rw [List.getElem?_eq_getElem (show k < vs.length by omega), List.getElem?_eq_getElem (show k - base < news.length by omega)]
      simp only [Option.map_some]
      rw [if_pos ⟨by omega, by first | trivial | omega⟩, getElem!_pos _ (k - base) (by rw [List.size_toArray]; omega)]
      rfl
    · simp only [h2, if_false]
      have e : base + news.length + (k - (base + news.length)) = k := by omega
      rw [e]
      cases hk : vs[k]? with
      | none => rfl
      | some v => simp only [Option.map_some]; rw [if_neg (fun hh => h2 (by simpa using hh.2))]
theorem frows_put {s : CS} (g : Good s) {p gg : Nat} {l l' : List FT} (ho : s.σ[p]? = some (.arr 3 gg (frows l).flatten)) (hn : l ≠ []) (hl' : l'.length = l.length) (n : Nat) (os : Array Obj) :
    ∃ s', s'.σ = s.σ.set p (.arr 3 gg (frows l').flatten) ∧ s'.w = sortWorldK fenc 3 s.w (s.μ p).b (s.μ p).base n l'.toArray os ∧ Good s' ∧ Ext s s' := by
  obtain ⟨hl, _, _⟩ := frows_holds g ho hn
  obtain ⟨hnok, vs, T, h2, h0, h3, h4, h5⟩ := g.rep ho hl
  rw [frows_flen] at h4
  have hfl : (frows l').flatten.length = l.length * 3 := by rw [frows_flen, hl']
  have hnl : (l'.map fenc).flatten.length = l.length * 3 := by rw [fenc_flen, hl']
  let vs' := vs.take (s.μ p).base ++ (l'.map fenc).flatten ++ vs.drop ((s.μ p).base + (l'.map fenc).flatten.length)
  have hvl : vs'.length = vs.length := by simp only [vs', List.length_append, List.length_take, List.length_drop, hnl]; omega
  have hrep : RepW s (s.μ p) vs' 0 (.arr 3 gg (frows l').flatten) := by
    refine ⟨h0, hvl.trans h3, by rw [hfl]; exact h4, ?_⟩
    have : (vs'.drop (s.μ p).base).take (frows l').flatten.length = (l'.map fenc).flatten := by
      rw [hfl, ← hnl]
      simp only [vs']
      rw [List.append_assoc, List.drop_append_of_le_length (by rw [List.length_take]; omega), List.drop_eq_nil_of_le (by rw [List.length_take]; omega), List.nil_append, List.take_left']
      rfl
    rw [this]
    exact PW_frows l'
  obtain ⟨s1, e1, e2, g1, x1, e3, e4⟩ := g.setObj ho hl (o' := .arr 3 gg (frows l').flatten) (.arr _ _ _ _ _ (Nat.le_refl _) (fun _ => by rw [hfl, frows_flen])) (by first | exact .arr _ _ _ _ | trivial | (constructor)) hrep
  have hw : putRowK fenc 3 s.w (s.μ p).b (s.μ p).base l'.toArray = s1.w := by
    rw [e2]
    unfold putRowK putRow mapBlock World.setRow
    rw [flatK_fenc]
    congr 1
    apply Array.ext_getElem?
    intro k
    simp only [Array.getElem?_modify]
    by_cases hk : (s.μ p).b = k
    · subst hk
      rw [if_pos rfl, if_pos rfl, h2]
      simp only [Option.map_some, onCells]
      rw [putCells_list vs _ _ (by rw [hnl]; omega)]
      first | rfl | skip
    · rw [if_neg hk, if_neg hk]
  have hb : Below s1.w.heap.size s1.w (sortWorldK fenc 3 s.w (s.μ p).b (s.μ p).base n l'.toArray os) := by
    unfold sortWorldK
    have e : putRowK fenc 3 (Sort.ahead s.w n) (s.μ p).b (s.μ p).base l'.toArray = Sort.ahead s1.w n := by rw [← hw]; rfl
    rw [e]
    exact ⟨rfl, rfl, rfl, by simp [Sort.ahead], fun k hk => by
      show (s1.w.heap ++ os)[k]? = _
      rw [Array.getElem?_append, if_pos hk]⟩
  obtain ⟨g2, x2⟩ := g1.grow hb
  exact ⟨{ s1 with w := sortWorldK fenc 3 s.w (s.μ p).b (s.μ p).base n l'.toArray os }, e1, rfl, g2, x1.trans x2⟩
end Lg
namespace Lg
open Go Go.Proofs Go.Sort
local instance lf1G : GLay := ⟨fun _ => none⟩
def cmpF (x y : ByteArray) : Int := if Op.bytesLess x.toList y.toList then -1 else if x.toList = y.toList then 0 else 1
def orI (a b c : Int) : Int := if a ≠ 0 then a else if b ≠ 0 then b else c
def fcmp (x y : FT) : Int := orI (cmpF x.1 y.1) (cmpF x.2.1 y.2.1) (cmpF x.2.2 y.2.2)
def flt (x y : FT) : Bool := decide (fcmp x y < 0)
theorem cmpF_self (x : ByteArray) : cmpF x x = 0 := by simp [cmpF, bytesLess_irrefl]
theorem cmpF_zero {x y : ByteArray} : cmpF x y = 0 ↔ x = y := by
  constructor
  · intro h
    unfold cmpF at h
    split at h
    · cases h
    · split at h
      · rename_i e; exact ba_toList_inj e
      · cases h
  · rintro rfl; exact cmpF_self x
theorem cmpF_neg {x y : ByteArray} : cmpF x y < 0 ↔ blt x y = true := by
  unfold cmpF blt
  split
  · simp [*]
  · split <;> simp [*, bytesLess_irrefl]
theorem cmpF_swap (x y : ByteArray) : cmpF y x = - cmpF x y := by
  by_cases h : x = y
  · subst h; rw [cmpF_self]; rfl
  · cases h1 : blt x y with
    | true =>
      have h2 : blt y x = false := bytesLess_asymm _ _ h1
      have hne : ¬ y.toList = x.toList := fun e => h (ba_toList_inj e).symm
      unfold blt at h1 h2
      unfold cmpF
      rw [h1, h2, if_neg hne]
      simp
    | false =>
      have h2 : blt y x = true := bytesLess_total _ _ h1 (fun e => h (ba_toList_inj e))
      have hne : ¬ x.toList = y.toList := fun e => h (ba_toList_inj e)
      unfold blt at h1 h2
      unfold cmpF
      rw [h1, h2, if_neg hne]
      simp
theorem fcmp_swap (x y : FT) : fcmp y x = - fcmp x y := by
  unfold fcmp orI
  rw [cmpF_swap x.1 y.1, cmpF_swap x.2.1 y.2.1, cmpF_swap x.2.2 y.2.2]
  generalize cmpF x.1 y.1 = a
  generalize cmpF x.2.1 y.2.1 = b
  by_cases ha : a = 0
  · by_cases hb : b = 0
    · simp [ha, hb]
    · simp [ha, hb]
  · simp [ha]
theorem fcmp_zero {x y : FT} : fcmp x y = 0 ↔ x = y := by
  obtain ⟨x1, x2, x3⟩ := x
  obtain ⟨y1, y2, y3⟩ := y
  unfold fcmp orI
  simp only [Prod.mk.injEq, ne_eq]
  rw [← cmpF_zero (x := x1), ← cmpF_zero (x := x2), ← cmpF_zero (x := x3)]
  by_cases h1 : cmpF x1 y1 = 0 <;> by_cases h2 : cmpF x2 y2 = 0 <;> simp [h1, h2]
theorem flt_iff {x y : FT} : flt x y = true ↔ blt x.1 y.1 = true ∨ (x.1 = y.1 ∧ (blt x.2.1 y.2.1 = true ∨ (x.2.1 = y.2.1 ∧ blt x.2.2 y.2.2 = true))) := by
  unfold flt fcmp orI
  rw [decide_eq_true_iff]
  rw [← cmpF_neg, ← cmpF_neg, ← cmpF_neg, ← cmpF_zero (x := x.1), ← cmpF_zero (x := x.2.1)]
  generalize cmpF x.1 y.1 = a
  generalize cmpF x.2.1 y.2.1 = b
  by_cases ha : a = 0 <;> by_cases hb : b = 0 <;> simp [ha, hb]
theorem flt_irr (x : FT) : flt x x = false := by
  unfold flt; rw [fcmp_zero.2 rfl]; rfl
theorem flt_trans {x y z : FT} (h : flt x y = true) (k : flt y z = true) : flt x z = true := by
  rw [flt_iff] at *
  obtain ⟨x1, x2, x3⟩ := x
  obtain ⟨y1, y2, y3⟩ := y
  obtain ⟨z1, z2, z3⟩ := z
  rcases h with h | ⟨h0, h | ⟨h1, h⟩⟩ <;> rcases k with k | ⟨k0, k | ⟨k1, k⟩⟩ <;> dsimp only at *
  · exact .inl (blt_trans h k)
  · exact .inl (k0 ▸ h)
  · exact .inl (k0 ▸ h)
  · exact .inl (h0 ▸ k)
  · exact .inr ⟨h0.trans k0, .inl (blt_trans h k)⟩
  · exact .inr ⟨h0.trans k0, .inl (k1 ▸ h)⟩
  · exact .inl (h0 ▸ k)
  · exact .inr ⟨h0.trans k0, .inl (h1 ▸ k)⟩
  · exact .inr ⟨h0.trans k0, .inr ⟨h1.trans k1, blt_trans h k⟩⟩
theorem flt_tri {x y : FT} (h1 : flt x y = false) (h2 : flt y x = false) : x = y := by
  have a := of_decide_eq_false h1
  have b := of_decide_eq_false h2
  rw [fcmp_swap x y] at b
  exact fcmp_zero.1 (by omega)
theorem flt_asym {x y : FT} (h : flt x y = true) : flt y x = false := by
  cases k : flt y x with
  | false => rfl
  | true => have := flt_trans h k; rw [flt_irr] at this; cases this
theorem fSWO : SWO (ltOf fcmp) where
  irrefl := flt_irr
  trans := fun _ _ _ => flt_trans
  ntrans := fun x y z h1 h2 => by
    change flt x y = false at h1
    change flt y z = false at h2
    change flt x z = false
    cases k : flt x z with
    | false => rfl
    | true =>
      cases h3 : flt y x with
      | true => rw [flt_trans h3 k] at h2; cases h2
      | false => have e := flt_tri h1 h3; subst e; rw [k] at h2; cases h2
theorem fT : ∀ x y, (ltOf fcmp) x y = false → (ltOf fcmp) y x = false → x = y := fun _ _ => flt_tri
def fms (l : List FT) : List FT := l.mergeSort fun x y => !(flt y x)
theorem fms_perm (l : List FT) : (fms l).Perm l := List.mergeSort_perm l _
theorem fms_len (l : List FT) : (fms l).length = l.length := (fms_perm l).length_eq
theorem fms_le (l : List FT) : (fms l).Pairwise fun x y => flt y x = false := by
  have := List.pairwise_mergeSort (le := fun x y : FT => !(flt y x)) (fun a b c h1 h2 => by
    simp only [Bool.not_eq_true'] at *
    exact fSWO.ntrans c b a h2 h1) (fun a b => by
    cases h : flt b a with
    | false => rfl
    | true => simp [flt_asym h]) l
  exact this.imp fun h => by simpa using h
def cpt : List FT → List FT
  | [] => []
  | [x] => [x]
  | x :: y :: r => if x = y then cpt (y :: r) else x :: cpt (y :: r)
def fs (l : List FT) : List FT := cpt (fms l)
abbrev SS (l : List FT) : Prop := l.Pairwise fun x y => flt x y = true
theorem cpt_mem {a : FT} : ∀ (l : List FT), a ∈ cpt l ↔ a ∈ l
  | [] => by simp [cpt]
  | [x] => by simp [cpt]
  | x :: y :: r => by
    unfold cpt
    split
    · rename_i e; subst e; rw [cpt_mem (x :: r)]; simp
    · simp only [List.mem_cons, cpt_mem (y :: r)]
theorem cpt_SS : ∀ (l : List FT), (l.Pairwise fun x y => flt y x = false) → SS (cpt l)
  | [], _ => by simp [cpt]
  | [x], _ => by simp [cpt]
  | x :: y :: r, h => by
    have h' := List.pairwise_cons.1 h
    have ih := cpt_SS (y :: r) h'.2
    unfold cpt
    split
    · exact ih
    · rename_i hne
      refine List.pairwise_cons.2 ⟨fun a ha => ?_, ih⟩
      have ha := (cpt_mem _).1 ha
      have hy : flt x y = true := by
        cases k : flt x y with
        | true => rfl
        | false => exact absurd (flt_tri k (h'.1 y (List.mem_cons_self ..))) hne
      rcases List.mem_cons.1 ha with rfl | hr
      · exact hy
      · have h2 := (List.pairwise_cons.1 h'.2).1 a hr
        cases k : flt x a with
        | true => rfl
        | false =>
          have := fSWO.ntrans x a y k (by exact h2)
          change flt x y = false at this
          rw [hy] at this; cases this
theorem fs_SS (l : List FT) : SS (fs l) := cpt_SS _ (fms_le l)
theorem fs_mem {a : FT} (l : List FT) : a ∈ fs l ↔ a ∈ l := by unfold fs; rw [cpt_mem, (fms_perm l).mem_iff]
theorem SS_ext : ∀ {l m : List FT}, SS l → SS m → (∀ a, a ∈ l ↔ a ∈ m) → l = m
  | [], [], _, _, _ => rfl
  | [], y :: m, _, _, h => by have := (h y).2 (List.mem_cons_self ..); cases this
  | x :: l, [], _, _, h => by have := (h x).1 (List.mem_cons_self ..); cases this
  | x :: l, y :: m, hl, hm, h => by
    have hl' := List.pairwise_cons.1 hl
    have hm' := List.pairwise_cons.1 hm
    have e : x = y := by
      rcases List.mem_cons.1 ((h x).1 (List.mem_cons_self ..)) with e | hx
      · exact e
      · rcases List.mem_cons.1 ((h y).2 (List.mem_cons_self ..)) with e | hy
        · exact e.symm
        · have := flt_asym (hm'.1 x hx); rw [hl'.1 y hy] at this; cases this
    subst e
    have : l = m := SS_ext hl'.2 hm'.2 fun a => by
      constructor
      · intro ha
        rcases List.mem_cons.1 ((h a).1 (List.mem_cons_of_mem _ ha)) with e | k
        · subst e; have := hl'.1 a ha; rw [flt_irr] at this; cases this
        · exact k
      · intro ha
        rcases List.mem_cons.1 ((h a).2 (List.mem_cons_of_mem _ ha)) with e | k
        · subst e; have := hm'.1 a ha; rw [flt_irr] at this; cases this
        · exact k
    rw [this]
def fins (x : FT) : List FT → List FT
  | [] => [x]
  | y :: r => if flt y x then y :: fins x r else if y = x then y :: r else x :: y :: r
def rsort (l : List FT) : List FT := l.foldl (fun out x => fins x out) []
theorem fins_mem {a x : FT} : ∀ (l : List FT), a ∈ fins x l ↔ a = x ∨ a ∈ l
  | [] => by simp [fins]
  | y :: r => by
    unfold fins
    split
    · simp only [List.mem_cons, fins_mem r]
      constructor
      · rintro (h | h | h)
        · exact .inr (.inl h)
        · exact .inl h
        · exact .inr (.inr h)
      · rintro (h | h | h)
        · exact .inr (.inl h)
        · exact .inl h
        · exact .inr (.inr h)
    · split
      · rename_i e; subst e; simp
      · simp
theorem fins_SS {x : FT} : ∀ {l : List FT}, SS l → SS (fins x l)
  | [], _ => by simp [fins]
  | y :: r, h => by
    have h' := List.pairwise_cons.1 h
    unfold fins
    split
    · rename_i hy
      refine List.pairwise_cons.2 ⟨fun a ha => ?_, fins_SS h'.2⟩
      rcases (fins_mem r).1 ha with rfl | hr
      · exact hy
      · exact h'.1 a hr
    · split
      · exact h
      · rename_i h1 h2
        have hxy : flt x y = true := by
          cases k : flt x y with
          | true => rfl
          | false => exact absurd (flt_tri (by simpa using h1) k) h2
        refine List.pairwise_cons.2 ⟨fun a ha => ?_, h⟩
        rcases List.mem_cons.1 ha with rfl | hr
        · exact hxy
        · exact flt_trans hxy (h'.1 a hr)
theorem foldl_fins (l : List FT) : ∀ {o : List FT}, SS o → SS (l.foldl (fun out x => fins x out) o) ∧ ∀ a, a ∈ l.foldl (fun out x => fins x out) o ↔ a ∈ o ∨ a ∈ l := by
  induction l with
  | nil => intro o h; exact ⟨h, fun a => by simp⟩
  | cons x l ih =>
    intro o h
    obtain ⟨h1, h2⟩ := ih (fins_SS (x := x) h)
    refine ⟨h1, fun a => ?_⟩
    rw [List.foldl_cons, h2 a, fins_mem]
    simp only [List.mem_cons]
    constructor
    · rintro ((h | h) | h)
      · exact .inr (.inl h)
      · exact .inl h
      · exact .inr (.inr h)
    · rintro (h | h | h)
      · exact .inl (.inr h)
      · exact .inl (.inl h)
      · exact .inr h
theorem rsort_SS (l : List FT) : SS (rsort l) := (foldl_fins l (by simp)).1
theorem rsort_mem {a : FT} (l : List FT) : a ∈ rsort l ↔ a ∈ l := by rw [rsort, (foldl_fins l (by simp)).2 a]; simp
theorem fs_rsort (l : List FT) : fs l = rsort l := SS_ext (fs_SS l) (rsort_SS l) fun a => by rw [fs_mem, rsort_mem]
def fmg : List FT → List FT → List FT
  | [], b => b
  | x :: a, [] => x :: a
  | x :: a, y :: b => if flt x y then x :: fmg a (y :: b) else if flt y x then y :: fmg (x :: a) b else x :: fmg a b
termination_by a b => a.length + b.length
theorem fmg_mem {c : FT} (a b : List FT) : c ∈ fmg a b ↔ c ∈ a ∨ c ∈ b := by
  induction a, b using fmg.induct with
  | case1 b => simp [fmg]
  | case2 x a => simp [fmg]
  | case3 x a y b h ih => rw [fmg, if_pos h]; simp only [List.mem_cons, ih]; simp only [or_assoc]
  | case4 x a y b h1 h2 ih => rw [fmg, if_neg h1, if_pos h2]; simp only [List.mem_cons, ih, or_assoc]; constructor <;> (rintro (h | h | h | h) <;> simp [h])
  | case5 x a y b h1 h2 ih =>
    have e := flt_tri (by simpa using h1) (by simpa using h2)
    subst e
    rw [fmg, if_neg h1, if_neg h2]; simp only [List.mem_cons, ih, or_assoc]; by_cases hc : c = x <;> simp [hc]
theorem fmg_SS {a b : List FT} (ha : SS a) (hb : SS b) : SS (fmg a b) := by
  induction a, b using fmg.induct with
  | case1 b => simpa [fmg] using hb
  | case2 x a => simpa [fmg] using ha
  | case3 x a y b h ih =>
    rw [fmg, if_pos h]
    have ha' := List.pairwise_cons.1 ha
    refine List.pairwise_cons.2 ⟨fun c hc => ?_, ih ha'.2 hb⟩
    rcases (fmg_mem _ _).1 hc with hc | hc
    · exact ha'.1 c hc
    · rcases List.mem_cons.1 hc with rfl | hc
      · exact h
      · exact flt_trans h ((List.pairwise_cons.1 hb).1 c hc)
  | case4 x a y b h1 h2 ih =>
    rw [fmg, if_neg h1, if_pos h2]
    have hb' := List.pairwise_cons.1 hb
    refine List.pairwise_cons.2 ⟨fun c hc => ?_, ih ha hb'.2⟩
    rcases (fmg_mem _ _).1 hc with hc | hc
    · rcases List.mem_cons.1 hc with rfl | hc
      · exact h2
      · exact flt_trans h2 ((List.pairwise_cons.1 ha).1 c hc)
    · exact hb'.1 c hc
  | case5 x a y b h1 h2 ih =>
    have e := flt_tri (by simpa using h1) (by simpa using h2)
    subst e
    rw [fmg, if_neg h1, if_neg h2]
    have ha' := List.pairwise_cons.1 ha
    have hb' := List.pairwise_cons.1 hb
    refine List.pairwise_cons.2 ⟨fun c hc => ?_, ih ha'.2 hb'.2⟩
    rcases (fmg_mem _ _).1 hc with hc | hc
    · exact ha'.1 c hc
    · exact hb'.1 c hc
theorem fmg_rsort (a b : List FT) : fmg (rsort a) (rsort b) = rsort (a ++ b) :=
  SS_ext (fmg_SS (rsort_SS a) (rsort_SS b)) (rsort_SS _) fun c => by rw [fmg_mem, rsort_mem, rsort_mem, rsort_mem]; simp
end Lg
namespace Lg
open Go
end Lg
namespace Lg
open Go
theorem pcs_split (c : UInt8) : ∀ l : BL, ∃ ps p, pcs c l = ps ++ [p]
  | [] => ⟨[], [], rfl⟩
  | b :: l => by
    obtain ⟨ps, p, h⟩ := pcs_split c l
    unfold pcs
    split
    · exact ⟨[] :: ps, p, by rw [h]; rfl⟩
    · rw [h]
      cases ps with
      | nil => exact ⟨[], b :: p, rfl⟩
      | cons q r => exact ⟨(b :: q) :: r, p, rfl⟩
def nms (u : BL) : List BL := (pcs 47 u).map pune
theorem nms_split (u : BL) : ∃ ps p, nms u = ps ++ [p] := by
  obtain ⟨ps, p, h⟩ := pcs_split 47 u
  exact ⟨ps.map pune, pune p, by simp [nms, h]⟩
structure PAt (s : BL) (i : Nat) (L : List BL) : Prop where
  le : i ≤ s.length
  z : i = 0 → L = []
  ok : okP ((s.take i).drop 1)
  nm : 1 ≤ i → L = nms ((s.take i).drop 1)
  bad : ∀ j, j < i → tbad s j = false
theorem PAt.zero (s : BL) : PAt s 0 [] := ⟨Nat.zero_le _, fun _ => rfl, okP_nil, fun h => absurd h (by omega), fun j h => absurd h (by omega)⟩
theorem PAt.done {s : BL} {L : List BL} (p : PAt s s.length L) (h0 : ¬ s = []) (h1 : s[0]? = some 47) : pE s = none ∧ pN s = L := by
  have hl : 1 ≤ s.length := List.length_pos_iff.2 h0
  have hE : pE s = none := pE_none h0 h1 p.bad
  refine ⟨hE, ?_⟩
  rw [p.nm hl]
  unfold pN; rw [if_neg h0, hE, List.take_length]; rfl
theorem PAt.last {s : BL} {i : Nat} {L : List BL} (p : PAt s i L) (hi : 1 ≤ i) : ∃ ps q, L = ps ++ [q] := by
  obtain ⟨ps, q, h⟩ := nms_split ((s.take i).drop 1)
  exact ⟨ps, q, (p.nm hi).trans h⟩
theorem PAt.len {s : BL} {i : Nat} {L : List BL} (p : PAt s i L) : L.length ≤ i + 1 := by
  by_cases h0 : i = 0
  · rw [p.z h0]; simp
  · rw [p.nm (by omega)]; unfold nms; rw [List.length_map]
    have := pcs_len 47 ((s.take i).drop 1)
    rw [List.length_drop, List.length_take] at this; omega
theorem PAt.el {s : BL} {i : Nat} {L : List BL} (p : PAt s i L) : ∀ x ∈ L, x.length ≤ i := by
  intro x hx
  by_cases h0 : i = 0
  · rw [p.z h0] at hx; cases hx
  · rw [p.nm (by omega)] at hx
    unfold nms at hx
    obtain ⟨y, hy, rfl⟩ := List.mem_map.1 hx
    have h1 := pcs_ok _ _ (Nat.le_refl _) p.ok y hy
    have := pune_len y h1.1
    have h2 := h1.2.2
    rw [List.length_drop, List.length_take] at h2; omega
end Lg
namespace Lg
open Go
structure JOp where
  op : Int
  pa : List BL
  fr : List BL
  v : JV
section
variable [GLay]
end
section
variable [GLay]
end
end Lg
namespace Lg
open Go
end Lg
namespace Lg
open Go
section
variable [GLay]
structure OB (o : JOp) : Prop where
  jb : jb o.v
  pa : o.pa.length ≤ 2000000
  fr : o.fr.length ≤ 2000000
end
end Lg
namespace Lg
open Go
end Lg
namespace Lg
open Go
end Lg
namespace Lg
open Go
end Lg
namespace Lg
open Go
structure JOk (n : JNum) (d : BL) : Prop where
  dig : n.digits = ba d
  ne : d ≠ []
  ad : aD d
  hd : d.head? ≠ some 48
  lst : d.getLast? ≠ some 48
  len : d.length ≤ 60
  lo : -1000 ≤ n.exp
  hi : n.exp ≤ 1000
def JMay (n : JNum) : Prop := n = {} ∨ ∃ d, JOk n d
theorem JOk.nil {n : JNum} {d : BL} (h : JOk n d) : ¬ n.digits = ⟨#[]⟩ := fun e => h.ne (ba_nil.1 (h.dig ▸ e))
theorem JOk.size {n : JNum} {d : BL} (h : JOk n d) : n.digits.size = d.length := by rw [h.dig, ba_size]
theorem JMay.bnd {n : JNum} (h : JMay n) : n.digits.size ≤ 1000000 ∧ -1000000 ≤ n.exp ∧ n.exp ≤ 1000000 := by
  rcases h with rfl | ⟨d, h⟩
  · exact ⟨by decide, by decide, by decide⟩
  · have := h.size; have := h.len; have := h.lo; have := h.hi
    omega
end Lg
namespace Lg
open Go
end Lg
namespace Lg
open Go
end Lg
namespace Lg
open Go
variable {op : Int} {x v : JV} {nm : BL} {r : List BL}
variable {last : Bool} {k : Nat}
section
variable {y a : JV} {l : List JV} {i : Nat}
end
end Lg
namespace Lg
end Lg
namespace Lg
open Go
abbrev BJ := ByteArray × JV
variable {last : Bool} {op : Int} {key : ByteArray} {x : JV} {f : JV → JV} {m : List BJ} {i : Nat} {put : Bool} {q : BJ}
end Lg
namespace Lg
end Lg
namespace Lg
open Go
section
variable [GLay]
end
end Lg
namespace Lg
open Go
end Lg
namespace Lg
open Go Go.RowKit
variable [GLay]
section
variable {P : Program} {σ : List AO} {e : Env} {o : Oper}
end
end Lg
namespace Lg
open Go Go.RowKit
variable [GLay]
end Lg
namespace Lg
open Go
variable {sz : Nat} {rows : List (List AV)} {row : List AV} {i : Nat}
theorem rows_split (i : Nat) : rows.flatten = (rows.take i).flatten ++ (rows.drop i).flatten := by
  rw [← List.flatten_append, List.take_append_drop]
theorem tk_len [GLay] (hel : ∀ r ∈ rows, r.length = sz) (hi : i ≤ rows.length) : (rows.take i).flatten.length = i * sz := by
  rw [flatten_len (fun r hr => hel r (List.mem_of_mem_take hr)), List.length_take, Nat.min_eq_left hi]
end Lg
namespace Lg
open Go
section
variable [GLay] {σ : List AO} {p : Nat} {X y z : AO}
end
variable {sz : Nat} {rows : List (List AV)} {row : List AV} {i : Nat}
end Lg
namespace Lg
open Go
theorem AWp_freezeC [GLay] {P : Program} {N : Nat} {σ : List AO} {e : Env} {c : Code} {Q : QA} (t p gg sz n : Nat) (es : List (List AV)) {cs : List AV} (hl : lookO e.l t = some (.arr p gg sz 0 n)) (hp : σ[p]? = some (.arr sz gg cs)) (hes : es.flatten = cs.take (n * sz)) (hel : ∀ r ∈ es, r.length = sz) (hn : es.length = n) (hsz : sz ≠ 0) (hfit : n * sz ≤ cs.length)
    (h : AWp P N c (e.put (some t) (.sl false sz es)) (σ.set p .dead) Q) (ht : t < N) : AWp P N c e σ Q :=
  AWp_freezeArr t p gg sz 0 n hl hp es (by rw [Nat.zero_mul, List.drop_zero]; exact hes) hel hn hsz (by rw [Nat.zero_add]; exact hfit) h ht
end Lg
namespace Lg
open Go
end Lg
namespace Lg
end Lg
namespace Lg
open Go
end Lg
namespace Lg
open Go
end Lg
namespace Lg
open Go
def msorted (m : List BJ) : Prop := m.Pairwise fun p q => blt p.1 q.1 = true
theorem blt_irr [GLay] (a : ByteArray) : blt a a = false := by
  cases h : blt a a with
  | false => rfl
  | true => have := blt_le (a := a) (b := a) (by simp [h]); rw [h] at this; cases this
end Lg
namespace Lg
open Go
end Lg
namespace Lg
open Go
end Lg
namespace Lg
open Go
end Lg
namespace Lg
open Go
end Lg
namespace Lg
open Go
variable {g : JV → JV × Bool} {nm : BL} {r : List BL} {v : JV}
end Lg
namespace Lg
open Go
inductive jst : JV → Prop where
  | mk (k : Int) (b : Bool) (n : JNum) (s : ByteArray) (l : List JV) (m : List BJ) (h4 : ¬ k = 4 → l = []) (h5 : ¬ k = 5 → m = []) (hs : msorted m) (hl : ∀ x ∈ l, jst x) (hm : ∀ q ∈ m, jst q.2) : jst (.mk k b n s l m)
end Lg
namespace Lg
open Go
section
variable {last : Bool} {op : Int} {k : Nat} {x y : JV} {l : List JV}
end
section
variable [GLay] {last : Bool} {op : Int} {key : ByteArray} {x : JV} {f : JV → JV}
theorem blt_ne {a b : ByteArray} (h : blt a b = true) : ¬ a = b := fun e => by subst e; rw [blt_irr] at h; cases h
theorem blt_asym {a b : ByteArray} (h : blt a b = true) : blt b a = false := blt_le (by rw [h]; rfl)
theorem blt_tri {a b : ByteArray} (h1 : ¬ blt a b = true) (h2 : ¬ a = b) : blt b a = true := blt_gt (by simp [h1, h2])
end
end Lg
namespace Lg
open Go
variable [GLay]
variable {op : Int} {x : JV} {g : JV → JV × Bool} {r0 : List BL}
end Lg
namespace Lg
open Go
variable [GLay]
end Lg
namespace Lg
end Lg
namespace Lg
open Go
end Lg
namespace Lg
open Go
section
variable [GLay] {key : ByteArray} {x y : JV}
end
section
variable [GLay] {nm : BL} {r : List BL} {v : JV}
end
section
variable [GLay] {g : JV → JV × Bool}
end
section
variable [GLay] {nm : BL} {x u : JV}
end
section
variable [GLay] {x z v : JV} {l0 : List BL} {nm : BL}
end
end Lg
namespace Lg
open Go
end Lg
namespace Lg
open Go
section
variable [GLay] {g : JV → JV × Bool} {C : Int}
end
structure OPB (o : JOp) : Prop where
  lo : 1 ≤ o.op
  hi : o.op ≤ 6
  jb : Lg.jb o.v
  st : jst o.v
  sz : jsize o.v ≤ 3000
  pa : o.pa.length ≤ 2000000
  fr : o.fr.length ≤ 2000000
  pan : ∀ n ∈ o.pa, n.length ≤ 1000000
  frn : ∀ n ∈ o.fr, n.length ≤ 1000000
section
variable [GLay] {v : JV} {o : JOp}
end
end Lg
namespace Lg
open Go
structure JKid where
  key : ByteArray
  node : Int
structure JKey where
  name : ByteArray
  v : JV
  kids : List JKid
structure JNode where
  path : ByteArray
  all : Bool
  pass : Bool
  keys : List JKey
section
variable [GLay]
theorem fl_lt {n : Nat} {es : List (List AV)} (h : AV.ltLL n es) : AV.ltL n es.flatten := by
  rw [AV.ltL_iff]; intro a ha
  obtain ⟨e, he, h1⟩ := List.mem_flatten.1 ha
  exact (AV.ltL_iff _ _).1 ((AV.ltLL_iff _ _).1 h e he) a h1
end
structure MS where
  l : List JNode
  bad : Int
  path : ByteArray
def pth (n : ByteArray) : ByteArray := ba (shw [n.data.toList])
def m1 (m : MS) (path : ByteArray) (v : JV) : MS := ⟨m.l ++ [⟨path, decide (v.kind = 1), v.b, []⟩], m.bad, m.path⟩
section
variable [GLay]
end
end Lg
namespace Lg
open Go
section
variable [GLay]
end
end Lg
namespace Lg
open Go
end Lg
namespace Lg
open Go
section
variable [GLay]
def KR (nn : Nat) (n : JNode) : Prop := ∀ k ∈ n.keys, ∀ d ∈ k.kids, 0 ≤ d.node ∧ d.node < nn
def YZ (l : List JKey) : Prop := ∀ k ∈ l, k.name.size ≤ 1000000 ∧ jb k.v ∧ k.kids.length ≤ 1000000
def KZ (n : JNode) : Prop := n.keys.length ≤ 1000000 ∧ YZ n.keys
structure Adds (m m' : MS) (B : Nat) (ext : List JNode) (nss : List (List BL)) : Prop where
  l : m'.l = m.l ++ ext
  kr : ∀ n ∈ ext, KR m'.l.length n
  pa : ext.map JNode.path = nss.map fun q => ba (shw q)
  sz : ∀ n ∈ ext, n.path.size ≤ B
  kz : ∀ n ∈ ext, KZ n
  nd : nss.Nodup
structure NOK (l : List JNode) : Prop where
  kr : ∀ n ∈ l, KR l.length n
  nd : (l.map JNode.path).Nodup
  le : l.length ≤ 200
  sz : ∀ n ∈ l, n.path.size ≤ 100000000000
  kz : ∀ n ∈ l, KZ n
end
end Lg
namespace Lg
open Go
def cREF : ByteArray := ⟨#[36, 114, 101, 102]⟩
def hsh : ByteArray := ⟨#[35]⟩
def cALL : ByteArray := ⟨#[97, 108, 108, 79, 102]⟩
def cANY : ByteArray := ⟨#[97, 110, 121, 79, 102]⟩
def cONE : ByteArray := ⟨#[111, 110, 101, 79, 102]⟩
def cNOT : ByteArray := ⟨#[110, 111, 116]⟩
def plc (n : ByteArray) : Bool := decide (n = cREF) || decide (n = cALL) || decide (n = cANY) || decide (n = cONE) || decide (n = cNOT)
def outD (l : List JKid) : List Nat := l.map fun d => d.node.toNat
def outK (k : JKey) : List Nat := if plc k.name = true then outD k.kids else []
def outs (l : List JKey) : List Nat := l.flatMap outK
inductive Rch (o : List JNode) : Nat → Nat → Prop
  | one {a b : Nat} {n : JNode} (hn : o[a]? = some n) (hb : b ∈ outs n.keys) : Rch o a b
  | more {a b c : Nat} {n : JNode} (h : Rch o a b) (hn : o[b]? = some n) (hc : c ∈ outs n.keys) : Rch o a c
theorem Rch.closed {o : List JNode} {i u : Nat} (S : Nat → Prop) (h1 : ∀ n, o[i]? = some n → ∀ b ∈ outs n.keys, S b) (h2 : ∀ a n, S a → o[a]? = some n → ∀ b ∈ outs n.keys, S b) (h : Rch o i u) : S u := by
  induction h with
  | one hn hb => exact h1 _ hn _ hb
  | more _ hn hc ih => exact h2 _ _ ih hn _ hc
def cntF (S : List Bool) : Nat := S.count false
structure Dok (o : List JNode) (i : Nat) (src : Nat → Prop) (S : List Bool) (q : Bool × List Bool) : Prop where
  len : q.2.length = S.length
  mono : ∀ u : Nat, S[u]? = some true → q.2[u]? = some true
  cnt : cntF q.2 ≤ cntF S
  yes : q.1 = true → ∃ u : Nat, src u ∧ (u = i ∨ Rch o u i)
  no : q.1 = false → (∀ u : Nat, src u → ¬ u = i ∧ q.2[u]? = some true) ∧ ∀ u : Nat, q.2[u]? = some true → ¬ S[u]? = some true → ∀ n, o[u]? = some n → ∀ v ∈ outs n.keys, ¬ v = i ∧ q.2[v]? = some true
def OR (o : List JNode) : Prop := ∀ n ∈ o, ∀ d ∈ outs n.keys, d < o.length
end Lg
namespace Lg
open Go
structure BQ (o : List JNode) (i : Nat) (c : Option Nat) (D : List Nat) (T : List Nat) (S : List Bool) : Prop where
  len : S.length = o.length
  tin : ∀ t ∈ T, t < o.length ∧ (t = i ∨ Rch o i t)
  cin : ∀ t, c = some t → t = i ∨ Rch o i t
  snd : ∀ u : Nat, S[u]? = some true → Rch o i u
  cls : ∀ u : Nat, (u = i ∨ S[u]? = some true) → u ∉ T → ¬ c = some u → ∀ n, o[u]? = some n → ∀ v ∈ outs n.keys, S[v]? = some true
  dne : ∀ v ∈ D, S[v]? = some true
section
variable [GLay]
end
end Lg
namespace Lg
open Go
section
variable [GLay]
structure LOK (o : List JNode) : Prop where
  kr : ∀ n ∈ o, KR o.length n
  kz : ∀ n ∈ o, KZ n
  le : o.length ≤ 200
  sz : ∀ n ∈ o, n.path.size ≤ 100000000000
theorem LOK.out {o : List JNode} (h : LOK o) : OR o := by
  intro n hn d hd
  obtain ⟨k, hk, hd⟩ := List.mem_flatMap.1 hd
  unfold outK at hd
  split at hd
  · obtain ⟨x, hx, rfl⟩ := List.mem_map.1 hd
    have := h.kr n hn k hk x hx
    omega
  · cases hd
end
end Lg
namespace Lg
open Go Go.RowKit
variable [GLay]
section
variable {P : Program} {σ : List AO} {e : Env} {o : Oper}
end
end Lg
namespace Lg
open Go Go.RowKit
variable [GLay]
section
variable {P : Program} {σ σ' : List AO} {e : Env} {o : Oper}
end
end Lg
namespace Lg
open Go
section
variable [GLay]
end
end Lg
namespace Lg
open Go
section
variable [GLay]
end
end Lg
namespace Lg
open Go
section
variable [GLay]
structure LNK (l o : List JNode) : Prop where
  ok : LOK o
  len : o.length = l.length
  rel : ∀ (j : Nat) n, l[j]? = some n → ∃ ks, o[j]? = some ⟨n.path, n.all, n.pass, ks⟩ ∧ ks.length = n.keys.length ∧ ∀ (k : Nat) q, n.keys[k]? = some q → ∃ q2, ks[k]? = some q2 ∧ q2.name = q.name ∧ q2.kids.length = if q.name = cREF then 1 else q.kids.length
  cyc : ∀ i, i < o.length → pb (Rch o i i) = false
end
end Lg
namespace Lg
open Go Go.RowKit
theorem putAt_ok : ∀ {ns cs : List AV}, ns.length ≤ cs.length → putAt cs ns = some (ns ++ cs.drop ns.length)
  | [], cs, _ => by cases cs <;> simp [putAt]
  | n :: ns, [], h => by simp at h
  | n :: ns, c :: cs, h => by
    have := putAt_ok (ns := ns) (cs := cs) (by simpa using h)
    simp [putAt, this]
theorem spl_ok : ∀ {off : Nat} {cs ns : List AV}, off + ns.length ≤ cs.length → spl off cs ns = some (cs.take off ++ ns ++ cs.drop (off + ns.length))
  | 0, cs, ns, h => by simp only [spl, List.take_zero, List.nil_append, Nat.zero_add]; exact putAt_ok (by omega)
  | k + 1, [], ns, h => by simp at h
  | k + 1, c :: cs, ns, h => by
    have := spl_ok (off := k) (cs := cs) (ns := ns) (by simp only [List.length_cons] at h; omega)
    rw [spl, this, show k + 1 + ns.length = (k + ns.length) + 1 by omega]; rfl
variable [GLay]
theorem rows_set {sz : Nat} {rows : List (List AV)} {i : Nat} {r : List AV} (hel : ∀ r ∈ rows, r.length = sz) (hi : i < rows.length) (hr : r.length = sz) :
    rows.flatten.take (i * sz) ++ r ++ rows.flatten.drop (i * sz + r.length) = (rows.set i r).flatten := by
  have e : rows.set i r = rows.take i ++ r :: rows.drop (i + 1) := List.set_eq_take_append_cons_drop ▸ by simp [hi]
  rw [e]
  conv => lhs; arg 1; arg 1; rw [rows_split i, List.take_left' (tk_len hel (by omega))]
  conv => lhs; arg 2; rw [rows_split (i + 1), hr, List.drop_left' (by rw [tk_len hel (by omega), Nat.add_mul, Nat.one_mul])]
  simp
end Lg
namespace Lg
open Go Go.RowKit
variable [GLay]
section
variable {P : Program} {N : Nat} {σ l : List AO} {e : Env} {o : Oper}
theorem run_makeSlice0 {T E : TypeId} {i : TypeInfo} {n : Nat} {z : Value} {w : World} (hu : P.underlying T = some (.slice E)) (hi : P.info? E = some i) (hz : i.zero = some z) (hn : n ≤ 1000000000) (hby : i.bytes ≤ 100) :
    ∃ vs : List Value, vs.length = n * i.size ∧ (Instr.makeSlice T (.int .i64 0) (.int .i64 (n : Int))).run P w = .ok (.slice (some ⟨w.heap.size, 0, none⟩) 0 n) (w.alloc (.cells vs.toArray E (0, 0))) := by
  have hw : (IntKind.i64.wrap (n : Int)) = (n : Int) := wrap64_in (by omega) (by omega)
  have hw0 : (IntKind.i64.wrap (0 : Int)) = 0 := wrap64_in (by omega) (by omega)
  have hmul : i.bytes * n ≤ 100 * n := Nat.mul_le_mul_right _ hby
  have h3 : ¬ ((i.bytes : Int) * (n : Int) > 2 ^ 48) := by
    have : ((i.bytes * n : Nat) : Int) ≤ 100 * (n : Int) := by exact_mod_cast hmul
    rw [Int.natCast_mul] at this
    omega
  have g1 : ¬ ((n : Int) < 0) := by omega
  by_cases h0 : n * i.size = 0
  · refine ⟨[], by simp [h0], ?_⟩
    simp [Instr.makeSlice, run_underlying hu, asInt, asIntOf, typeInfo, hi, hw, hw0, Go.sizeOf, zeroValue, hz, askRoom, h0, g1, newRow, newObj, Sem.run]
    rw [if_neg (by omega)]
    simp
    congr 2
    apply Array.ext <;> simp
  · refine ⟨(List.range (n * i.size)).map (fun j => z.cells[j % z.cells.size]!), by simp, ?_⟩
    simp [Instr.makeSlice, run_underlying hu, asInt, asIntOf, typeInfo, hi, hw, hw0, Go.sizeOf, zeroValue, hz, askRoom, h0, g1, newRow, newObj, Sem.run]
    rw [if_neg (by omega)]
    congr 3
    apply Array.ext <;> simp
theorem op_makeSlice0 {T E : TypeId} {x y : Operand} {i : TypeInfo} {n sz : Nat} {z : Value} (ho : o.op = .makeSlice T x y) (hu : P.underlying T = some (.slice E)) (hi : P.info? E = some i) (hz : i.zero = some z) (hsz : i.size = sz)
    (hx : opO e x = some (.int .i64 0)) (hy : opO e y = some (.int .i64 (n : Int))) (hn : n ≤ 1000000000) (hby : i.bytes ≤ 100) : AOp P σ e o (.arr σ.length 0 sz 0 0) (σ ++ [.arr sz 0 []]) := by
  intro s a hs g hv K Q hk _
  subst hs
  have e1 : a.eval x = .int .i64 0 := by
    have h := hv x (by simp [ho, Op.operands]); rw [opO_eq hx] at h; exact h.inv_int
  have e2 : a.eval y = .int .i64 (n : Int) := by
    have h := hv y (by simp [ho, Op.operands]); rw [opO_eq hy] at h; exact h.inv_int
  obtain ⟨vs, hvl, hrun⟩ := run_makeSlice0 (T := T) (n := n) (w := s.w) hu hi hz hn hby
  obtain ⟨s', f1, f2, g', x', hμ⟩ := g.newArr (sz := sz) (cs := []) (vs := vs) PW.nil (Nat.zero_le _) E (Below.refl _ _) rfl
  refine wp_value (w' := s'.w) ?_ (hk _ (.slice (some ⟨s.w.heap.size, 0, none⟩) 0 n) s' ⟨rfl, f1⟩ g' x' ?_)
  · rw [f2]
    simp only [execOp, ho, e1, e2]
    rw [Sem.run_bind, hrun]
    rfl
  · refine V.newArr (cs := []) (by rw [f1]; simp) hμ (Nat.zero_le _) (by rw [hvl, hsz]; exact Nat.le_refl _)
theorem op_storeElKH {T : TypeId} {x y : Operand} {p g sz off n : Nat} {cs vs : List AV} (ho : o.op = .store T x y) (hz : ∀ w, (Go.sizeOf T).run P w = Result.ok n w) (hy : opO e y = some (.agg vs)) (hx : opO e x = some (.pel p g off))
    (hl : σ[p]? = some (.arr sz g cs)) (hn : vs.length = n) (h1 : ones vs = true) (hn0 : n ≠ 0) (hfit : off + vs.length ≤ cs.length) : AOp P σ e o .any (σ.set p (.arr sz g (cs.take off ++ vs ++ cs.drop (off + vs.length)))) := by
  have e1 := opO_eq hy
  exact op_store (P := P) (σ := σ) (e := e) (p := p) (O := .arr sz g (cs.take off ++ vs ++ cs.drop (off + vs.length))) ho hz (by rw [e1]; exact hn) (by rw [e1]; exact h1) (by
    rw [e1, opO_eq hx]
    show stv σ vs (.pel p g off) = _
    simp only [stv, hl, if_true, spl_ok hfit, Option.map_some]) hn0
end
end Lg
namespace Lg
open Go Go.Proofs
variable [GLay]
theorem frows_len (l : List FT) : (frows l).length = l.length := by simp [frows]
theorem frows_get {l : List FT} {i : Nat} {x : FT} (h : l[i]? = some x) : (frows l)[i]? = some (frow x) := by simp [frows, h]
theorem frows_el (l : List FT) : ∀ r ∈ frows l, r.length = 3 := by intro r hr; simp only [frows, List.mem_map] at hr; obtain ⟨x, _, rfl⟩ := hr; rfl
@[simp] theorem frow_lt (n : Nat) (x : FT) : AV.ltL n (frow x) := ⟨trivial, trivial, trivial, trivial⟩
@[simp] theorem frows_lt (n : Nat) : ∀ (l : List FT), AV.ltLL n (frows l)
  | [] => trivial
  | x :: l => ⟨frow_lt n x, frows_lt n l⟩
@[simp] theorem fflat_lt (n : Nat) (l : List FT) : AV.ltL n (frows l).flatten := fl_lt (frows_lt n l)
theorem ones_frows : ∀ (l : List FT), ones (frows l).flatten = true
  | [] => rfl
  | x :: l => by
    show ones (frow x ++ (frows l).flatten) = true
    show (true && (true && (true && ones (frows l).flatten))) = true
    rw [ones_frows l]; rfl
theorem frows_snoc (l : List FT) (x : FT) : (frows (l ++ [x])).flatten = (frows l).flatten ++ frow x := by simp [frows]
theorem frows_app (l m : List FT) : (frows (l ++ m)).flatten = (frows l).flatten ++ (frows m).flatten := by simp [frows]
theorem frows_cons (x : FT) (l : List FT) : (frows (x :: l)).flatten = frow x ++ (frows l).flatten := by simp [frows]
theorem fT_eq {x y : FT} : x = y ↔ x.1 = y.1 ∧ x.2.1 = y.2.1 ∧ x.2.2 = y.2.2 := by
  obtain ⟨x1, x2, x3⟩ := x; obtain ⟨y1, y2, y3⟩ := y; simp
theorem feq_b (x y : FT) : (decide (x.1 = y.1) && (decide (x.2.1 = y.2.1) && (decide (x.2.2 = y.2.2) && true))) = decide (x = y) := by
  rw [Bool.eq_iff_iff]; simp [fT_eq]
theorem feq_n (x y : FT) : (!(decide (x.1 = y.1) && (decide (x.2.1 = y.2.1) && (decide (x.2.2 = y.2.2) && true)))) = decide (¬ x = y) := by
  rw [feq_b]; simp
theorem above_1 {x y : FT} (h : ¬ x.1 = y.1) : flt y x = !(blt x.1 y.1 || decide (x.1 = y.1)) := by
  rw [Bool.eq_iff_iff, flt_iff]
  simp only [h, decide_false, Bool.or_false, Bool.not_eq_true', fun e : y.1 = x.1 => h e.symm, false_and, or_false]
  have h' : ¬ y.1 = x.1 := fun e => h e.symm
  simp only [h', false_and, or_false]
  constructor
  · intro k; exact blt_asym k
  · intro k; exact blt_tri (by simp [k]) h
theorem above_2 {x y : FT} (h1 : x.1 = y.1) (h : ¬ x.2.1 = y.2.1) : flt y x = !(blt x.2.1 y.2.1 || decide (x.2.1 = y.2.1)) := by
  have h' : ¬ y.2.1 = x.2.1 := fun e => h e.symm
  rw [Bool.eq_iff_iff, flt_iff]
  simp only [h1, blt_irr, h, h', decide_false, Bool.or_false, Bool.not_eq_true', false_and, or_false, true_and, Bool.false_eq_true, false_or]
  constructor
  · intro k; exact blt_asym k
  · intro k; exact blt_tri (by simp [k]) h
theorem above_3 {x y : FT} (h1 : x.1 = y.1) (h2 : x.2.1 = y.2.1) : flt y x = !(blt x.2.2 y.2.2 || decide (x.2.2 = y.2.2)) := by
  rw [Bool.eq_iff_iff, flt_iff]
  simp only [h1, h2, blt_irr, true_and, Bool.false_eq_true, false_or, Bool.not_eq_true', Bool.or_eq_false_iff, decide_eq_false_iff_not]
  constructor
  · intro k; exact ⟨blt_asym k, fun e => blt_ne k e.symm⟩
  · intro k; exact blt_tri (by simp [k.1]) k.2
theorem fmg_lt {x y : FT} (a b : List FT) (h : flt x y = true) : fmg (x :: a) (y :: b) = x :: fmg a (y :: b) := by rw [fmg, if_pos h]
theorem fmg_gt {x y : FT} (a b : List FT) (h1 : ¬ flt x y = true) (h : flt y x = true) : fmg (x :: a) (y :: b) = y :: fmg (x :: a) b := by rw [fmg, if_neg h1, if_pos h]
theorem fmg_eq {x y : FT} (a b : List FT) (h1 : ¬ flt x y = true) (h : ¬ flt y x = true) : fmg (x :: a) (y :: b) = x :: fmg a b := by rw [fmg, if_neg h1, if_neg h]
theorem fmg_nilR (a : List FT) : fmg a [] = a := by cases a <;> simp [fmg]
theorem fcmp_neg {x y : FT} : fcmp x y < 0 ↔ flt x y = true := by unfold flt; simp
theorem fcmp_pos {x y : FT} : fcmp x y > 0 ↔ flt y x = true := by
  rw [← fcmp_neg, fcmp_swap x y]; omega
def und (nm : ByteArray) (x : FT) : FT := (pth nm ++ x.1, x.2.1, x.2.2)
theorem und_take {nm : ByteArray} {l : List FT} {i : Nat} {x : FT} (h : l[i]? = some x) : (l.take (i + 1)).map (und nm) = (l.take i).map (und nm) ++ [und nm x] := by
  rw [List.take_add_one, h]; simp
theorem fins_len (x : FT) : ∀ (l : List FT), (fins x l).length ≤ l.length + 1
  | [] => by simp [fins]
  | y :: r => by
    unfold fins
    split
    · have := fins_len x r; simp only [List.length_cons]; omega
    · split <;> simp only [List.length_cons] <;> omega
theorem rsort_take {l : List FT} {i : Nat} {x : FT} (h : l[i]? = some x) : rsort (l.take (i + 1)) = fins x (rsort (l.take i)) := by
  rw [List.take_add_one, h]; simp [rsort]
theorem rsort_len (l : List FT) : ∀ (i : Nat), (rsort (l.take i)).length ≤ i
  | 0 => by simp [rsort]
  | i + 1 => by
    by_cases h : i < l.length
    · rw [rsort_take (List.getElem?_eq_getElem h)]
      have := fins_len l[i] (rsort (l.take i)); have := rsort_len l i; omega
    · have e : l.take (i + 1) = l.take i := by rw [List.take_of_length_le (by omega), List.take_of_length_le (by omega)]
      rw [e]; have := rsort_len l i; omega
theorem fins_skip {x : FT} : ∀ {o : List FT} {k : Nat}, k ≤ o.length → (∀ (j : Nat) (y : FT), j < k → o[j]? = some y → flt y x = true) → fins x o = o.take k ++ fins x (o.drop k)
  | o, 0, _, _ => by simp
  | [], k + 1, h, _ => by simp at h
  | y :: r, k + 1, h, hj => by
    have h0 := hj 0 y (by omega) rfl
    rw [fins, if_pos h0, fins_skip (o := r) (k := k) (by simpa using h) (fun j z hjk hz => hj (j + 1) z (by omega) (by simpa using hz))]
    simp
theorem fins_end {x : FT} {o : List FT} (hj : ∀ (j : Nat) (y : FT), j < o.length → o[j]? = some y → flt y x = true) : fins x o = o ++ [x] := by
  rw [fins_skip (Nat.le_refl _) hj]; simp [fins]
theorem fins_at {x y : FT} {o : List FT} {k : Nat} (hy : o[k]? = some y) (hj : ∀ (j : Nat) (y : FT), j < k → o[j]? = some y → flt y x = true) (hn : ¬ flt y x = true) : fins x o = if y = x then o else o.take k ++ x :: o.drop k := by
  have hk := (List.getElem?_eq_some_iff.1 hy).1
  have hd : o.drop k = y :: o.drop (k + 1) := by rw [List.drop_eq_getElem_cons hk]; congr 1; exact (List.getElem?_eq_some_iff.1 hy).2
  rw [fins_skip (by omega) hj, hd, fins, if_neg hn]
  split
  · rw [← hd, List.take_append_drop]
  · rfl
theorem frows_drop (l : List FT) (k : Nat) : (frows l).drop k = frows (l.drop k) := by simp [frows, List.map_drop]
theorem frows_take (l : List FT) (k : Nat) : (frows l).take k = frows (l.take k) := by simp [frows, List.map_take]
end Lg
namespace Lg
open Go Go.Lib Go.ChangeShapes Go.WideShapes Go.Deep
theorem faults_V {H : Type} {enc : TypeId × Value → H} {P : Program} {W : World} {t e : TypeId} {fuel : Nat} {a0 : Option Addr} {len cap : Nat} {x : DataW H × List MemPlace} {f0 f1 f2 : Field} (ht : P.underlying t = some (.slice e)) (he : P.underlying e = some (.struct #[f0, f1, f2]))
    (o0 : f0.offset = 0) (o1 : f1.offset = 1) (o2 : f2.offset = 2) (u0 : P.underlying f0.type = some .string) (u1 : P.underlying f1.type = some .string) (u2 : P.underlying f2.type = some .string) (hc : P.cellsOf e = 3) (c0 : P.cellsOf f0.type = 1) (c1 : P.cellsOf f1.type = 1) (c2 : P.cellsOf f2.type = 1) (hby : 1 ≤ P.bytesOf e)
    (h : DataW.trod enc P W 0 (fun _ => true) true fuel t (Value.cells (.slice a0 len cap)).toList = some x) :
    ∃ l : List FT, (∀ w, (∀ k ∈ x.1.weights P t, k ≤ w) → l.length ≤ w ∧ ∀ y ∈ l, y.1.size ≤ w) ∧ ∀ [GLay] (s : CS), s.w = W → (∀ b, b < W.heap.size → s.ok b) → V s (.sl false 3 (frows l)) (.slice a0 len cap) := by
  rcases DataW.trod_slice ht h with ⟨hcs, hx⟩ | ⟨a, len', cap', elems, rest, n, _, hcs, hx, hb, hl, hm, hlen, hel, hsp, _⟩
  · simp [Value.cells] at hcs
    obtain ⟨rfl, rfl, rfl⟩ := hcs
    exact ⟨[], fun w _ => ⟨Nat.zero_le _, fun y hy => by cases hy⟩, fun s _ _ => .sl0 false 3 none⟩
  · simp [Value.cells] at hcs
    obtain ⟨rfl, rfl, rfl⟩ := hcs
    have each : ∀ i, i < len → ∃ y : FT, elems[i]? = some (.agg [.lit (.string y.1.data.toList), .lit (.string y.2.1.data.toList), .lit (.string y.2.2.data.toList)], []) ∧
        W.cell? (a.add (i * 3)) = some (.string y.1) ∧ W.cell? (a.add (i * 3 + 1)) = some (.string y.2.1) ∧ W.cell? (a.add (i * 3 + 2)) = some (.string y.2.2) := by
      intro i hi
      have hb' := hel i hi
      obtain ⟨z, hz⟩ : ∃ z, elems[i]? = some z := ⟨_, List.getElem?_eq_getElem (by omega)⟩
      rw [hz, hc, Option.bind_eq_some_iff] at hb'
      obtain ⟨cs, hcs, hy⟩ := hb'
      obtain ⟨_, hcl, hcell⟩ := World.cells?_some hcs
      obtain ⟨y0, y1, y2, m, rfl, _, h0, h1, h2⟩ := trod_struct3 he hy
      rw [o0, c0] at h0
      rw [o1, c1] at h1
      rw [o2, c2] at h2
      obtain ⟨s0, e0, rfl, _⟩ := DataW.trod_string u0 h0
      obtain ⟨s1, e1, rfl, _⟩ := DataW.trod_string u1 h1
      obtain ⟨s2, e2, rfl, _⟩ := DataW.trod_string u2 h2
      have g : ∀ (j : Nat) (v : Value), (cs.drop j).take 1 = [v] → cs[j]? = some v := fun j v hj => by
        have := congrArg (fun l => l[0]?) hj
        simpa using this
      refine ⟨(s0, s1, s2), by rw [hz]; simp, ?_, ?_, ?_⟩
      · have := hcell 0 (by omega); rw [g 0 _ e0] at this; exact this
      · have := hcell 1 (by omega); rw [g 1 _ e1] at this; have e : (a.add (i * 3)).add 1 = a.add (i * 3 + 1) := (by unfold Addr.add; by_cases h9 : i * 3 = 0 <;> simp [h9, Nat.add_assoc]); rw [← e]; exact this
      · have := hcell 2 (by omega); rw [g 2 _ e2] at this; have e : (a.add (i * 3)).add 2 = a.add (i * 3 + 2) := (by unfold Addr.add; by_cases h9 : i * 3 = 0 <;> simp [h9, Nat.add_assoc]); rw [← e]; exact this
    have hofl : ∃ l : List FT, l.length = len ∧ ∀ i y, l[i]? = some y → elems[i]? = some (.agg [.lit (.string y.1.data.toList), .lit (.string y.2.1.data.toList), .lit (.string y.2.2.data.toList)], []) ∧
        W.cell? (a.add (i * 3)) = some (.string y.1) ∧ W.cell? (a.add (i * 3 + 1)) = some (.string y.2.1) ∧ W.cell? (a.add (i * 3 + 2)) = some (.string y.2.2) := by
      refine ⟨List.ofFn (fun i : Fin len => Classical.choose (each i.1 i.2)), by simp, fun i y hy => ?_⟩
      have hi : i < len := by have := (List.getElem?_eq_some_iff.1 hy).1; simpa using this
      have : y = Classical.choose (each i hi) := by
        rw [List.getElem?_ofFn] at hy
        simp [hi] at hy
        exact hy.symm
      rw [this]
      exact Classical.choose_spec (each i hi)
    obtain ⟨l, hll, hle⟩ := hofl
    refine ⟨l, fun w hw => ?_, fun s hs hok => ?_⟩
    · subst hx
      have hwt : ∀ k ∈ (elems.map (·.1)).length * 1 :: DataW.weightsAll P e (elems.map (·.1)), True := fun _ _ => trivial
      have hW : ∀ k ∈ ((elems.map (·.1)).length + (rest.map (·.1)).length) * P.bytesOf e :: (DataW.weightsAll P e (elems.map (·.1)) ++ DataW.weightsAll P e (rest.map (·.1))), k ≤ w := by
        simpa only [DataW.weights, ht] using hw
      refine ⟨?_, fun y hy => ?_⟩
      · have h1 := hW _ (List.mem_cons_self ..)
        simp only [List.length_map] at h1
        have h2 : (elems.length + rest.length) * 1 ≤ (elems.length + rest.length) * P.bytesOf e := Nat.mul_le_mul (Nat.le_refl _) hby
        omega
      · obtain ⟨i, hi⟩ := List.getElem?_of_mem hy
        have hei := (hle i y hi).1
        have hmem : ∀ (L : List (DataW H)) (d : DataW H), d ∈ L → ∀ k ∈ d.weights P e, k ∈ DataW.weightsAll P e L := by
          intro L
          induction L with
          | nil => intro d hd; cases hd
          | cons z L ih =>
            intro d hd k hk
            simp only [DataW.weightsAll, List.mem_append]
            rcases List.mem_cons.1 hd with rfl | hd
            · exact .inl hk
            · exact .inr (ih d hd k hk)
        have hd : (DataW.agg [.lit (.string y.1.data.toList), .lit (.string y.2.1.data.toList), .lit (.string y.2.2.data.toList)] : DataW H) ∈ elems.map (·.1) := List.mem_map.2 ⟨_, List.mem_of_getElem? hei, rfl⟩
        have := hW y.1.data.toList.length (List.mem_cons_of_mem _ (List.mem_append_left _ (hmem _ _ hd _ (by simp [DataW.weights, he, DataW.weightsEach]))))
        rwa [show y.1.data.toList.length = y.1.size from Array.length_toList ..] at this
    · subst hs
      by_cases hc0 : cap = 0
      · subst hc0
        obtain rfl : len = 0 := by omega
        obtain rfl : l = [] := List.eq_nil_of_length_eq_zero hll
        exact .sl0 false 3 (some a)
      · have hcell0 : ∃ v, s.w.cell? (a.add 0) = some v := by
          by_cases hlz : len = 0
          · obtain ⟨hrl, hr⟩ := hsp rfl
            have h0 := hr 0 (by omega)
            obtain ⟨z, hz⟩ : ∃ z, rest[0]? = some z := ⟨_, List.getElem?_eq_getElem (by omega)⟩
            rw [hz, hc, Option.bind_eq_some_iff] at h0
            obtain ⟨cs, hcs, _⟩ := h0
            obtain ⟨_, hcl, hcell⟩ := World.cells?_some hcs
            have := hcell 0 (by omega)
            subst hlz
            refine ⟨cs[0]'(by omega), ?_⟩
            rw [List.getElem?_eq_getElem (by omega)] at this
            exact this
          · obtain ⟨y, hy⟩ : ∃ y, l[0]? = some y := ⟨_, List.getElem?_eq_getElem (by omega)⟩
            exact ⟨_, (hle 0 y hy).2.1⟩
        obtain ⟨v0, hv0⟩ := hcell0
        obtain ⟨b, off, spot⟩ := a
        have hspot : spot = none := by simpa [Addr.add] using World.cell?_spot hv0
        subst hspot
        have hbW : b < s.w.heap.size := World.block_lt_of_cell? _ _ hv0
        have hv := V.sl (s := s) false 3 (frows l) b off cap (l.map fenc).flatten (.inr (hok b hbW)) (frows_el l) (by rw [fenc_flen, frows_flen]) (fun i v hi => by
          have hil : i < l.length * 3 := by have := (List.getElem?_eq_some_iff.1 hi).1; rwa [fenc_flen] at this
          rw [fenc_get l i hil] at hi
          obtain ⟨y, hy⟩ : ∃ y, l[i / 3]? = some y := ⟨_, List.getElem?_eq_getElem (by omega)⟩
          have hy' : l.toArray[i / 3]! = y := by
            obtain ⟨h1, h2⟩ := List.getElem?_eq_some_iff.1 hy
            rw [getElem!_pos _ _ (by simpa using h1)]; simpa using h2
          rw [hy'] at hi
          obtain ⟨_, k0, k1, k2⟩ := hle (i / 3) y hy
          have h3 : i % 3 = 0 ∨ i % 3 = 1 ∨ i % 3 = 2 := by omega
          rcases h3 with h3 | h3 | h3
          · rw [h3] at hi
            have e : i / 3 * 3 = i := by omega
            rw [e] at k0; cases hi; rw [add_none] at k0; exact k0
          · rw [h3] at hi
            have e : i / 3 * 3 + 1 = i := by omega
            rw [e] at k1; cases hi; rw [add_none] at k1; exact k1
          · rw [h3] at hi
            have e : i / 3 * 3 + 2 = i := by omega
            rw [e] at k2; cases hi; rw [add_none] at k2; exact k2) (PW_frows l).2 (by rw [frows_len, hll]; exact hl) (fun h => by cases h)
        rw [frows_len, hll] at hv
        exact hv
end Lg
set_option maxRecDepth 20000
set_option maxHeartbeats 4000000
namespace Lg
open Go Go.Proofs Go.RowKit
variable [GLay] 
theorem above_c (x y : FT) (σ : List AO) : ACalls Tryd.prog 12 [.agg (frow x), .agg (frow y)] σ (Ret (.bool (flt y x)) σ) := by
 refine ACalls_body Tryd.func12 rfl Tryd.ntmps12 (res1 Tryd.results12) (Nat.le_of_ble_eq_true rfl) (fun hcl hal => ?_)
 unfold frow
 refine zw3 ?_
 refine AWp_seq ?_
 refine zw5 ?_
 refine AWp_cond rfl (fun h1 => ?_) (fun h1 => ?_)
 ·(try rw [h1]); replace h1 := zcl h1
  refine zw6 ?_
  refine zrt ?_
  exact ResQ_1 rfl hcl trivial (Ret_of (by rw [above_1 h1]))
 ·(try rw [h1]); replace h1 := zcl h1
  refine AWp_skip ?_
  refine AWp_seq ?_
  refine zw5 ?_
  refine AWp_cond rfl (fun h2 => ?_) (fun h2 => ?_)
  ·(try rw [h2]); replace h2 := zcl h2
   refine zw6 ?_
   refine zrt ?_
   exact ResQ_1 rfl hcl trivial (Ret_of (by rw [above_2 h1 h2]))
  ·(try rw [h2]); replace h2 := zcl h2
   refine AWp_skip ?_
   refine zw6 ?_
   refine zrt ?_
   exact ResQ_1 rfl hcl trivial (Ret_of (by rw [above_3 h1 h2]))

theorem faults_c (f g : Bool) (a b : List FT) (σ : List AO) (hl : a.length ≤ 1000000) (hl2 : b.length ≤ 1000000) : ACalls Tryd.prog 8 [.sl f 3 (frows a), .sl g 3 (frows b)] σ (Ret (.int .i64 (bif pb (a = b) then 1 else 0)) σ) := by
 refine ACalls_body Tryd.func8 rfl Tryd.ntmps8 (res1 Tryd.results8) (Nat.le_of_ble_eq_true rfl) (fun hcl hal => ?_)
 have hra := frows_len a
 have hrb := frows_len b
 refine zw1 ?_
 refine AWp_seq ?_
 refine zw5 ?_
 refine AWp_cond rfl (fun h1 => ?_) (fun h1 => ?_)
 ·(try rw [h1]); replace h1 := zcl h1
  refine zw1 ?_
  refine zrt ?_
  exact ResQ_10 rfl hcl trivial (Ret_of (by rw [pb_f (fun h => h1 (by rw [h]))]; rfl))
 ·(try rw [h1]); replace h1 := zcl h1
  refine AWp_skip ?_
  refine AWp_seq ?_
  refine zw1 ?_
  refine AWp_block ?_
  -- loop 0 LIVE 0:param 1:param 4:assign 5:assign
  refine AWp_loop (ι := Nat) (fun i => i ≤ a.length ∧ ∀ (j : Nat), j < i → a[j]? = b[j]?) (fun i => ⟨[], [(0, .sl f 3 (frows a)), (1, .sl g 3 (frows b)), (5, .int .i64 (i : Int))]⟩) (fun i => σ) (fun i => a.length - i) (0) (⟨Nat.zero_le _, fun j h => absurd h (by omega)⟩) ?_ rfl (fun i hi => ?_)
  ·exact ⟨rfl, rfl, rfl, rfl, trivial⟩
  obtain ⟨hi1, hi2⟩ := hi
  refine AWp_seq ?_
  refine zw4 ?_
  refine AWp_cond rfl (fun h2 => ?_) (fun h2 => ?_)
  ·(try rw [h2]); replace h2 := zcl h2
   obtain ⟨x, hx⟩ : ∃ x, a[i]? = some x := ⟨_, List.getElem?_eq_getElem (show i < a.length by omega)⟩
   obtain ⟨y, hy⟩ : ∃ x, b[i]? = some x := ⟨_, List.getElem?_eq_getElem (show i < b.length by omega)⟩
   have hxr := frows_get hx
   have hyr := frows_get hy
   refine AWp_skip ?_
   refine AWp_seq ?_
   refine AWp_block ?_
   refine AWp_seq ?_
   refine AWp_drawL #[0, 0, 3, 7, 0, 0, 48, 112, 255] Tryd.mixed (by decide +kernel) (by decide +kernel) ?_
   refine zd2 ?_
   refine yA rfl rfl (fun _ => op_indexAddr rfl Tryd.underlying22 Tryd.sizeOf28 rfl rfl (by omega) (hxr)) ?_
   refine zp1 ?_
   refine zd2 ?_
   refine yA rfl rfl (fun _ => op_indexAddr rfl Tryd.underlying22 Tryd.sizeOf28 rfl rfl (by omega) (hyr)) ?_
   refine zp1 ?_
   refine yA rfl rfl (fun _ => op_neS rfl Tryd.underlying28 (by kernel_rfl) (by kernel_rfl) (.str _ _ _ _ _ _ _ _ (by decide) rfl Tryd.underlying9 (.str _ _ _ _ _ _ _ _ (by decide) rfl Tryd.underlying9 (.str _ _ _ _ _ _ _ _ (by decide) rfl Tryd.underlying9 (.nil _)))) rfl rfl) ?_
   rw [feq_n x y]
   refine RP.nil rfl ?_
   refine AWp_cond rfl (fun h3 => ?_) (fun h3 => ?_)
   ·(try rw [h3]); replace h3 := zcl h3
    refine zw1 ?_
    refine zrt ?_
    exact ResQ_10 rfl hcl trivial (Ret_of (by rw [pb_f (fun h => (by simpa using h3 : ¬ x = y) (by rw [h, hy] at hx; cases hx; rfl))]; rfl))
   ·(try rw [h3]); replace h3 := zcl h3
    refine AWp_skip ?_
    refine AWp_regL ?_
    refine zv3 ?_
    refine ⟨i + 1, σ.length, ⟨by omega, fun j hj => ?_⟩, by omega, Nat.le_refl _, ⟨rfl, rfl, rfl, rfl, trivial⟩, hcl, ?_, List.take_length⟩
    ·by_cases e : j = i
     ·subst e; rw [hx, hy, (by simpa using h3 : x = y)]
     ·exact hi2 j (by omega)
    ·simp [ltE, AV.lt]
  ·(try rw [h2]); replace h2 := zcl h2
   refine AWp_exit ?_
   refine zw1 ?_
   refine zrt ?_
   have hab : a = b := List.ext_getElem? fun j => by by_cases hj : j < i; exact hi2 j hj; rw [List.getElem?_eq_none (by omega), List.getElem?_eq_none (by omega)]
   exact ResQ_10 rfl hcl trivial (Ret_of (by rw [pb_t hab]; rfl))
end Lg
set_option maxRecDepth 20000
set_option maxHeartbeats 4000000
namespace Lg
open Go Go.Proofs Go.RowKit
variable [GLay] 
theorem rfsort_c (f : Bool) (l : List FT) (σ : List AO) (hl : l.length ≤ 100000) : ACalls Tryd.prog 6 [.sl f 3 (frows l)] σ (Ret (.sl false 3 (frows (rsort l))) σ) := by
 refine ACalls_body Tryd.func6 rfl Tryd.ntmps6 (res1 Tryd.results6) (Nat.le_of_ble_eq_true rfl) (fun hcl hal => ?_)
 have hra := frows_len l
 refine zw1 ?_
 refine zw1 ?_
 refine AWp_seq ?_
 refine zw1 ?_
 refine AWp_block ?_
 -- loop 0 LIVE 0:param 2:assign 3:assign 4:assign
 refine AWp_slotLe 3 rfl (AVle.nils false 3) ?_ (by decide)
 refine AWp_loop (ι := Nat) (fun i => i ≤ l.length) (fun i => ⟨[], [(0, .sl f 3 (frows l)), (3, .sl false 3 (frows (rsort (l.take i)))), (4, .int .i64 (i : Int))]⟩) (fun i => σ) (fun i => l.length - i) (0) (Nat.zero_le _) ?_ rfl (fun i hi => ?_)
 ·exact ⟨rfl, rfl, rfl, rfl, trivial⟩
 refine AWp_seq ?_
 refine zw4 ?_
 refine AWp_cond rfl (fun h1 => ?_) (fun h1 => ?_)
 ·(try rw [h1]); replace h1 := zcl h1
  obtain ⟨x, hx⟩ : ∃ x, l[i]? = some x := ⟨_, List.getElem?_eq_getElem (show i < l.length by omega)⟩
  have hxr := frows_get hx
  have hol := rsort_len l i
  obtain ⟨o, ho⟩ : ∃ o, o = rsort (l.take i) := ⟨_, rfl⟩
  rw [← ho] at hol ⊢
  have hro := frows_len o
  refine AWp_skip ?_
  refine AWp_seq ?_
  refine AWp_block ?_
  refine zw1 ?_
  refine AWp_seq ?_
  refine AWp_block ?_
  -- loop 1 LIVE 0:param 2:assign 3:assign 4:assign 5:assign
  refine AWp_loop (ι := Nat) (fun k => k ≤ o.length ∧ ∀ (j : Nat) (y : FT), j < k → o[j]? = some y → flt y x = true) (fun k => ⟨[], [(0, .sl f 3 (frows l)), (3, .sl false 3 (frows o)), (4, .int .i64 (i : Int)), (5, .int .i64 (k : Int))]⟩) (fun k => σ) (fun k => o.length - k) (0) (⟨Nat.zero_le _, fun j y h => absurd h (by omega)⟩) ?_ rfl (fun k hkk => ?_)
  ·exact ⟨rfl, rfl, rfl, rfl, rfl, trivial⟩
  obtain ⟨hk, hkj⟩ := hkk
  refine AWp_seq ?_
  refine zw4 ?_
  refine AWp_cond rfl (fun h2 => ?_) (fun h2 => ?_)
  ·(try rw [h2]); replace h2 := zcl h2
   obtain ⟨y, hy⟩ : ∃ x, o[k]? = some x := ⟨_, List.getElem?_eq_getElem (show k < o.length by omega)⟩
   have hyr := frows_get hy
   refine AWp_skip ?_
   refine AWp_block ?_
   refine AWp_seq ?_
   refine AWp_drawL #[0, 0, 3, 7, 0, 0, 48, 112, 255, 511] Tryd.mixed (by decide +kernel) (by decide +kernel) ?_
   refine zd2 ?_
   refine yA rfl rfl (fun _ => op_indexAddr rfl Tryd.underlying22 Tryd.sizeOf28 rfl rfl (by omega) (hxr)) ?_
   refine zp1 ?_
   refine zd2 ?_
   refine yA rfl rfl (fun _ => op_indexAddr rfl Tryd.underlying22 Tryd.sizeOf28 rfl rfl (by omega) (hyr)) ?_
   refine zp1 ?_
   refine yP rfl rfl (zc rfl (above_c x y _)) (trivial) ?_
   refine zd1 ?_
   refine RP.nil rfl ?_
   refine AWp_seq ?_
   refine zw2 ?_
   refine AWp_cond rfl (fun h3 => ?_) (fun h3 => ?_)
   ·(try rw [h3]); replace h3 := zcl h3
    have hny : ¬ flt y x = true := by simpa using h3
    refine AWp_exit ?_
    refine AWp_seq ?_
    refine zw4 ?_
    refine AWp_cond rfl (fun h4 => ?_) (fun h4 => ?_)
    ·(try rw [h4]); replace h4 := zcl h4
     refine AWp_seq ?_
     refine AWp_drawL #[0, 0, 3, 7, 0, 0, 48, 112, 255] Tryd.mixed (by decide +kernel) (by decide +kernel) ?_
     refine zd2 ?_
     refine yA rfl rfl (fun _ => op_indexAddr rfl Tryd.underlying22 Tryd.sizeOf28 rfl rfl (by omega) (hyr)) ?_
     refine zp1 ?_
     refine zd2 ?_
     refine yA rfl rfl (fun _ => op_indexAddr rfl Tryd.underlying22 Tryd.sizeOf28 rfl rfl (by omega) (hxr)) ?_
     refine zp1 ?_
     refine yA rfl rfl (fun _ => op_eqSR rfl Tryd.underlying28 (by kernel_rfl) (by kernel_rfl) (.str _ _ _ _ _ _ _ _ (by decide) rfl Tryd.underlying9 (.str _ _ _ _ _ _ _ _ (by decide) rfl Tryd.underlying9 (.str _ _ _ _ _ _ _ _ (by decide) rfl Tryd.underlying9 (.nil _)))) rfl rfl (feq_b y x)) ?_
     refine RP.nil rfl ?_
     refine AWp_cond rfl (fun h5 => ?_) (fun h5 => ?_)
     ·(try rw [h5]); replace h5 := zcl h5
      refine AWp_exit ?_
      first | refine AWp_freezeAO 3 1 _ 3 (k + (1 + (o.length - k))) (frows (o.take k ++ x :: o.drop k)) rfl (by rw [frows_app]; rfl) (frows_el _) (by rw [frows_len, List.length_append, List.length_cons, List.length_drop, List.length_take, Nat.min_eq_left hk]; omega) (by decide) ?_ (by decide) | skip
      refine AWp_regL ?_
      refine zv3 ?_
      have hR : rsort (l.take (i + 1)) = o := by rw [rsort_take hx, ← ho, fins_at hy hkj hny, if_pos (by simpa using h5)]
      refine ⟨i + 1, σ.length, by omega, by omega, by simp, ⟨rfl, rfl, ?_, rfl, trivial⟩, hcl, ?_, List.take_length⟩
      ·show AV.sl false 3 _ = AV.sl false 3 _; rw [hR]
      ·simp [ltE, AV.lt]
     ·(try rw [h5]); replace h5 := zcl h5
      refine AWp_skip ?_
      refine AWp_seq ?_
      refine AWp_heap (σ' := σ ++ []) (by simp) ?_
      refine AWp_drawL #[0, 0, 3, 7, 15, 0, 0, 96, 255, 511] Tryd.mixed (by decide +kernel) (by decide +kernel) ?_
      refine zd2 ?_
      refine yA rfl rfl (fun _ => op_indexAddr rfl Tryd.underlying22 Tryd.sizeOf28 rfl rfl (by omega) (hxr)) ?_
      refine zp1 ?_
      refine yE rfl rfl (op_buildSliceArrT rfl (n := 0) (cs := [.str x.1, .str x.2.1, .str x.2.2]) rfl rfl (op_buildSliceArr rfl Tryd.underlying22 Tryd.sizeOf28 Tryd.zeroValue28 rfl (by decide) (by decide) rfl rfl rfl)) (⟨.inl rfl, trivial⟩) (trivial) ?_
      refine zd2 ?_
      refine yA rfl rfl (fun _ => (by first | exact op_sliceSl _ _ rfl Tryd.underlying22 Tryd.sizeOf28 rfl (by first | exact ⟨_, rfl⟩ | rfl) (by first | exact ⟨_, rfl⟩ | rfl) (by omega) (by omega) (by omega) | exact op_sliceArr _ _ rfl Tryd.underlying22 Tryd.sizeOf28 rfl GET (by first | exact ⟨_, rfl⟩ | rfl) (by first | exact ⟨_, rfl⟩ | rfl) (by omega) (by omega) (by omega))) ?_
      rw [show ((frows o).drop (((k : Nat) : Int)).toNat).take ((((frows o).length : Nat) : Int).toNat - (((k : Nat) : Int)).toNat) = frows (o.drop k) by rw [List.take_of_length_le (by simp), frows_drop]; rfl]
      refine yE rfl rfl (op_appendArrT rfl 0 (sz := 3) (m := o.length - k) (len := 1) (cs := (frows (o.drop k)).flatten) rfl (.inr ⟨_, rfl⟩) Tryd.underlying22 Tryd.underlying22 Tryd.type28 rfl rfl rfl (by decide) rfl rfl rfl (by show some (((frows (o.drop k))).flatten, (frows (o.drop k)).length) = _; rw [frows_len, List.length_drop]) rfl (ones_frows _) (by show (1 + (o.length - k)) * 48 ≤ _; omega) (by omega) (by rw [frows_flen, List.length_drop])) (⟨.inl rfl, trivial⟩) (⟨rfl, trivial⟩) ?_
      refine zd1 ?_
      refine RP.nil rfl ?_
      refine AWp_freezeAO 7 0 _ 3 (1 + (o.length - k)) (frows (x :: o.drop k)) rfl (by rw [frows_cons]; rfl) (frows_el _) (by rw [frows_len, List.length_cons, List.length_drop]; omega) (by decide) ?_ (by decide)
      refine AWp_regL ?_
      refine zt rfl (op_buildSlice0 (sz := 3) rfl Tryd.underlying22 Tryd.sizeOf28) ?_
      refine zg2 ?_
      refine zt rfl ((by first | exact op_sliceSl _ _ rfl Tryd.underlying22 Tryd.sizeOf28 rfl (by first | exact ⟨_, rfl⟩ | rfl) (by first | exact ⟨_, rfl⟩ | rfl) (by omega) (by omega) (by omega) | exact op_sliceArr _ _ rfl Tryd.underlying22 Tryd.sizeOf28 rfl GET (by first | exact ⟨_, rfl⟩ | rfl) (by first | exact ⟨_, rfl⟩ | rfl) (by omega) (by omega) (by omega))) ?_
      rw [show ((frows o).drop (Int.toNat 0)).take ((((k : Nat) : Int)).toNat - Int.toNat 0) = frows (o.take k) by rw [show Int.toNat 0 = 0 from rfl, List.drop_zero, Nat.sub_zero, Int.toNat_natCast, frows_take]]
      refine zt rfl (op_appendNewT rfl (n := 1) rfl (sz := 3) (m := k) (cs := (frows (o.take k)).flatten) rfl (.inr ⟨_, rfl⟩) Tryd.underlying22 Tryd.underlying22 Tryd.type28 rfl rfl rfl (by decide) (.inr rfl) (by show some ((frows (o.take k)).flatten, (frows (o.take k)).length) = _; rw [frows_len, List.length_take, Nat.min_eq_left hk]) rfl (ones_frows _) (by show k * 48 ≤ _; omega) (by omega) (by rw [frows_flen, List.length_take, Nat.min_eq_left hk])) ?_
      refine zg1 ?_
      refine zt rfl (op_appendArrT rfl 1 (sz := 3) (m := 1 + (o.length - k)) (len := k) (cs := (frows (x :: o.drop k)).flatten) rfl (.inr ⟨_, rfl⟩) Tryd.underlying22 Tryd.underlying22 Tryd.type28 rfl rfl rfl (by decide) rfl rfl (by rw [frows_flen, List.length_take, Nat.min_eq_left hk]) (by show some ((frows (x :: o.drop k)).flatten, (frows (x :: o.drop k)).length) = _; rw [frows_len, List.length_cons, List.length_drop, Nat.add_comm]) rfl (ones_frows _) (by show (k + (1 + (o.length - k))) * 48 ≤ _; omega) (by omega) (by rw [frows_flen, List.length_cons, List.length_drop, Nat.add_comm 1])) ?_
      refine zv1 ?_
      first | refine AWp_freezeAO 3 1 _ 3 (k + (1 + (o.length - k))) (frows (o.take k ++ x :: o.drop k)) rfl (by rw [frows_app]; rfl) (frows_el _) (by rw [frows_len, List.length_append, List.length_cons, List.length_drop, List.length_take, Nat.min_eq_left hk]; omega) (by decide) ?_ (by decide) | skip
      refine AWp_regL ?_
      refine zv3 ?_
      have hR : rsort (l.take (i + 1)) = o.take k ++ x :: o.drop k := by rw [rsort_take hx, ← ho, fins_at hy hkj hny, if_neg (by simpa using h5)]
      refine ⟨i + 1, σ.length, by omega, by omega, by simp, ⟨rfl, rfl, ?_, rfl, trivial⟩, closed_own 0 hcl (by simp [ownLt, AO.cells, AV.ltL, AV.lt]), ?_, List.take_left⟩
      ·show AV.sl false 3 _ = AV.sl false 3 _; rw [hR]
      ·simp [ltE, AV.lt]
    ·(try rw [h4]); replace h4 := zcl h4
     omega
   ·(try rw [h3]); replace h3 := zcl h3
    refine AWp_skip ?_
    refine AWp_regL ?_
    refine zv3 ?_
    refine ⟨k + 1, σ.length, ⟨by omega, fun j z hj hz => ?_⟩, by omega, Nat.le_refl _, ⟨rfl, rfl, rfl, rfl, rfl, trivial⟩, hcl, ?_, List.take_length⟩
    ·by_cases e : j = k
     ·subst e; rw [hy] at hz; cases hz; simpa using h3
     ·exact hkj j z (by omega) hz
    ·simp [ltE, AV.lt]
  ·(try rw [h2]); replace h2 := zcl h2
   refine AWp_exit ?_
   refine AWp_seq ?_
   refine zw4 ?_
   refine AWp_cond rfl (fun h6 => ?_) (fun h6 => ?_)
   ·(try rw [h6]); replace h6 := zcl h6
    omega
   ·(try rw [h6]); replace h6 := zcl h6
    have hke : k = o.length := by omega
    refine AWp_skip ?_
    refine AWp_seq ?_
    refine AWp_heap (σ' := σ ++ []) (by simp) ?_
    refine AWp_drawL #[0, 0, 3, 7, 15, 0, 0, 96, 255, 511] Tryd.mixed (by decide +kernel) (by decide +kernel) ?_
    refine zd2 ?_
    refine yA rfl rfl (fun _ => op_indexAddr rfl Tryd.underlying22 Tryd.sizeOf28 rfl rfl (by omega) (hxr)) ?_
    refine zp1 ?_
    refine yE rfl rfl (op_buildSliceArrT rfl (n := 0) (cs := [.str x.1, .str x.2.1, .str x.2.2]) rfl rfl (op_buildSliceArr rfl Tryd.underlying22 Tryd.sizeOf28 Tryd.zeroValue28 rfl (by decide) (by decide) rfl rfl rfl)) (⟨.inl rfl, trivial⟩) (trivial) ?_
    refine zd2 ?_
    refine yA rfl rfl (fun _ => (by first | exact op_sliceSl _ _ rfl Tryd.underlying22 Tryd.sizeOf28 rfl (by first | exact ⟨_, rfl⟩ | rfl) (by first | exact ⟨_, rfl⟩ | rfl) (by omega) (by omega) (by omega) | exact op_sliceArr _ _ rfl Tryd.underlying22 Tryd.sizeOf28 rfl GET (by first | exact ⟨_, rfl⟩ | rfl) (by first | exact ⟨_, rfl⟩ | rfl) (by omega) (by omega) (by omega))) ?_
    rw [show ((frows o).drop (((k : Nat) : Int)).toNat).take ((((frows o).length : Nat) : Int).toNat - (((k : Nat) : Int)).toNat) = frows (o.drop k) by rw [List.take_of_length_le (by simp), frows_drop]; rfl]
    refine yE rfl rfl (op_appendArrT rfl 0 (sz := 3) (m := o.length - k) (len := 1) (cs := (frows (o.drop k)).flatten) rfl (.inr ⟨_, rfl⟩) Tryd.underlying22 Tryd.underlying22 Tryd.type28 rfl rfl rfl (by decide) rfl rfl rfl (by show some (((frows (o.drop k))).flatten, (frows (o.drop k)).length) = _; rw [frows_len, List.length_drop]) rfl (ones_frows _) (by show (1 + (o.length - k)) * 48 ≤ _; omega) (by omega) (by rw [frows_flen, List.length_drop])) (⟨.inl rfl, trivial⟩) (⟨rfl, trivial⟩) ?_
    refine zd1 ?_
    refine RP.nil rfl ?_
    refine AWp_freezeAO 7 0 _ 3 (1 + (o.length - k)) (frows (x :: o.drop k)) rfl (by rw [frows_cons]; rfl) (frows_el _) (by rw [frows_len, List.length_cons, List.length_drop]; omega) (by decide) ?_ (by decide)
    refine AWp_regL ?_
    refine zt rfl (op_buildSlice0 (sz := 3) rfl Tryd.underlying22 Tryd.sizeOf28) ?_
    refine zg2 ?_
    refine zt rfl ((by first | exact op_sliceSl _ _ rfl Tryd.underlying22 Tryd.sizeOf28 rfl (by first | exact ⟨_, rfl⟩ | rfl) (by first | exact ⟨_, rfl⟩ | rfl) (by omega) (by omega) (by omega) | exact op_sliceArr _ _ rfl Tryd.underlying22 Tryd.sizeOf28 rfl GET (by first | exact ⟨_, rfl⟩ | rfl) (by first | exact ⟨_, rfl⟩ | rfl) (by omega) (by omega) (by omega))) ?_
    rw [show ((frows o).drop (Int.toNat 0)).take ((((k : Nat) : Int)).toNat - Int.toNat 0) = frows (o.take k) by rw [show Int.toNat 0 = 0 from rfl, List.drop_zero, Nat.sub_zero, Int.toNat_natCast, frows_take]]
    refine zt rfl (op_appendNewT rfl (n := 1) rfl (sz := 3) (m := k) (cs := (frows (o.take k)).flatten) rfl (.inr ⟨_, rfl⟩) Tryd.underlying22 Tryd.underlying22 Tryd.type28 rfl rfl rfl (by decide) (.inr rfl) (by show some ((frows (o.take k)).flatten, (frows (o.take k)).length) = _; rw [frows_len, List.length_take, Nat.min_eq_left hk]) rfl (ones_frows _) (by show k * 48 ≤ _; omega) (by omega) (by rw [frows_flen, List.length_take, Nat.min_eq_left hk])) ?_
    refine zg1 ?_
    refine zt rfl (op_appendArrT rfl 1 (sz := 3) (m := 1 + (o.length - k)) (len := k) (cs := (frows (x :: o.drop k)).flatten) rfl (.inr ⟨_, rfl⟩) Tryd.underlying22 Tryd.underlying22 Tryd.type28 rfl rfl rfl (by decide) rfl rfl (by rw [frows_flen, List.length_take, Nat.min_eq_left hk]) (by show some ((frows (x :: o.drop k)).flatten, (frows (x :: o.drop k)).length) = _; rw [frows_len, List.length_cons, List.length_drop, Nat.add_comm]) rfl (ones_frows _) (by show (k + (1 + (o.length - k))) * 48 ≤ _; omega) (by omega) (by rw [frows_flen, List.length_cons, List.length_drop, Nat.add_comm 1])) ?_
    refine zv1 ?_
    first | refine AWp_freezeAO 3 1 _ 3 (k + (1 + (o.length - k))) (frows (o.take k ++ x :: o.drop k)) rfl (by rw [frows_app]; rfl) (frows_el _) (by rw [frows_len, List.length_append, List.length_cons, List.length_drop, List.length_take, Nat.min_eq_left hk]; omega) (by decide) ?_ (by decide) | skip
    refine AWp_regL ?_
    refine zv3 ?_
    have hR : rsort (l.take (i + 1)) = o.take k ++ x :: o.drop k := by rw [rsort_take hx, ← ho, hke, fins_end (hke ▸ hkj), List.take_length, List.drop_length]
    refine ⟨i + 1, σ.length, by omega, by omega, by simp, ⟨rfl, rfl, ?_, rfl, trivial⟩, closed_own 0 hcl (by simp [ownLt, AO.cells, AV.ltL, AV.lt]), ?_, List.take_left⟩
    ·show AV.sl false 3 _ = AV.sl false 3 _; rw [hR]
    ·simp [ltE, AV.lt]
 ·(try rw [h1]); replace h1 := zcl h1
  have hie : i = l.length := by omega
  subst hie
  rw [List.take_length]
  refine AWp_exit ?_
  refine zw2 ?_
  refine zrt ?_
  exact ResQ_10 rfl hcl (by simp [AV.lt]) (Ret_of rfl)
end Lg
namespace Lg
open Go Go.Proofs
theorem set_self {σ : List AO} {p : Nat} {o : AO} (h : σ[p]? = some o) : σ.set p o = σ := by
  apply List.ext_getElem?
  intro i
  rw [List.getElem?_set]
  split
  · rename_i e; subst e
    obtain ⟨h1, h2⟩ := List.getElem?_eq_some_iff.1 h
    rw [h, if_pos h1]
  · rfl
theorem cpt_app : ∀ (a : List FT) (x y : FT), cpt (a ++ [x, y]) = if x = y then cpt (a ++ [x]) else cpt (a ++ [x]) ++ [y]
  | [], x, y => by
    by_cases h : x = y
    · subst h; simp [cpt]
    · simp [cpt, h]
  | [z], x, y => by
    by_cases h : z = x
    · subst h
      by_cases h2 : z = y
      · subst h2; simp [cpt]
      · simp [cpt, h2]
    · by_cases h2 : x = y
      · subst h2; simp [cpt, h]
      · simp [cpt, h, h2]
  | z :: w :: a, x, y => by
    have ih := cpt_app (w :: a) x y
    simp only [List.cons_append] at ih ⊢
    rw [cpt, ih]
    by_cases h : z = w
    · rw [if_pos h]
      have e : cpt (z :: w :: (a ++ [x])) = cpt (w :: (a ++ [x])) := by rw [cpt, if_pos h]
      rw [e]
    · rw [if_neg h]
      have e : cpt (z :: w :: (a ++ [x])) = z :: cpt (w :: (a ++ [x])) := by rw [cpt, if_neg h]
      rw [e]; split <;> simp
theorem cpt_step {l : List FT} {m : Nat} {u v : FT} (hu : l[m]? = some u) (hv : l[m + 1]? = some v) : cpt (l.take (m + 1 + 1)) = if u = v then cpt (l.take (m + 1)) else cpt (l.take (m + 1)) ++ [v] := by
  have e1 : l.take (m + 1) = l.take m ++ [u] := by rw [List.take_add_one, hu]; rfl
  have e2 : l.take (m + 1 + 1) = l.take m ++ [u, v] := by rw [List.take_add_one, hv, e1]; simp
  rw [e2, cpt_app, ← e1]
theorem cpt_one (l : List FT) (h : l.length ≤ 1) : cpt l = l := by
  match l, h with
  | [], _ => rfl
  | [x], _ => rfl
theorem cpt_take1 (l : List FT) : cpt (l.take 1) = l.take 1 := cpt_one _ (by rw [List.length_take]; omega)
theorem take_set1 {R : List FT} {k : Nat} {v : FT} (h : k < R.length) : (R.set k v).take (k + 1) = R.take k ++ [v] := by
  rw [List.take_add_one, List.getElem?_set, if_pos rfl, if_pos h, List.take_set_of_le (Nat.le_refl _)]; rfl
theorem frows_set (R : List FT) (k : Nat) (v : FT) : (frows R).set k (frow v) = frows (R.set k v) := by simp [frows, List.map_set]
theorem frows_store [GLay] {R : List FT} {k : Nat} {v : FT} (h : k < R.length) : (frows R).flatten.take (k * 3) ++ frow v ++ (frows R).flatten.drop (k * 3 + 3) = (frows (R.set k v)).flatten := by
  have := rows_set (rows := frows R) (i := k) (r := frow v) (frows_el R) (by rw [frows_len]; exact h) rfl
  rw [frows_set] at this
  exact this
theorem frows_ftake [GLay] {R : List FT} {k : Nat} (h : k ≤ R.length) : (frows R).flatten.take (k * 3) = (frows (R.take k)).flatten := by
  rw [rows_split (rows := frows R) k, List.take_left' (tk_len (frows_el R) (by rw [frows_len]; exact h)), frows_take]
end Lg
namespace Lg
open Go
section
variable {f : Nat → List Bool → Bool × List Bool} {i : Nat} {S : List Bool}
end
end Lg
namespace Lg
open Go
structure RW (l : List JNode) (rows : List (List AV)) : Prop where
  len : rows.length = l.length
  el : ∀ r ∈ rows, r.length = 4
  get : ∀ (j : Nat) n, l[j]? = some n → ∃ K, AV.one K = true ∧ rows[j]? = some [.str n.path, .bool n.all, .bool n.pass, K]
section
variable [GLay]
theorem tk_app : ∀ (r x : List AV), tk r.length (r ++ x) = some r
  | [], x => rfl
  | a :: r, x => by
    show (tk r.length (r ++ x)).map (a :: ·) = _
    rw [tk_app r x]; rfl
theorem tk_row {sz : Nat} : ∀ {rows : List (List AV)} {i : Nat} {r : List AV}, (∀ r ∈ rows, r.length = sz) → rows[i]? = some r → tk sz (rows.flatten.drop (i * sz)) = some r := by
  intro rows i r hel hr
  have hi := (List.getElem?_eq_some_iff.1 hr)
  have hi1 := hi.1
  rw [← flatten_drop hel i (by omega), List.drop_eq_getElem_cons hi1, hi.2, List.flatten_cons]
  have := tk_app r (rows.drop (i + 1)).flatten
  rwa [hel r (List.mem_of_getElem? hr)] at this
theorem ldv_row {σ : List AO} {p g sz off i : Nat} {rows : List (List AV)} {r : List AV} (hl : σ[p]? = some (.arr sz g rows.flatten)) (hel : ∀ r ∈ rows, r.length = sz) (hr : rows[i]? = some r) (ho : off = i * sz) : ldv σ sz (.pel p g off) = some r := by
  subst ho
  simp only [ldv, hl, if_true]
  exact tk_row hel hr
end
end Lg
set_option maxRecDepth 20000
set_option maxHeartbeats 4000000
namespace Lg
open Go Go.Proofs Go.RowKit
variable [GLay] 
theorem cloneF_c (f : Bool) (rows : List (List AV)) (σ : List AO) (hel : ∀ r ∈ rows, r.length = 3) (hone : ones rows.flatten = true) (hlt : ∀ n, AV.ltL n rows.flatten) (hn : rows.length ≤ 1000000) : ACalls Tryd.prog 13 [.sl f 3 rows] σ (fun o σ' => o = .ret (.arr σ.length 0 3 0 rows.length) ∧ σ' = σ ++ [.arr 3 0 rows.flatten]) := by
 refine ACalls_body Tryd.func13 rfl Tryd.ntmps13 (res1 Tryd.results13) (Nat.le_of_ble_eq_true rfl) (fun hcl hal => ?_)
 refine zw1 ?_
 refine AWp_seq ?_
 refine zu1 ?_
 refine ztR rfl (op_eqSlR rfl Tryd.underlying22 rfl) (fun v1_1 s1_1 hr => ?_) (fun v1_1 s1_1 hr => ?_)
 rotate_left
 ·exact hr.elim
 obtain ⟨hs, b, rfl, hb⟩ := hr
 rw [hs]
 refine zon ?_
 refine AWp_cond rfl (fun h1 => ?_) (fun h1 => ?_)
 ·(try rw [h1]); replace h1 := zcl h1
  refine zw1 ?_
  have hnil := hb h1
  subst hnil
  refine AWp_ghostT 2 3 rfl ?_ (by decide)
  refine zrt ?_
  refine ResQ_K (v := .arr σ.length 0 3 0 0) (σ.length + 1) (by omega) rfl (closed_own 1 hcl ?_) (by simp [AV.lt]) ⟨rfl, take_own 1⟩
  simp [ownLt, AO.cells, AV.ltL]
 ·(try rw [h1]); replace h1 := zcl h1
  refine AWp_skip ?_
  refine zsr ?_
  refine zt rfl (op_buildSlice0 (sz := 3) rfl Tryd.underlying22 Tryd.sizeOf28) ?_
  refine zg1 ?_
  refine zt rfl (op_appendNew (sz := 3) (m := rows.length) (cs := rows.flatten) rfl (.inr ⟨_, rfl⟩) Tryd.underlying22 Tryd.underlying22 Tryd.type28 rfl rfl rfl (by decide) (.inr rfl) (by rfl) rfl hone (by show rows.length * 48 ≤ _; omega) (by omega) (flatten_len hel)) ?_
  refine zv1 ?_
  refine zrt ?_
  refine ResQ_K (v := .arr σ.length 0 3 0 rows.length) (σ.length + 1) (by omega) rfl (closed_own 1 hcl ?_) (by simp [AV.lt]) ⟨rfl, take_own 1⟩
  simp [ownLt, AO.cells, AV.ltL]; exact hlt _
end Lg
set_option maxRecDepth 20000
set_option maxHeartbeats 4000000
namespace Lg
open Go Go.Proofs Go.RowKit
variable [GLay] 
theorem cmpct_c (p g : Nat) (l : List FT) (σ : List AO) (hp : σ[p]? = some (.arr 3 g (frows l).flatten)) (hl : l.length ≤ 1000000) : ACalls Tryd.prog 16 [.arr p g 3 0 l.length] σ (Ret (.sl false 3 (frows (cpt l))) (σ.set p .dead)) := by
 refine ACalls_body Tryd.func16 rfl Tryd.ntmps16 (res1 Tryd.results16) (Nat.le_of_ble_eq_true rfl) (fun hcl hal => ?_)
 have hpl := (List.getElem?_eq_some_iff.1 hp).1
 have hfl := frows_flen l
 refine zw1 ?_
 refine AWp_seq ?_
 refine zu1 ?_
 refine zt rfl (op_lenS rfl rfl Tryd.underlying22 rfl rfl ⟨_, _, hp⟩) ?_
 refine zv1 ?_
 refine AWp_cond rfl (fun h1 => ?_) (fun h1 => ?_)
 ·(try rw [h1]); replace h1 := zcl h1
  have hk3 : cpt l = l := cpt_one l (by omega)
  refine zw2 ?_
  refine AWp_freezeC 2 p g 3 l.length (frows (cpt l)) rfl hp (by rw [hk3, List.take_of_length_le (by rw [hfl]; exact Nat.le_refl _)]) (frows_el _) (by rw [frows_len, hk3]) (by decide) (by rw [hfl]; exact Nat.le_refl _) ?_ (by decide)
  refine zrt ?_
  exact ResQ_S0 (x := .dead) rfl hcl trivial (frows_lt _ (cpt l)) (Ret_of rfl)
 ·(try rw [h1]); replace h1 := zcl h1
  refine AWp_skip ?_
  refine AWp_seq ?_
  refine zw1 ?_
  refine AWp_block ?_
  -- loop 0 LIVE 0:param 2:assign 3:assign
  refine AWp_loop (ι := Nat) (fun k => 1 ≤ k ∧ k ≤ l.length ∧ cpt (l.take k) = l.take k) (fun k => ⟨[], [(0, .arr p g 3 0 l.length), (3, .int .i64 (k : Int))]⟩) (fun k => σ) (fun k => l.length - k) (1) (⟨Nat.le_refl _, by omega, cpt_take1 l⟩) ?_ rfl (fun k hk => ?_)
  ·exact ⟨rfl, rfl, rfl, trivial⟩
  obtain ⟨hk1, hk2, hk3⟩ := hk
  refine AWp_seq ?_
  refine zu2 ?_
  refine zt rfl (op_lenS rfl rfl Tryd.underlying22 rfl rfl ⟨_, _, hp⟩) ?_
  refine zv1 ?_
  refine AWp_cond rfl (fun h2 => ?_) (fun h2 => ?_)
  ·(try rw [h2]); replace h2 := zcl h2
   obtain ⟨m, rfl⟩ : ∃ m, k = m + 1 := ⟨k - 1, by omega⟩
   obtain ⟨u, hu⟩ : ∃ x, l[m]? = some x := ⟨_, List.getElem?_eq_getElem (show m < l.length by omega)⟩
   obtain ⟨v, hv⟩ : ∃ x, l[m + 1]? = some x := ⟨_, List.getElem?_eq_getElem (show m + 1 < l.length by omega)⟩
   refine AWp_skip ?_
   refine AWp_seq ?_
   refine AWp_block ?_
   refine AWp_seq ?_
   refine AWp_drawL #[0, 0, 3, 7, 0, 0, 32, 112, 240, 511] Tryd.mixed (by decide +kernel) (by decide +kernel) ?_
   refine zd2 ?_
   refine yP rfl rfl (op_indexAddrArr rfl Tryd.underlying22 Tryd.sizeOf28 rfl hp rfl (by omega) (by omega)) (trivial) ?_
   refine yP rfl rfl (op_loadK rfl Tryd.isAgg28 Tryd.sizeOf28 (ldv_row hp (frows_el _) (frows_get hv) (by first | rfl | (congr 1; omega) | omega))) (trivial) ?_
   refine zd3 ?_
   refine yP rfl rfl (op_indexAddrArr rfl Tryd.underlying22 Tryd.sizeOf28 rfl hp rfl (by omega) (by omega)) (trivial) ?_
   refine yP rfl rfl (op_loadK rfl Tryd.isAgg28 Tryd.sizeOf28 (ldv_row hp (frows_el _) (frows_get hu) (by first | rfl | (congr 1; omega) | omega))) (trivial) ?_
   refine yA rfl rfl (fun _ => op_eqSR rfl Tryd.underlying28 (by kernel_rfl) (by kernel_rfl) (.str _ _ _ _ _ _ _ _ (by decide) rfl Tryd.underlying9 (.str _ _ _ _ _ _ _ _ (by decide) rfl Tryd.underlying9 (.str _ _ _ _ _ _ _ _ (by decide) rfl Tryd.underlying9 (.nil _)))) rfl rfl (feq_b v u)) ?_
   refine RP.nil rfl ?_
   refine AWp_cond rfl (fun h3 => ?_) (fun h3 => ?_)
   ·(try rw [h3]); replace h3 := zcl h3
    have hvu : v = u := by simpa using h3
    have hz0 : l.take (m + 1) = cpt (l.take (m + 1 + 1)) := by rw [cpt_step hu hv, if_pos hvu.symm, hk3]
    refine zu2 ?_
    refine zt rfl (op_sliceArr _ _ rfl Tryd.underlying22 Tryd.sizeOf28 rfl hp (by first | exact ⟨_, rfl⟩ | rfl) (by first | exact ⟨_, rfl⟩ | rfl) (by omega) (by omega) (by omega)) ?_
    refine zv1 ?_
    refine AWp_seq ?_
    refine zw1 ?_
    refine AWp_block ?_
    -- loop 1 LIVE 0:param 2:assign 3:assign 4:assign 5:assign
    refine AWp_heap (σ' := σ.set p (.arr 3 g (frows l).flatten)) (set_self hp) ?_
    refine AWp_loop (ι := Nat × Nat × List FT) (fun z => 1 ≤ z.2.1 ∧ m + 1 + z.2.1 ≤ l.length ∧ z.1 ≤ m + z.2.1 ∧ z.2.2.length = l.length ∧ z.2.2.take z.1 = cpt (l.take (m + 1 + z.2.1)) ∧ ∀ j, m + z.2.1 ≤ j → z.2.2[j]? = l[j]?) (fun z => ⟨[], [(0, .arr p g 3 0 l.length), (3, .int .i64 (z.1 : Int)), (4, .arr p g 3 (0 + (m + 1)) (l.length - (m + 1))), (5, .int .i64 (z.2.1 : Int))]⟩) (fun z => σ.set p (.arr 3 g (frows z.2.2).flatten)) (fun z => l.length - z.2.1) ((m + 1, 1, l)) (⟨Nat.le_refl _, by simp only; omega, by simp only; omega, rfl, hz0, fun _ _ => rfl⟩) ?_ rfl (fun z hz => ?_)
    ·exact ⟨rfl, rfl, rfl, rfl, rfl, trivial⟩
    obtain ⟨k, q, R⟩ := z
    obtain ⟨hz1, hz2, hz3, hz4, hz5, hz6⟩ := hz
    simp only at hz1 hz2 hz3 hz4 hz5 hz6 ⊢
    refine AWp_seq ?_
    refine zu2 ?_
    refine zt rfl (op_lenS rfl rfl Tryd.underlying22 rfl rfl ⟨_, _, get_set hpl⟩) ?_
    refine zv1 ?_
    refine AWp_cond rfl (fun h4 => ?_) (fun h4 => ?_)
    ·(try rw [h4]); replace h4 := zcl h4
     obtain ⟨v2, hvl⟩ : ∃ x, l[m + q + 1]? = some x := ⟨_, List.getElem?_eq_getElem (show m + q + 1 < l.length by omega)⟩
     obtain ⟨u2, hul⟩ : ∃ x, l[m + q]? = some x := ⟨_, List.getElem?_eq_getElem (show m + q < l.length by omega)⟩
     have hv2 := (hz6 (m + q + 1) (by omega)).trans hvl
     have hu2 := (hz6 (m + q) (by omega)).trans hul
     have hst := cpt_step hul hvl
     refine AWp_skip ?_
     refine AWp_seq ?_
     refine AWp_block ?_
     refine AWp_seq ?_
     refine AWp_drawL #[0, 0, 3, 7, 0, 0, 32, 112, 240, 511] Tryd.mixed (by decide +kernel) (by decide +kernel) ?_
     refine zd2 ?_
     refine yP rfl rfl (op_indexAddrArr rfl Tryd.underlying22 Tryd.sizeOf28 rfl (get_set hpl) rfl (by omega) (by omega)) (trivial) ?_
     refine yP rfl rfl (op_loadK rfl Tryd.isAgg28 Tryd.sizeOf28 (ldv_row (get_set hpl) (frows_el _) (frows_get hv2) (by first | rfl | (congr 1; omega) | omega))) (trivial) ?_
     refine zd3 ?_
     refine yP rfl rfl (op_indexAddrArr rfl Tryd.underlying22 Tryd.sizeOf28 rfl (get_set hpl) rfl (by omega) (by omega)) (trivial) ?_
     refine yP rfl rfl (op_loadK rfl Tryd.isAgg28 Tryd.sizeOf28 (ldv_row (get_set hpl) (frows_el _) (frows_get hu2) (by first | rfl | (congr 1; omega) | omega))) (trivial) ?_
     refine yA rfl rfl (fun _ => op_neS rfl Tryd.underlying28 (by kernel_rfl) (by kernel_rfl) (.str _ _ _ _ _ _ _ _ (by decide) rfl Tryd.underlying9 (.str _ _ _ _ _ _ _ _ (by decide) rfl Tryd.underlying9 (.str _ _ _ _ _ _ _ _ (by decide) rfl Tryd.underlying9 (.nil _)))) rfl rfl) ?_
     rw [feq_n v2 u2]
     refine RP.nil rfl ?_
     refine AWp_cond rfl (fun h5 => ?_) (fun h5 => ?_)
     ·(try rw [h5]); replace h5 := zcl h5
      have hvu2 : ¬ v2 = u2 := by simpa using h5
      refine zu4 ?_
      refine zt rfl (op_indexAddrArr rfl Tryd.underlying22 Tryd.sizeOf28 rfl (get_set hpl) rfl (by omega) (by omega)) ?_
      refine zt rfl (op_loadK rfl Tryd.isAgg28 Tryd.sizeOf28 (ldv_row (get_set hpl) (frows_el _) (frows_get hv2) (by first | rfl | (congr 1; omega) | omega))) ?_
      refine zt rfl (op_indexAddrArr rfl Tryd.underlying22 Tryd.sizeOf28 rfl (get_set hpl) rfl (by omega) (by omega)) ?_
      refine ztN rfl rfl (op_storeElKH rfl Tryd.sizeOf28 rfl rfl (get_set hpl) rfl rfl (by decide) (by rw [frows_flen]; show (0 + Int.toNat _) * 3 + 3 ≤ _; omega)) ?_
      refine zon ?_
      refine AWp_heap (σ' := σ.set p (.arr 3 g (frows (R.set k v2)).flatten)) (by rw [List.set_set, ← frows_store (by omega)]; simp only [Nat.zero_add, Int.toNat_natCast]; rfl) ?_
      refine AWp_regL ?_
      refine zv3 ?_
      refine AWp_regL ?_
      refine zv3 ?_
      refine ⟨(k + 1, q + 1, R.set k v2), σ.length, ⟨by simp only; omega, by simp only; omega, by simp only; omega, by simp only [List.length_set]; exact hz4, ?_, ?_⟩, by simp only; omega, by simp, ⟨rfl, rfl, rfl, rfl, rfl, trivial⟩, closed_set hcl (by simp [AO.cells]), ?_, List.take_of_length_le (by simp)⟩
      ·simp only; rw [take_set1 (by omega), hz5, show m + 1 + (q + 1) = m + q + 1 + 1 by omega, hst, if_neg (fun e => hvu2 e.symm), show m + 1 + q = m + q + 1 by omega]
      ·intro j hj; simp only at hj ⊢; rw [List.getElem?_set, if_neg (by omega)]; exact hz6 j (by omega)
      ·simp [ltE, AV.lt]; (try exact hpl)
     ·(try rw [h5]); replace h5 := zcl h5
      have hvu2 : v2 = u2 := by simpa using h5
      refine AWp_skip ?_
      refine AWp_regL ?_
      refine zv3 ?_
      refine ⟨(k, q + 1, R), σ.length, ⟨by simp only; omega, by simp only; omega, by simp only; omega, hz4, ?_, ?_⟩, by simp only; omega, by simp, ⟨rfl, rfl, rfl, rfl, rfl, trivial⟩, closed_set hcl (by simp [AO.cells]), ?_, List.take_of_length_le (by simp)⟩
      ·simp only; rw [hz5, show m + 1 + (q + 1) = m + q + 1 + 1 by omega, hst, if_pos hvu2.symm, show m + 1 + q = m + q + 1 by omega]
      ·intro j hj; exact hz6 j (by simp only at hj; omega)
      ·simp [ltE, AV.lt]; (try exact hpl)
    ·(try rw [h4]); replace h4 := zcl h4
     have hq : m + 1 + q = l.length := by omega
     rw [hq, List.take_length] at hz5
     have hRk : (frows R).flatten.take (k * 3) = (frows (cpt l)).flatten := by rw [frows_ftake (by omega), hz5]
     have hck : (cpt l).length = k := by rw [← hz5, List.length_take]; omega
     refine AWp_exit ?_
     refine zu2 ?_
     refine zt rfl (op_sliceArr _ _ rfl Tryd.underlying22 Tryd.sizeOf28 rfl (get_set hpl) (by first | exact ⟨_, rfl⟩ | rfl) (by first | exact ⟨_, rfl⟩ | rfl) (by omega) (by omega) (by omega)) ?_
     refine ztN rfl rfl (op_clearA (sz := 3) rfl rfl Tryd.underlying22 Tryd.zeroValue28 rfl (by decide) rfl (get_set hpl) (by omega) (by decide) (by rw [frows_flen]; omega)) ?_
     refine zon ?_
     refine AWp_seq ?_
     refine AWp_heap (σ' := σ.set p (.arr 3 g ((frows (cpt l)).flatten ++ (List.replicate ((l.length - k) * 3) .any ++ (frows R).flatten.drop (k * 3 + (l.length - k) * 3))))) (by rw [List.set_set]; simp only [Nat.zero_add, Int.toNat_natCast]; rw [hRk, List.append_assoc]) ?_
     refine AWp_regL ?_
     refine zg2 ?_
     refine zt rfl (op_sliceArr _ _ rfl Tryd.underlying22 Tryd.sizeOf28 rfl (get_set hpl) (by first | exact ⟨_, rfl⟩ | rfl) (by first | exact ⟨_, rfl⟩ | rfl) (by omega) (by omega) (by omega)) ?_
     refine zv1 ?_
     refine AWp_freezeC 2 p g 3 _ (frows (cpt l)) rfl (get_set hpl) (List.take_left' (by rw [frows_flen, hck]; simp)).symm (frows_el _) (by rw [frows_len, hck]; simp) (by decide) (by rw [List.length_append, frows_flen, hck]; simp) ?_ (by decide)
     rw [List.set_set]
     refine zrt ?_
     exact ResQ_S0 (x := .dead) rfl hcl trivial (frows_lt _ (cpt l)) (Ret_of rfl)
   ·(try rw [h3]); replace h3 := zcl h3
    have hvu : ¬ v = u := by simpa using h3
    refine AWp_skip ?_
    refine AWp_regL ?_
    refine zv3 ?_
    refine ⟨m + 1 + 1, σ.length, ⟨by omega, by omega, ?_⟩, by omega, Nat.le_refl _, ⟨rfl, rfl, rfl, trivial⟩, hcl, ?_, List.take_length⟩
    ·rw [cpt_step hu hv, if_neg (fun e => hvu e.symm), hk3, List.take_add_one (i := m + 1), hv]; rfl
    ·simp [ltE, AV.lt]; (try exact hpl)
  ·(try rw [h2]); replace h2 := zcl h2
   have hke : k = l.length := by omega
   subst hke
   rw [List.take_length] at hk3
   refine AWp_exit ?_
   refine zw2 ?_
   refine AWp_freezeC 2 p g 3 l.length (frows (cpt l)) rfl hp (by rw [hk3, List.take_of_length_le (by rw [hfl]; exact Nat.le_refl _)]) (frows_el _) (by rw [frows_len, hk3]) (by decide) (by rw [hfl]; exact Nat.le_refl _) ?_ (by decide)
   refine zrt ?_
   exact ResQ_S0 (x := .dead) rfl hcl trivial (frows_lt _ (cpt l)) (Ret_of rfl)
end Lg
set_option maxRecDepth 100000
namespace Go.Proofs
open Go.Shelf
def Tryd.slsort6_ren : Go.Shelf.Ren := ⟨fun | 6 => 14 | 15 => 19 | 14 => 18 | 28 => 31 | 29 => 32 | 20 => 23 | 21 => 24 | 22 => 25 | 23 => 26 | 24 => 27 | 25 => 28 | 26 => 29 | 27 => 30 | 46 => 35 | 47 => 36 | 48 => 37 | 49 => 38 | 50 => 39 | 57 => 46 | n => n, fun | 22 => 22 | 24 => 28 | 25 => 36 | 3 => 3 | 39 => 39 | 0 => 0 | 53 => 52 | 55 => 54 | 4 => 4 | 46 => 45 | 45 => 44 | 50 => 49 | 5 => 5 | 9 => 9 | 66 => 58 | 70 => 62 | 76 => 75 | 77 => 76 | n => n, fun | n => n⟩
theorem Tryd.slsort6 : Go.Proofs.SlLaysF0.n6 Tryd.prog Tryd.slsort6_ren := {
  mixed := by kernel_rfl,
  f6 := ⟨"slices.SortFunc[[]doublet/api.Fault,doublet/api.Fault]", by decide, Tryd.func14.trans (congrArg some (by kernel_rfl))⟩,
  f14 := ⟨"slices.pdqsortCmpFunc[doublet/api.Fault]", by decide, Tryd.func18.trans (congrArg some (by kernel_rfl))⟩,
  f15 := Tryd.func19.trans (congrArg some (by kernel_rfl)),
  f20 := ⟨"slices.insertionSortCmpFunc[doublet/api.Fault]", by decide, Tryd.func23.trans (congrArg some (by kernel_rfl))⟩,
  f21 := ⟨"slices.heapSortCmpFunc[doublet/api.Fault]", by decide, Tryd.func24.trans (congrArg some (by kernel_rfl))⟩,
  f22 := ⟨"slices.breakPatternsCmpFunc[doublet/api.Fault]", by decide, Tryd.func25.trans (congrArg some (by kernel_rfl))⟩,
  f23 := ⟨"slices.choosePivotCmpFunc[doublet/api.Fault]", by decide, Tryd.func26.trans (congrArg some (by kernel_rfl))⟩,
  f24 := ⟨"slices.reverseRangeCmpFunc[doublet/api.Fault]", by decide, Tryd.func27.trans (congrArg some (by kernel_rfl))⟩,
  f25 := ⟨"slices.partialInsertionSortCmpFunc[doublet/api.Fault]", by decide, Tryd.func28.trans (congrArg some (by kernel_rfl))⟩,
  f26 := ⟨"slices.partitionEqualCmpFunc[doublet/api.Fault]", by decide, Tryd.func29.trans (congrArg some (by kernel_rfl))⟩,
  f27 := ⟨"slices.partitionCmpFunc[doublet/api.Fault]", by decide, Tryd.func30.trans (congrArg some (by kernel_rfl))⟩,
  f28 := Tryd.func31.trans (congrArg some (by kernel_rfl)),
  f29 := Tryd.func32.trans (congrArg some (by kernel_rfl)),
  f46 := ⟨"slices.siftDownCmpFunc[doublet/api.Fault]", by decide, Tryd.func35.trans (congrArg some (by kernel_rfl))⟩,
  f47 := Tryd.func36.trans (congrArg some (by kernel_rfl)),
  f48 := Tryd.func37.trans (congrArg some (by kernel_rfl)),
  f49 := ⟨"slices.medianAdjacentCmpFunc[doublet/api.Fault]", by decide, Tryd.func38.trans (congrArg some (by kernel_rfl))⟩,
  f50 := ⟨"slices.medianCmpFunc[doublet/api.Fault]", by decide, Tryd.func39.trans (congrArg some (by kernel_rfl))⟩,
  f57 := ⟨"slices.order2CmpFunc[doublet/api.Fault]", by decide, Tryd.func46.trans (congrArg some (by kernel_rfl))⟩,
  t0 := Tryd.underlying0,
  a0 := Tryd.isAgg0,
  z0 := Tryd.sizeOf0,
  v0 := Tryd.zeroValue0,
  t3 := Tryd.underlying3,
  a3 := Tryd.isAgg3,
  z3 := Tryd.sizeOf3,
  v3 := Tryd.zeroValue3,
  t4 := Tryd.underlying4,
  a4 := Tryd.isAgg4,
  z4 := Tryd.sizeOf4,
  v4 := Tryd.zeroValue4,
  t5 := Tryd.underlying5,
  a5 := Tryd.isAgg5,
  z5 := Tryd.sizeOf5,
  v5 := Tryd.zeroValue5,
  t9 := Tryd.underlying9,
  a9 := Tryd.isAgg9,
  z9 := Tryd.sizeOf9,
  v9 := Tryd.zeroValue9,
  t22 := Tryd.underlying22,
  a22 := Tryd.isAgg22,
  z22 := Tryd.sizeOf22,
  v22 := Tryd.zeroValue22,
  t25 := Tryd.underlying36,
  a25 := Tryd.isAgg36,
  z25 := Tryd.sizeOf36,
  v25 := Tryd.zeroValue36,
  t39 := Tryd.underlying39,
  a39 := Tryd.isAgg39,
  z39 := Tryd.sizeOf39,
  v39 := Tryd.zeroValue39,
  t45 := Tryd.underlying44,
  a45 := Tryd.isAgg44,
  z45 := Tryd.sizeOf44,
  v45 := Tryd.zeroValue44,
  t46 := Tryd.underlying45,
  a46 := Tryd.isAgg45,
  z46 := Tryd.sizeOf45,
  v46 := Tryd.zeroValue45,
  t50 := Tryd.underlying49,
  a50 := Tryd.isAgg49,
  z50 := Tryd.sizeOf49,
  v50 := Tryd.zeroValue49,
  t53 := Tryd.underlying52,
  a53 := Tryd.isAgg52,
  z53 := Tryd.sizeOf52,
  v53 := Tryd.zeroValue52,
  t55 := Tryd.underlying54,
  a55 := Tryd.isAgg54,
  z55 := Tryd.sizeOf54,
  v55 := Tryd.zeroValue54,
  t66 := Tryd.underlying58,
  a66 := Tryd.isAgg58,
  z66 := Tryd.sizeOf58,
  v66 := Tryd.zeroValue58,
  t70 := Tryd.underlying62,
  a70 := Tryd.isAgg62,
  z70 := Tryd.sizeOf62,
  v70 := Tryd.zeroValue62,
  t76 := Tryd.underlying75,
  a76 := Tryd.isAgg75,
  z76 := Tryd.sizeOf75,
  v76 := Tryd.zeroValue75,
  t77 := Tryd.underlying76,
  a77 := Tryd.isAgg76,
  z77 := Tryd.sizeOf76,
  v77 := Tryd.zeroValue76 }

end Go.Proofs
namespace Lg
open Go Go.Proofs Go.Shelf Go.RowKit Go.Lib Go.Sort
theorem isnan_k (x : ByteArray) (w : World) : Calls Tryd.prog 33 #[.string x] w fun e w' => e = .returned (.bool false) ∧ w' = w := by
  go_enter Tryd.func33, Tryd.ntmps33
  go_wp2
  go_ret
  exact ⟨by simp, rfl⟩
set_option maxHeartbeats 1000000 in
theorem cmps_k (x y : ByteArray) (w : World) : Calls Tryd.prog 21 #[.string x, .string y] w fun e w' => e = .returned (.int .i64 (cmpF x y)) ∧ w' = w := by
  have hn := fun x w => isnan_k x w
  cases h1 : Op.bytesLess x.toList y.toList with
  | true =>
    have hc : cmpF x y = -1 := by simp [cmpF, h1]
    rw [hc]
    go_enter Tryd.func21, Tryd.ntmps21
    go_wp2_with (go_at_call 33; refine (hn _ _).mono ?_; rintro e w' ⟨rfl, hw⟩; rw [hw])
    go_ret
    exact ⟨rfl, rfl⟩
  | false =>
    cases h2 : (x.toList == y.toList) with
    | true =>
      have hc : cmpF x y = 0 := by unfold cmpF; rw [if_neg (by rw [h1]; simp), if_pos (beq_iff_eq.1 h2)]
      rw [hc]
      go_enter Tryd.func21, Tryd.ntmps21
      go_wp2_with (go_at_call 33; refine (hn _ _).mono ?_; rintro e w' ⟨rfl, hw⟩; rw [hw])
      go_ret
      exact ⟨rfl, rfl⟩
    | false =>
      have hc : cmpF x y = 1 := by unfold cmpF; rw [if_neg (by rw [h1]; simp), if_neg (beq_eq_false_iff_ne.1 h2)]
      rw [hc]
      go_enter Tryd.func21, Tryd.ntmps21
      go_wp2_with (go_at_call 33; refine (hn _ _).mono ?_; rintro e w' ⟨rfl, hw⟩; rw [hw])
      go_ret
      exact ⟨rfl, rfl⟩
set_option maxHeartbeats 1000000 in
theorem or_k (a b c : Int) (w : World) (blk : Nat) (h0 : w.cell? ⟨blk, 0, none⟩ = some (.int .i64 a)) (h1 : w.cell? ⟨blk, 1, none⟩ = some (.int .i64 b)) (h2 : w.cell? ⟨blk, 2, none⟩ = some (.int .i64 c)) :
    Calls Tryd.prog 20 #[.slice (some ⟨blk, 0, none⟩) 3 3] w fun e w' => e = .returned (.int .i64 (orI a b c)) ∧ w' = w := by
  generalize hr : orI a b c = r
  go_enter Tryd.func20, Tryd.ntmps20
  go_wp2
  refine wp_loop_rounds 4 ?_
  rw [rounds_succ]
  go_wp2
  · go_ret; exact ⟨by have h : a ≠ 0 := by simpa using (by assumption : (a != 0) = true)
                      unfold orI at hr; rw [if_pos h] at hr; subst hr; rfl, rfl⟩
  have ha : a = 0 := by simpa using (by assumption : (a != 0) = false)
  rw [rounds_succ]
  go_wp2
  · go_ret; exact ⟨by have h : b ≠ 0 := by simpa using (by assumption : (b != 0) = true)
                      unfold orI at hr; rw [if_neg (by simp [ha]), if_pos h] at hr; subst hr; rfl, rfl⟩
  have hb : b = 0 := by simpa using (by assumption : (b != 0) = false)
  rw [rounds_succ]
  go_wp2
  · go_ret; exact ⟨by unfold orI at hr; rw [if_neg (by simp [ha]), if_neg (by simp [hb])] at hr; subst hr; rfl, rfl⟩
  have hc : c = 0 := by simpa using (by assumption : (c != 0) = false)
  rw [rounds_succ]
  go_wp2
  go_ret
  exact ⟨by unfold orI at hr; rw [if_neg (by simp [ha]), if_neg (by simp [hb])] at hr; subst hr; subst hc; rfl, rfl⟩
set_option maxHeartbeats 2000000 in
theorem order_k (a1 a2 a3 b1 b2 b3 : ByteArray) (w : World) :
    Calls Tryd.prog 15 #[.agg #[.string a1, .string a2, .string a3], .agg #[.string b1, .string b2, .string b3]] w fun e w' =>
      e = .returned (.int .i64 (orI (cmpF a1 b1) (cmpF a2 b2) (cmpF a3 b3))) ∧ ∃ q os, w' = grow (w.drewN q) os := by
  have hn := fun x y w => cmps_k x y w
  have hor := fun a b c w blk => or_k a b c w blk
  go_enter Tryd.func15, Tryd.ntmps15
  go_wp2
  generalize hW : ((w.alloc (Obj.cells #[Value.string a1, Value.string a2, Value.string a3] 28)).alloc (Obj.cells #[Value.string b1, Value.string b2, Value.string b3] 28)) = W
  refine wp_region_still_tail 15 (by kernel_rfl) (by kernel_rfl) ?_
  have hd : ({ W with drawn := W.drawn + 1 } : World) = W.drew := rfl
  rw [hd]
  have k0 : W.drew.cell? ⟨w.heap.size, 0, none⟩ = some (.string a1) := by subst hW; simp
  have k1 : W.drew.cell? ⟨w.heap.size, 1, none⟩ = some (.string a2) := by subst hW; simp
  have k2 : W.drew.cell? ⟨w.heap.size, 2, none⟩ = some (.string a3) := by subst hW; simp
  have k3 : W.drew.cell? ⟨w.heap.size + 1, 0, none⟩ = some (.string b1) := by subst hW; simp
  have k4 : W.drew.cell? ⟨w.heap.size + 1, 1, none⟩ = some (.string b2) := by subst hW; simp
  have k5 : W.drew.cell? ⟨w.heap.size + 1, 2, none⟩ = some (.string b3) := by subst hW; simp
  simp only [List.take_succ_cons, List.take_zero, List.drop_succ_cons, List.drop_zero]
  generalize hW2 : W.drew = W2 at *
  repeat first
    | still_step
    | still_call (hn _ _ _)
  try refine wpStill_nil ?_
  go_wp2_with (go_at_call 20; refine (hor (cmpF a1 b1) (cmpF a2 b2) (cmpF a3 b3) _ _ (by simp) (by simp) (by simp)).mono ?_; rintro e w' ⟨rfl, hw⟩; rw [hw])
  go_ret
  refine ⟨rfl, 1, #[.cells #[.string a1, .string a2, .string a3] 28, .cells #[.string b1, .string b2, .string b3] 28, .cells #[.int .i64 (cmpF a1 b1), .int .i64 (cmpF a2 b2), .int .i64 (cmpF a3 b3)] 3], ?_⟩
  subst hW2; subst hW
  rw [alloc_eq_grow, alloc_eq_grow, alloc_eq_grow, grow_grow]
  show grow (grow (w.drewN 1) _) _ = _
  rw [grow_grow]
  rfl
theorem order_lays (blk off size : Nat) (w : World) : CmpLays Tryd.prog 15 #[] fenc 3 fcmp blk off size w := fun _ _ _ _ x y => order_k _ _ _ _ _ _ _
section
variable [GLay]
theorem order_c (x y : FT) (σ : List AO) : ACalls Tryd.prog 15 [.agg (frow x), .agg (frow y)] σ (Ret (.int .i64 (fcmp x y)) σ) :=
  ACalls_below fun s cargs g hp => by
    obtain ⟨q, qs, rfl, h1, h2⟩ := hp.inv_cons
    obtain ⟨q2, qs2, rfl, h3, h4⟩ := h2.inv_cons
    obtain rfl := h4.inv_nil
    obtain ⟨vs, rfl, k1⟩ := h1.inv_agg
    obtain ⟨us, rfl, k2⟩ := h3.inv_agg
    have e1 : vs = fenc x := by have := PW_frows_inv [x] (vs := vs) (by simpa [frows] using k1); simpa using this
    have e2 : us = fenc y := by have := PW_frows_inv [y] (vs := us) (by simpa [frows] using k2); simpa using this
    subst e1; subst e2
    refine ⟨_, fun _ => .int _ _, (order_k x.1 x.2.1 x.2.2 y.1 y.2.1 y.2.2 s.w).mono ?_⟩
    rintro e w' ⟨rfl, n, os, rfl⟩
    refine ⟨rfl, rfl, rfl, rfl, by simp [grow, World.drewN], fun k hk => ?_⟩
    show ((s.w.drewN n).heap ++ os)[k]? = _
    rw [Array.getElem?_append, if_pos (show k < (s.w.drewN n).heap.size from hk)]
    rfl
theorem sortF_c (p g : Nat) (l : List FT) (σ : List AO) (hp : σ[p]? = some (.arr 3 g (frows l).flatten)) (hn : l.length ≤ 1000000) :
    ACalls Tryd.prog 14 [.arr p g 3 0 l.length, .func (.func 15) [] []] σ (Ret (.tup []) (σ.set p (.arr 3 g (frows (fms l)).flatten))) := fun s cargs hs gd hpw => by
  subst hs
  obtain ⟨q, qs, rfl, h1, h2⟩ := hpw.inv_cons
  obtain ⟨q2, qs2, rfl, h3, h4⟩ := h2.inv_cons
  obtain rfl := h4.inv_nil
  obtain ⟨vf, vc, rfl, k1, k2⟩ := h3.inv_func
  obtain rfl := k1.inv_nil
  obtain rfl := k2.inv_nil
  have hplt : p < s.σ.length := (List.getElem?_eq_some_iff.1 hp).1
  have none_ : ∀ (ad : Option Addr) (cap : Nat), l = [] → q = .slice ad 0 cap → Calls Tryd.prog 14 #[q, .func (.func 15) #[] #[]] s.w (CPost s (Ret (.tup []) (s.σ.set p (.arr 3 g (frows (fms l)).flatten)))) := by
    intro ad cap he hq
    subst he; subst hq
    refine (AnyF.slices_SortFunc_none Tryd.slsort6 ad cap _ s.w).mono ?_
    rintro e w' ⟨rfl, rfl⟩
    refine ⟨s, rfl, gd, Ext.refl s, .tup [], .tup [] [] rfl (by simp), rfl, ?_⟩
    apply List.ext_getElem?
    intro i
    rw [List.getElem?_set]
    split
    · rename_i e; subst e; (try rw [if_pos hplt]); rw [hp]; simp [fms]
    · rfl
  by_cases hl : l = []
  · obtain ⟨_, ⟨A, hA, h0⟩ | ⟨cap, hA, hlc, hfit⟩⟩ := h1.inv_arr hp
    · exact none_ A 0 hl hA
    · exact none_ _ cap hl (by rw [hA, hl]; rfl)
  · obtain ⟨hlive, hH, hblk⟩ := frows_holds gd hp hl
    obtain ⟨_, ⟨A, hA, h0⟩ | ⟨cap, hA, hlc, hfit⟩⟩ := h1.inv_arr hp
    · exact absurd (List.eq_nil_of_length_eq_zero h0) hl
    · subst hA
      have eg : ∀ args w, (callFunc 15 args).run Tryd.prog w = .ok (.enter 15 args) w := enters_of Tryd.func15 (by kernel_rfl) rfl
      have hc := AnyQ.slices_SortFunc_total Tryd.slsort6 3 Tryd.isAgg28 Tryd.sizeOf28 fenc (fun _ => rfl) (fun x v hv => by simp [fenc] at hv; rcases hv with rfl | rfl | rfl <;> rfl) fcmp fSWO 15 #[] (s.μ p).b (s.μ p).base cap l.toArray s.w eg (order_lays _ _ _ _) hH hblk (by simp; omega) fT
      rw [List.size_toArray] at hc
      have e0 : (s.μ p).base + 0 * 3 = (s.μ p).base := by omega
      rw [e0]
      refine hc.mono ?_
      rintro e w' ⟨rfl, n, os, rfl⟩
      obtain ⟨s', e1, e2, g', x'⟩ := frows_put gd hp hl (l' := fms l) (fms_len l) n os
      exact ⟨s', e2, g', x', .tup [], .tup [] [] rfl (by simp), rfl, e1⟩
end
end Lg
set_option maxRecDepth 20000
set_option maxHeartbeats 4000000
namespace Lg
open Go Go.Proofs Go.RowKit
variable [GLay] 
theorem cmpctT_c (p g n : Nat) (l : List FT) (σ : List AO) (hp : σ[p]? = some (.arr 3 g (frows l).flatten)) (hl : l.length ≤ 1000000) (hn : l.length = n) : ACalls Tryd.prog 16 [.arr p g 3 0 n] σ (Ret (.sl false 3 (frows (cpt l))) (σ.set p .dead)) := by
  subst hn; exact cmpct_c p g l σ hp hl
theorem sortT_c (p g n : Nat) (l : List FT) (σ : List AO) (hp : σ[p]? = some (.arr 3 g (frows l).flatten)) (hl : l.length ≤ 1000000) (hn : l.length = n) : ACalls Tryd.prog 14 [.arr p g 3 0 n, .func (.func 15) [] []] σ (Ret (.tup []) (σ.set p (.arr 3 g (frows (fms l)).flatten))) := by
  subst hn; exact sortF_c p g l σ hp hl
theorem fsort_c (f : Bool) (l : List FT) (σ : List AO) (hl : l.length ≤ 1000000) : ACalls Tryd.prog 9 [.sl f 3 (frows l)] σ (Ret (.sl false 3 (frows (fs l))) σ) := by
 refine ACalls_body Tryd.func9 rfl Tryd.ntmps9 (res1 Tryd.results9) (Nat.le_of_ble_eq_true rfl) (fun hcl hal => ?_)
 have hra := frows_len l
 refine zw1 ?_
 refine zu1 ?_
 refine zt rfl (zc rfl (cloneF_c f (frows l) _ (frows_el l) (ones_frows l) (fun n => fflat_lt n l) (by omega))) ?_
 refine zv1 ?_
 refine zu1 ?_
 refine zt rfl (zc rfl (sortT_c σ.length 0 _ l _ (by simp) (by omega) hra.symm)) ?_
 refine zon ?_
 refine zu1 ?_
 refine zt rfl (zc rfl (cmpctT_c σ.length 0 _ (fms l) _ (by simp) (by rw [fms_len]; omega) (by rw [fms_len, hra]))) ?_
 refine zv1 ?_
 refine AWp_heap (σ' := σ ++ [.dead]) (by simp) ?_
 refine zrt ?_
 exact ResQ_1 rfl hcl (frows_lt _ (cpt (fms l))) (Ret_of rfl)
end Lg
set_option maxRecDepth 20000
set_option maxHeartbeats 4000000
namespace Lg
open Go Go.Proofs Go.RowKit
variable [GLay] 
theorem fmerge_c (a b : List FT) (σ : List AO) (hl : a.length ≤ 1000000) (hl2 : b.length ≤ 1000000) : ACalls Tryd.prog 10 [.sl false 3 (frows a), .sl false 3 (frows b)] σ (Ret (.sl false 3 (frows (fmg a b))) σ) := by
 refine ACalls_body Tryd.func10 rfl Tryd.ntmps10 (res1 Tryd.results10) (Nat.le_of_ble_eq_true rfl) (fun hcl hal => ?_)
 have hra := frows_len a
 have hrb := frows_len b
 refine zw1 ?_
 refine zu5 ?_
 refine zt rfl (op_makeSlice0 (sz := 3) (n := a.length + b.length) rfl Tryd.underlying22 Tryd.type28 rfl rfl rfl (by rw [← frows_len a, ← frows_len b]; rfl) (by omega) (by decide)) ?_
 refine zv1 ?_
 refine AWp_seq ?_
 refine AWp_block ?_
 -- loop 0 LIVE 0:param 1:param 4:assign 5:assign
 refine AWp_loop (ι := List FT × List FT × List FT) (fun z => z.2.2 ++ fmg z.1 z.2.1 = fmg a b ∧ z.2.2.length + z.1.length + z.2.1.length ≤ a.length + b.length) (fun z => ⟨[], [(0, .sl false 3 (frows z.1)), (1, .sl false 3 (frows z.2.1)), (5, .arr (σ.length + 0) z.2.2.length 3 0 z.2.2.length)]⟩) (fun z => σ ++ [.arr 3 z.2.2.length (frows z.2.2).flatten]) (fun z => z.1.length + z.2.1.length) ((a, b, [])) (⟨rfl, by simp⟩) ?_ rfl (fun z hz => ?_)
 ·exact ⟨rfl, rfl, rfl, rfl, trivial⟩
 obtain ⟨p, q, o⟩ := z
 obtain ⟨hz, hN⟩ := hz
 simp only at hz hN ⊢
 refine AWp_seq ?_
 refine zu4 ?_
 refine zsp 16 rfl (fun h1 => ?_) fun h1 => ?_
 ·rw [h1]; replace h1 := zcl h1
  refine zv4 ?_
  refine AWp_cond rfl (fun h2 => ?_) (fun h2 => ?_)
  ·(try rw [h2]); replace h2 := zcl h2
   obtain ⟨x, p1, rfl⟩ : ∃ x r, p = x :: r := by cases p with | nil => simp [frows] at h1 | cons x r => exact ⟨x, r, rfl⟩
   obtain ⟨y, q1, rfl⟩ : ∃ x r, q = x :: r := by cases q with | nil => simp [frows] at h2 | cons x r => exact ⟨x, r, rfl⟩
   have hN1 : o.length + (p1.length + 1) + (q1.length + 1) ≤ a.length + b.length := hN
   have hlx : (frows (x :: p1)).length = p1.length + 1 := frows_len _
   have hly : (frows (y :: q1)).length = q1.length + 1 := frows_len _
   refine AWp_skip ?_
   refine AWp_block ?_
   refine AWp_seq ?_
   refine AWp_drawL #[0, 1, 3, 0, 8, 24, 63, 127] Tryd.mixed (by decide +kernel) (by decide +kernel) ?_
   refine zd1 ?_
   refine yA rfl rfl (fun _ => op_indexAddr rfl Tryd.underlying22 Tryd.sizeOf28 rfl rfl (by omega) (rfl)) ?_
   refine zp1 ?_
   refine zd1 ?_
   refine yA rfl rfl (fun _ => op_indexAddr rfl Tryd.underlying22 Tryd.sizeOf28 rfl rfl (by omega) (rfl)) ?_
   refine zp1 ?_
   refine yP rfl rfl (zc rfl (order_c x y _)) (trivial) ?_
   refine zd1 ?_
   refine RP.nil rfl ?_
   refine AWp_block ?_
   refine zw3 ?_
   refine AWp_cond rfl (fun h3 => ?_) (fun h3 => ?_)
   ·(try rw [h3]); replace h3 := zcl h3
    refine AWp_drawL #[0, 0, 2, 6, 14, 31, 0, 64, 63, 511] Tryd.mixed (by decide +kernel) (by decide +kernel) ?_
    refine zd2 ?_
    refine yA rfl rfl (fun _ => op_indexAddr rfl Tryd.underlying22 Tryd.sizeOf28 rfl rfl (by omega) (rfl)) ?_
    refine zp1 ?_
    refine yA rfl rfl (fun _ => op_buildSlice [[_, _, _]] rfl Tryd.underlying22 Tryd.sizeOf28 Tryd.zeroValue28 rfl (by decide) (by decide) rfl rfl rfl rfl rfl) ?_
    refine yE rfl rfl (op_appendArrT rfl 0 (sz := 3) (m := 1) (len := o.length) (cs := _) rfl (.inr ⟨_, rfl⟩) Tryd.underlying22 Tryd.underlying22 Tryd.type28 rfl rfl rfl (by decide) rfl rfl (frows_flen o).symm rfl rfl rfl (by show (o.length + 1) * 48 ≤ _; omega) (by omega) rfl) (⟨.inl rfl, trivial⟩) (trivial) ?_
    refine zd1 ?_
    refine yA rfl rfl (fun _ => (by first | exact op_sliceSl _ _ rfl Tryd.underlying22 Tryd.sizeOf28 rfl (by first | exact ⟨_, rfl⟩ | rfl) (by first | exact ⟨_, rfl⟩ | rfl) (by omega) (by omega) (by omega) | exact op_sliceArr _ _ rfl Tryd.underlying22 Tryd.sizeOf28 rfl GET (by first | exact ⟨_, rfl⟩ | rfl) (by first | exact ⟨_, rfl⟩ | rfl) (by omega) (by omega) (by omega))) ?_
    refine zd2 ?_
    refine RP.nil rfl ?_
    have hE : (o ++ [x]) ++ fmg p1 (y :: q1) = fmg a b := by rw [← hz, fmg_lt _ _ (fcmp_neg.1 (by omega))]; simp
    refine ⟨(p1, y :: q1, o ++ [x]), σ.length + 1, ⟨hE, by simp only [List.length_append, List.length_cons, List.length_nil] at hN ⊢; omega⟩, by simp only [List.length_cons]; omega, by simp, ⟨rfl, by show AV.sl false 3 _ = _; simp [frows, List.take_of_length_le], by show AV.sl false 3 _ = _; simp [frows, List.take_of_length_le], by show AV.arr _ _ _ _ _ = _; simp, trivial⟩, closed_own 1 hcl ?_, ?_, ?_⟩
    ·simp [ownLt, AO.cells, AV.ltL, AV.lt, ltL_append]
    ·simp [ltE, AV.lt]
    ·simp only [frows_snoc, List.length_append, List.length_singleton]; exact take_own 1
   ·(try rw [h3]); replace h3 := zcl h3
    refine zw3 ?_
    refine AWp_cond rfl (fun h4 => ?_) (fun h4 => ?_)
    ·(try rw [h4]); replace h4 := zcl h4
     refine AWp_drawL #[0, 0, 2, 6, 14, 31, 0, 64, 63, 511] Tryd.mixed (by decide +kernel) (by decide +kernel) ?_
     refine zd2 ?_
     refine yA rfl rfl (fun _ => op_indexAddr rfl Tryd.underlying22 Tryd.sizeOf28 rfl rfl (by omega) (rfl)) ?_
     refine zp1 ?_
     refine yA rfl rfl (fun _ => op_buildSlice [[_, _, _]] rfl Tryd.underlying22 Tryd.sizeOf28 Tryd.zeroValue28 rfl (by decide) (by decide) rfl rfl rfl rfl rfl) ?_
     refine yE rfl rfl (op_appendArrT rfl 0 (sz := 3) (m := 1) (len := o.length) (cs := _) rfl (.inr ⟨_, rfl⟩) Tryd.underlying22 Tryd.underlying22 Tryd.type28 rfl rfl rfl (by decide) rfl rfl (frows_flen o).symm rfl rfl rfl (by show (o.length + 1) * 48 ≤ _; omega) (by omega) rfl) (⟨.inl rfl, trivial⟩) (trivial) ?_
     refine zd1 ?_
     refine yA rfl rfl (fun _ => (by first | exact op_sliceSl _ _ rfl Tryd.underlying22 Tryd.sizeOf28 rfl (by first | exact ⟨_, rfl⟩ | rfl) (by first | exact ⟨_, rfl⟩ | rfl) (by omega) (by omega) (by omega) | exact op_sliceArr _ _ rfl Tryd.underlying22 Tryd.sizeOf28 rfl GET (by first | exact ⟨_, rfl⟩ | rfl) (by first | exact ⟨_, rfl⟩ | rfl) (by omega) (by omega) (by omega))) ?_
     refine zd2 ?_
     refine RP.nil rfl ?_
     have hE : (o ++ [y]) ++ fmg (x :: p1) q1 = fmg a b := by rw [← hz, fmg_gt _ _ (fun k => by have := fcmp_neg.2 k; omega) (fcmp_pos.1 (by omega))]; simp
     refine ⟨(x :: p1, q1, o ++ [y]), σ.length + 1, ⟨hE, by simp only [List.length_append, List.length_cons, List.length_nil] at hN ⊢; omega⟩, by simp only [List.length_cons]; omega, by simp, ⟨rfl, by show AV.sl false 3 _ = _; simp [frows, List.take_of_length_le], by show AV.sl false 3 _ = _; simp [frows, List.take_of_length_le], by show AV.arr _ _ _ _ _ = _; simp, trivial⟩, closed_own 1 hcl ?_, ?_, ?_⟩
     ·simp [ownLt, AO.cells, AV.ltL, AV.lt, ltL_append]
     ·simp [ltE, AV.lt]
     ·simp only [frows_snoc, List.length_append, List.length_singleton]; exact take_own 1
    ·(try rw [h4]); replace h4 := zcl h4
     refine AWp_drawL #[0, 0, 2, 6, 14, 31, 0, 64, 0, 256, 63, 1279, 4095] Tryd.mixed (by decide +kernel) (by decide +kernel) ?_
     refine zd2 ?_
     refine yA rfl rfl (fun _ => op_indexAddr rfl Tryd.underlying22 Tryd.sizeOf28 rfl rfl (by omega) (rfl)) ?_
     refine zp1 ?_
     refine yA rfl rfl (fun _ => op_buildSlice [[_, _, _]] rfl Tryd.underlying22 Tryd.sizeOf28 Tryd.zeroValue28 rfl (by decide) (by decide) rfl rfl rfl rfl rfl) ?_
     refine yE rfl rfl (op_appendArrT rfl 0 (sz := 3) (m := 1) (len := o.length) (cs := _) rfl (.inr ⟨_, rfl⟩) Tryd.underlying22 Tryd.underlying22 Tryd.type28 rfl rfl rfl (by decide) rfl rfl (frows_flen o).symm rfl rfl rfl (by show (o.length + 1) * 48 ≤ _; omega) (by omega) rfl) (⟨.inl rfl, trivial⟩) (trivial) ?_
     refine zd1 ?_
     refine yA rfl rfl (fun _ => (by first | exact op_sliceSl _ _ rfl Tryd.underlying22 Tryd.sizeOf28 rfl (by first | exact ⟨_, rfl⟩ | rfl) (by first | exact ⟨_, rfl⟩ | rfl) (by omega) (by omega) (by omega) | exact op_sliceArr _ _ rfl Tryd.underlying22 Tryd.sizeOf28 rfl GET (by first | exact ⟨_, rfl⟩ | rfl) (by first | exact ⟨_, rfl⟩ | rfl) (by omega) (by omega) (by omega))) ?_
     refine zd1 ?_
     refine yA rfl rfl (fun _ => (by first | exact op_sliceSl _ _ rfl Tryd.underlying22 Tryd.sizeOf28 rfl (by first | exact ⟨_, rfl⟩ | rfl) (by first | exact ⟨_, rfl⟩ | rfl) (by omega) (by omega) (by omega) | exact op_sliceArr _ _ rfl Tryd.underlying22 Tryd.sizeOf28 rfl GET (by first | exact ⟨_, rfl⟩ | rfl) (by first | exact ⟨_, rfl⟩ | rfl) (by omega) (by omega) (by omega))) ?_
     refine zd3 ?_
     refine RP.nil rfl ?_
     have hE : (o ++ [x]) ++ fmg p1 q1 = fmg a b := by rw [← hz, fmg_eq _ _ (fun k => by have := fcmp_neg.2 k; omega) (fun k => by have := fcmp_pos.2 k; omega)]; simp
     refine ⟨(p1, q1, o ++ [x]), σ.length + 1, ⟨hE, by simp only [List.length_append, List.length_cons, List.length_nil] at hN ⊢; omega⟩, by simp only [List.length_cons]; omega, by simp, ⟨rfl, by show AV.sl false 3 _ = _; simp [frows, List.take_of_length_le], by show AV.sl false 3 _ = _; simp [frows, List.take_of_length_le], by show AV.arr _ _ _ _ _ = _; simp, trivial⟩, closed_own 1 hcl ?_, ?_, ?_⟩
     ·simp [ownLt, AO.cells, AV.ltL, AV.lt, ltL_append]
     ·simp [ltE, AV.lt]
     ·simp only [frows_snoc, List.length_append, List.length_singleton]; exact take_own 1
  ·(try rw [h2]); replace h2 := zcl h2
   have hp0 : q = [] := by cases q with | nil => rfl | cons x r => (simp [frows] at h2; try omega)
   have hf : fmg p q = p ++ q := by rw [hp0]; rw [fmg_nilR, List.append_nil]
   have hfl : ((frows o).flatten ++ (frows p).flatten) ++ (frows q).flatten = (frows (fmg a b)).flatten := by rw [← hz, hf, frows_app, frows_app, List.append_assoc]
   have hln : o.length + p.length + q.length = (fmg a b).length := by rw [← hz, hf, List.length_append, List.length_append]; omega
   refine AWp_exit ?_
   refine zu2 ?_
   refine zt rfl (op_appendArrT rfl 0 (sz := 3) (m := p.length) (len := o.length) (cs := (frows p).flatten) rfl (.inr ⟨_, rfl⟩) Tryd.underlying22 Tryd.underlying22 Tryd.type28 rfl rfl rfl (by decide) rfl rfl (frows_flen o).symm (by show some ((frows p).flatten, (frows p).length) = _; rw [frows_len]) rfl (ones_frows _) (by show (o.length + p.length) * 48 ≤ _; omega) (by omega) (frows_flen _)) ?_
   refine zg1 ?_
   refine zt rfl (op_appendArrT rfl 0 (sz := 3) (m := q.length) (len := (o.length + p.length)) (cs := (frows q).flatten) rfl (.inr ⟨_, rfl⟩) Tryd.underlying22 Tryd.underlying22 Tryd.type28 rfl rfl rfl (by decide) rfl rfl (by rw [List.length_append, frows_flen, frows_flen, Nat.add_mul]) (by show some ((frows q).flatten, (frows q).length) = _; rw [frows_len]) rfl (ones_frows _) (by show ((o.length + p.length) + q.length) * 48 ≤ _; omega) (by omega) (frows_flen _)) ?_
   refine zv1 ?_
   refine AWp_freezeAO 4 0 _ 3 (o.length + p.length + q.length) (frows (fmg a b)) rfl (by rw [← hfl]; rfl) (frows_el _) (by rw [frows_len, hln]) (by decide) ?_ (by decide)
   refine zrt ?_
   exact ResQ_1 rfl hcl (by simp [AV.lt]) (Ret_of rfl)
 ·rw [h1]; replace h1 := zcl h1
  have hp0 : p = [] := by cases p with | nil => rfl | cons x r => (simp [frows] at h1; try omega)
  have hf : fmg p q = p ++ q := by rw [hp0]; simp [fmg]
  have hfl : ((frows o).flatten ++ (frows p).flatten) ++ (frows q).flatten = (frows (fmg a b)).flatten := by rw [← hz, hf, frows_app, frows_app, List.append_assoc]
  have hln : o.length + p.length + q.length = (fmg a b).length := by rw [← hz, hf, List.length_append, List.length_append]; omega
  refine zv4 ?_
  refine AWp_condF rfl ?_
  refine AWp_exit ?_
  refine zu2 ?_
  refine zt rfl (op_appendArrT rfl 0 (sz := 3) (m := p.length) (len := o.length) (cs := (frows p).flatten) rfl (.inr ⟨_, rfl⟩) Tryd.underlying22 Tryd.underlying22 Tryd.type28 rfl rfl rfl (by decide) rfl rfl (frows_flen o).symm (by show some ((frows p).flatten, (frows p).length) = _; rw [frows_len]) rfl (ones_frows _) (by show (o.length + p.length) * 48 ≤ _; omega) (by omega) (frows_flen _)) ?_
  refine zg1 ?_
  refine zt rfl (op_appendArrT rfl 0 (sz := 3) (m := q.length) (len := (o.length + p.length)) (cs := (frows q).flatten) rfl (.inr ⟨_, rfl⟩) Tryd.underlying22 Tryd.underlying22 Tryd.type28 rfl rfl rfl (by decide) rfl rfl (by rw [List.length_append, frows_flen, frows_flen, Nat.add_mul]) (by show some ((frows q).flatten, (frows q).length) = _; rw [frows_len]) rfl (ones_frows _) (by show ((o.length + p.length) + q.length) * 48 ≤ _; omega) (by omega) (frows_flen _)) ?_
  refine zv1 ?_
  refine AWp_freezeAO 4 0 _ 3 (o.length + p.length + q.length) (frows (fmg a b)) rfl (by rw [← hfl]; rfl) (frows_el _) (by rw [frows_len, hln]) (by decide) ?_ (by decide)
  refine zrt ?_
  exact ResQ_1 rfl hcl (by simp [AV.lt]) (Ret_of rfl)
end Lg
set_option maxRecDepth 20000
set_option maxHeartbeats 4000000
namespace Go.Proofs
open Go.Shelf
def Tryd.lays155_ren : Go.Shelf.Ren := ⟨fun | 155 => 22 | 154 => 34 | 138 => 40 | 165 => 41 | 143 => 42 | 166 => 43 | 197 => 44 | 169 => 45 | 195 => 47 | 218 => 48 | 240 => 49 | 241 => 50 | 219 => 51 | 260 => 52 | 276 => 53 | 277 => 54 | 217 => 55 | 225 => 56 | 224 => 57 | 267 => 58 | 266 => 59 | 314 => 60 | n => n, fun | 9 => 9 | 3 => 3 | 4 => 4 | 72 => 66 | 0 => 0 | 76 => 70 | 105 => 72 | 21 => 21 | 5 => 5 | 70 => 64 | 20 => 20 | 37 => 34 | 75 => 69 | 127 => 80 | 164 => 81 | 46 => 39 | 119 => 85 | 139 => 88 | 138 => 87 | 146 => 89 | 51 => 52 | 80 => 74 | n => n, fun | 1 => 0 | 3 => 1 | 4 => 2 | n => n⟩
theorem Tryd.lays155 : Go.Proofs.Lays.n155 Tryd.prog Tryd.lays155_ren := {
  mixed := by kernel_rfl, f138 := Tryd.func40.trans (congrArg some (by kernel_rfl)), f143 := Tryd.func42.trans (congrArg some (by kernel_rfl)), f154 := Tryd.func34.trans (congrArg some (by kernel_rfl)), f155 := Tryd.func22.trans (congrArg some (by kernel_rfl)), f165 := Tryd.func41.trans (congrArg some (by kernel_rfl)), f166 := Tryd.func43.trans (congrArg some (by kernel_rfl)), f169 := Tryd.func45.trans (congrArg some (by kernel_rfl)), f195 := Tryd.func47.trans (congrArg some (by kernel_rfl)), f197 := Tryd.func44.trans (congrArg some (by kernel_rfl)), f217 := Tryd.func55.trans (congrArg some (by kernel_rfl)), f218 := Tryd.func48.trans (congrArg some (by kernel_rfl)), f219 := Tryd.func51.trans (congrArg some (by kernel_rfl)), f224 := Tryd.func57.trans (congrArg some (by kernel_rfl)), f225 := Tryd.func56.trans (congrArg some (by kernel_rfl)), f240 := Tryd.func49.trans (congrArg some (by kernel_rfl)), f241 := Tryd.func50.trans (congrArg some (by kernel_rfl)), f260 := Tryd.func52.trans (congrArg some (by kernel_rfl)), f266 := Tryd.func59.trans (congrArg some (by kernel_rfl)), f267 := Tryd.func58.trans (congrArg some (by kernel_rfl)), f276 := Tryd.func53.trans (congrArg some (by kernel_rfl)), f277 := Tryd.func54.trans (congrArg some (by kernel_rfl)), f314 := Tryd.func60.trans (congrArg some (by kernel_rfl)), t0 := Tryd.underlying0, a0 := Tryd.isAgg0, z0 := Tryd.sizeOf0, v0 := Tryd.zeroValue0, t3 := Tryd.underlying3, a3 := Tryd.isAgg3, z3 := Tryd.sizeOf3, v3 := Tryd.zeroValue3, t4 := Tryd.underlying4, a4 := Tryd.isAgg4, z4 := Tryd.sizeOf4, v4 := Tryd.zeroValue4, t5 := Tryd.underlying5, a5 := Tryd.isAgg5, z5 := Tryd.sizeOf5, v5 := Tryd.zeroValue5, t9 := Tryd.underlying9, a9 := Tryd.isAgg9, z9 := Tryd.sizeOf9, v9 := Tryd.zeroValue9, t20 := Tryd.underlying20, a20 := Tryd.isAgg20, z20 := Tryd.sizeOf20, v20 := Tryd.zeroValue20, t21 := Tryd.underlying21, a21 := Tryd.isAgg21, z21 := Tryd.sizeOf21, v21 := Tryd.zeroValue21, t37 := Tryd.underlying34, a37 := Tryd.isAgg34, z37 := Tryd.sizeOf34, v37 := Tryd.zeroValue34, t46 := Tryd.underlying39, a46 := Tryd.isAgg39, z46 := Tryd.sizeOf39, v46 := Tryd.zeroValue39, t51 := Tryd.underlying52, a51 := Tryd.isAgg52, z51 := Tryd.sizeOf52, v51 := Tryd.zeroValue52, t70 := Tryd.underlying64, a70 := Tryd.isAgg64, z70 := Tryd.sizeOf64, v70 := Tryd.zeroValue64, t72 := Tryd.underlying66, a72 := Tryd.isAgg66, z72 := Tryd.sizeOf66, v72 := Tryd.zeroValue66, t75 := Tryd.underlying69, a75 := Tryd.isAgg69, z75 := Tryd.sizeOf69, v75 := Tryd.zeroValue69, t76 := Tryd.underlying70, a76 := Tryd.isAgg70, z76 := Tryd.sizeOf70, v76 := Tryd.zeroValue70, t105 := Tryd.underlying72, a105 := Tryd.isAgg72, z105 := Tryd.sizeOf72, v105 := Tryd.zeroValue72, t119 := Tryd.underlying85, a119 := Tryd.isAgg85, z119 := Tryd.sizeOf85, t127 := Tryd.underlying80, a127 := Tryd.isAgg80, z127 := Tryd.sizeOf80, v127 := Tryd.zeroValue80, t138 := Tryd.underlying87, a138 := Tryd.isAgg87, z138 := Tryd.sizeOf87, v138 := Tryd.zeroValue87, t139 := Tryd.underlying88, a139 := Tryd.isAgg88, z139 := Tryd.sizeOf88, v139 := Tryd.zeroValue88, t146 := Tryd.underlying89, a146 := Tryd.isAgg89, z146 := Tryd.sizeOf89, v146 := Tryd.zeroValue89, t164 := Tryd.underlying81, a164 := Tryd.isAgg81, z164 := Tryd.sizeOf81, v164 := Tryd.zeroValue81, g1 := by kernel_rfl, g3 := by kernel_rfl, g4 := by kernel_rfl }

def Tryd.laysM143_ren : Go.Shelf.Ren := ⟨fun | 143 => 42 | 219 => 51 | 217 => 55 | 225 => 56 | 224 => 57 | 267 => 58 | 266 => 59 | 314 => 60 | n => n, fun | 9 => 9 | 3 => 3 | 4 => 4 | 5 => 5 | 46 => 39 | 146 => 89 | 51 => 52 | n => n, fun | 1 => 0 | n => n⟩
theorem Tryd.laysM143 : Go.Proofs.LaysM.n143 Tryd.prog Tryd.laysM143_ren := {
  mixed := by kernel_rfl, f143 := Tryd.func42.trans (congrArg some (by kernel_rfl)), f217 := Tryd.func55.trans (congrArg some (by kernel_rfl)), f219 := Tryd.func51.trans (congrArg some (by kernel_rfl)), f224 := Tryd.func57.trans (congrArg some (by kernel_rfl)), f225 := Tryd.func56.trans (congrArg some (by kernel_rfl)), f266 := Tryd.func59.trans (congrArg some (by kernel_rfl)), f267 := Tryd.func58.trans (congrArg some (by kernel_rfl)), f314 := Tryd.func60.trans (congrArg some (by kernel_rfl)), t3 := Tryd.underlying3, a3 := Tryd.isAgg3, z3 := Tryd.sizeOf3, v3 := Tryd.zeroValue3, t4 := Tryd.underlying4, a4 := Tryd.isAgg4, z4 := Tryd.sizeOf4, v4 := Tryd.zeroValue4, t5 := Tryd.underlying5, a5 := Tryd.isAgg5, z5 := Tryd.sizeOf5, v5 := Tryd.zeroValue5, t9 := Tryd.underlying9, a9 := Tryd.isAgg9, z9 := Tryd.sizeOf9, v9 := Tryd.zeroValue9, t46 := Tryd.underlying39, a46 := Tryd.isAgg39, z46 := Tryd.sizeOf39, v46 := Tryd.zeroValue39, t51 := Tryd.underlying52, a51 := Tryd.isAgg52, z51 := Tryd.sizeOf52, v51 := Tryd.zeroValue52, t146 := Tryd.underlying89, a146 := Tryd.isAgg89, z146 := Tryd.sizeOf89, v146 := Tryd.zeroValue89, g1 := by kernel_rfl, i3 := by kernel_rfl, i4 := by kernel_rfl, i5 := by kernel_rfl, i9 := by kernel_rfl, i46 := by kernel_rfl, i51 := by kernel_rfl, i146 := by kernel_rfl, m1 := by kernel_rfl, s1_3 := fun w h => Go.Proofs.cell_of_shapedOpen_int (zero := #[.int .i64 0]) (t := 3) h (of_decide_eq_true (by kernel_rfl)) (by kernel_rfl) rfl (by kernel_rfl) (by kernel_rfl) Tryd.underlying3 }
theorem Tryd.bldX : Builder.Extra Tryd.prog Tryd.lays155_ren := { sizeBuilder := by kernel_rfl, liesBuilder := by kernel_rfl, t5 := Tryd.underlying5, a5 := Tryd.isAgg5, z5 := Tryd.sizeOf5, v5 := Tryd.zeroValue5, infoByte := by kernel_rfl, cellsByte := by kernel_rfl, sizeByte := by kernel_rfl, neB5 := by decide }
end Go.Proofs
namespace Lg
open Go Go.Proofs Go.RowKit
class ML [GLay] : Prop where
  cell : ∃ m, ∀ w : World, Laid w → w.cell? ⟨0, 0, none⟩ = some (.int .i64 m)
section
variable [GLay] [ML]
theorem replA_c (s : ByteArray) (old nw : BL) (σ : List AO) (h0 : old ≠ []) (hne : old ≠ nw) (hs : s.size ≤ 4000000) (hn : nw.length ≤ 2) : ACalls Tryd.prog 22 [.str s, .str (ba old), .str (ba nw)] σ (Ret (.str (ba (ra old nw s.data.toList))) σ) :=
  ACalls_below fun st cargs g hp => by
    obtain ⟨q, qs, rfl, h1, h2⟩ := hp.inv_cons
    obtain ⟨q2, qs2, rfl, h3, h4⟩ := h2.inv_cons
    obtain ⟨q3, qs3, rfl, h5, h6⟩ := h4.inv_cons
    obtain rfl := h6.inv_nil
    obtain rfl := h1.inv_str
    obtain rfl := h3.inv_str
    obtain rfl := h5.inv_str
    obtain ⟨m, hm⟩ := ML.cell
    have hol : 1 ≤ (ba old).size := by rw [ba_size]; cases old with
      | nil => exact absurd rfl h0
      | cons => simp
    have hc := Lib.countB_le (ba old) hol s.size s (Nat.le_refl _)
    have hb : Lib.countB s (ba old) * (ba nw).size ≤ 4000000 * 2 := Nat.mul_le_mul (by omega) (by rw [ba_size]; exact hn)
    have h := Any.strings_ReplaceAll Tryd.lays155 Tryd.bldX s (ba old) (ba nw) m st.w (by omega) (hm _ g.laid) hol (by omega)
    rw [ba_toList, ba_toList, ra_all hne] at h
    exact ⟨_, fun _ => .str _, h⟩
end
theorem cell_heap0 [g : GLay] {W w : World} (hg : ∀ b, g.f b = W.heap[b]?) (hw : Laid w) {b c : Nat} {v : Value} (h : W.cell? ⟨b, c, none⟩ = some v) : w.cell? ⟨b, c, none⟩ = some v := by
  cases hb : W.heap[b]? with
  | none => simp [World.cell?, hb] at h
  | some o => rw [← h]; simp only [World.cell?, hb, hw b o ((hg b).trans hb)]
theorem ML.of [g : GLay] {W : World} (hS : W.ShapedOpen Tryd.prog) (hg : ∀ b, g.f b = W.heap[b]?) : ML := by
  obtain ⟨m, hm⟩ := Tryd.laysM143.s1_3 W hS
  exact ⟨m, fun w hw => cell_heap0 hg hw hm⟩
end Lg
set_option maxRecDepth 20000
set_option maxHeartbeats 4000000
namespace Lg
open Go Go.Proofs Go.RowKit
variable [GLay] [ML]
theorem pshw_c (f : Bool) (l : List BL) (σ : List AO) (hl : l.length ≤ 1000) (hx : ∀ x ∈ l, x.length ≤ 1000000) : ACalls Tryd.prog 17 [.sl f 1 (srow l)] σ (Ret (.str (ba (shw l))) σ) := by
 refine ACalls_body Tryd.func17 rfl Tryd.ntmps17 (res1 Tryd.results17) (Nat.le_of_ble_eq_true rfl) (fun hcl hal => ?_)
 have hrl := srow_len l
 refine zw1 ?_
 refine zw1 ?_
 refine AWp_seq ?_
 refine zw3 ?_
 refine AWp_block ?_
 -- loop 0 LIVE 2:assign 3:assign 6:move 7:call 8:move
 refine AWp_loop (ι := Nat) (fun i => i ≤ l.length) (fun i => ⟨[], [(3, .str (ba (shw (l.take i)))), (6, .sl f 1 (srow l)), (7, .int .i64 ((srow l).length : Int)), (8, .int .i64 (i : Int))]⟩) (fun i => σ) (fun i => l.length - i) (0) (Nat.zero_le _) ?_ rfl (fun i hi => ?_)
 ·exact ⟨rfl, rfl, rfl, rfl, rfl, trivial⟩
 have hsl := shw_len 1000000 (l.take i) (fun x h => hx x (List.mem_of_mem_take h))
 have htl : (l.take i).length ≤ 1000 := by rw [List.length_take]; omega
 have hsl2 : (shw (l.take i)).length ≤ 1000 * 2000001 := Nat.le_trans hsl (Nat.mul_le_mul htl (Nat.le_refl _))
 refine zw1 ?_
 refine AWp_seq ?_
 refine AWp_cond rfl (fun h1 => ?_) (fun h1 => ?_)
 ·(try rw [h1]); replace h1 := zcl h1
  obtain ⟨x, hxi⟩ : ∃ x, l[i]? = some x := ⟨_, List.getElem?_eq_getElem (show i < l.length by omega)⟩
  have hxr := srow_get hxi
  have hxl := hx x (List.mem_of_getElem? hxi)
  have hr1 := ra1_len 126 [126, 48] (by decide) x
  have he1 := esc_len x
  refine AWp_skip ?_
  refine AWp_seq ?_
  refine AWp_block ?_
  refine zsr ?_
  refine zt rfl (op_indexAddr rfl Tryd.underlying26 Tryd.sizeOf9 rfl rfl (by omega) (hxr)) ?_
  refine zv2 ?_
  refine AWp_regL ?_
  refine zg2 ?_
  refine zt rfl (zc rfl (replA_c (ba x) [126] [126, 48] _ (by decide) (by decide) (by rw [ba_size]; omega) (by decide))) ?_
  rw [ba_toList]
  refine zt rfl (zc rfl (replA_c (ba (ra [126] [126, 48] x)) [47] [126, 49] _ (by decide) (by decide) (by rw [ba_size]; omega) (by decide))) ?_
  rw [ba_toList, esc_ra]
  have z1 : (ByteArray.mk #[47]).size = 1 := rfl
  have z2 : (ba (pesc x)).size = (pesc x).length := ba_size _
  have z3 : (ba (shw (l.take i))).size = (shw (l.take i)).length := ba_size _
  have z4 := ByteArray.size_append (a := (⟨#[47]⟩ : ByteArray)) (b := ba (pesc x))
  refine zv3 ?_
  refine AWp_regL ?_
  refine zv2 ?_
  refine ⟨i + 1, σ.length, by omega, by omega, Nat.le_refl _, ⟨rfl, ?_, rfl, rfl, rfl, trivial⟩, hcl, ?_, List.take_length⟩
  ·rw [List.take_add_one, hxi]; show _ = AV.str (ba (shw (List.take i l ++ [x]))); rw [shw_snoc, show (47 :: pesc x : BL) = [47] ++ pesc x from rfl, ← ba_app, ← ba_app]; rfl
  ·simp [ltE, AV.lt]
 ·(try rw [h1]); replace h1 := zcl h1
  refine AWp_exit ?_
  refine zw2 ?_
  refine zrt ?_
  exact ResQ_10 rfl hcl trivial (Ret_of (by rw [show i = l.length by omega, List.take_length]))

end Lg
set_option maxRecDepth 20000
set_option maxHeartbeats 4000000
namespace Lg
open Go Go.Proofs Go.RowKit
variable [GLay] [ML]
theorem pth_show (nm : ByteArray) (σ : List AO) (h : nm.size ≤ 1000) : ACalls Tryd.prog 17 [.sl true 1 [[.str nm]]] σ (Ret (.str (pth nm)) σ) := by
  have hz : nm.data.toList.length = nm.size := Array.length_toList ..
  have h1 := pshw_c true [nm.data.toList] σ (by show 1 ≤ 1000; decide) (by intro x hx; rw [List.mem_singleton.1 hx]; omega)
  rw [show srow [nm.data.toList] = [[.str nm]] by simp [srow, ← ba_eta]] at h1
  exact h1
theorem pth_sz (nm : ByteArray) (h : nm.size ≤ 1000) : (pth nm).size ≤ 1000 * 2001 := by
  have hz : nm.data.toList.length = nm.size := Array.length_toList ..
  have := shw_len 1000 [nm.data.toList] (by intro x hx; rw [List.mem_singleton.1 hx]; omega)
  unfold pth; rw [ba_size]
  exact Nat.le_trans this (Nat.mul_le_mul (by show 1 ≤ 1000; decide) (Nat.le_refl _))
theorem funder_c (nm : ByteArray) (f : Bool) (l : List FT) (σ : List AO) (hn : nm.size ≤ 1000) (hl : l.length ≤ 1000000) (hs : ∀ x ∈ l, x.1.size ≤ 140737488355328) : ACalls Tryd.prog 11 [.str nm, .sl f 3 (frows l)] σ (Ret (.sl false 3 (frows (l.map (und nm)))) σ) := by
 refine ACalls_body Tryd.func11 rfl Tryd.ntmps11 (res1 Tryd.results11) (Nat.le_of_ble_eq_true rfl) (fun hcl hal => ?_)
 have hra := frows_len l
 have hpz := pth_sz nm hn
 refine zw1 ?_
 refine zw1 ?_
 refine zu1 ?_
 refine zt rfl (op_buildSlice [[_]] rfl Tryd.underlying26 Tryd.sizeOf9 Tryd.zeroValue9 rfl (by decide) (by decide) rfl rfl rfl rfl rfl) ?_
 refine zt rfl (zc rfl (pth_show nm _ hn)) ?_
 refine zv1 ?_
 refine AWp_seq ?_
 refine AWp_seq ?_
 refine AWp_ghostT 5 3 rfl ?_ (by decide)
 refine AWp_regL ?_
 refine zv3 ?_
 refine AWp_block ?_
 -- loop 0 LIVE 4:assign 5:assign 6:assign 12:move 13:call 14:move
 refine AWp_loop (ι := Nat) (fun i => i ≤ l.length) (fun i => ⟨[], [(5, .arr (σ.length + 0) i 3 0 i), (6, .str (pth nm)), (12, .sl f 3 (frows l)), (13, .int .i64 ((frows l).length : Int)), (14, .int .i64 (i : Int))]⟩) (fun i => σ ++ [.arr 3 i (frows ((l.take i).map (und nm))).flatten]) (fun i => l.length - i) (0) (Nat.zero_le _) ?_ rfl (fun i hi => ?_)
 ·exact ⟨rfl, rfl, rfl, rfl, rfl, rfl, trivial⟩
 refine zw1 ?_
 refine AWp_seq ?_
 refine AWp_cond rfl (fun h1 => ?_) (fun h1 => ?_)
 ·(try rw [h1]); replace h1 := zcl h1
  obtain ⟨x, hx⟩ : ∃ x, l[i]? = some x := ⟨_, List.getElem?_eq_getElem (show i < l.length by omega)⟩
  have hxr := frows_get hx
  have hxs := hs x (List.mem_of_getElem? hx)
  refine AWp_skip ?_
  refine AWp_seq ?_
  refine AWp_block ?_
  refine zsr ?_
  refine zt rfl (op_indexAddr rfl Tryd.underlying22 Tryd.sizeOf28 rfl rfl (by omega) (hxr)) ?_
  refine zv3 ?_
  refine zu3 ?_
  refine zt rfl (op_cat rfl rfl rfl (by show (pth nm).size + x.1.size ≤ _; omega)) ?_
  refine zv2 ?_
  refine AWp_regL ?_
  refine zg2 ?_
  refine zt rfl (op_buildSlice [[_, _, _]] rfl Tryd.underlying22 Tryd.sizeOf28 Tryd.zeroValue28 rfl (by decide) (by decide) rfl rfl rfl rfl rfl) ?_
  refine zt rfl (op_appendArrT rfl 0 (sz := 3) (m := 1) (len := i) (cs := _) rfl (.inr ⟨_, rfl⟩) Tryd.underlying22 Tryd.underlying22 Tryd.type28 rfl rfl rfl (by decide) rfl rfl (by rw [frows_flen, List.length_map, List.length_take, Nat.min_eq_left (by omega)]) rfl rfl rfl (by show (i + 1) * 48 ≤ _; omega) (by omega) rfl) ?_
  refine zv1 ?_
  refine AWp_regL ?_
  refine zv2 ?_
  refine ⟨i + 1, σ.length + 1, by omega, by omega, by simp, ⟨rfl, rfl, rfl, rfl, rfl, rfl, trivial⟩, closed_own 1 hcl ?_, ?_, ?_⟩
  ·simp [ownLt, AO.cells, AV.ltL, AV.lt, ltL_append]
  ·simp [ltE, AV.lt]; (try omega)
  ·rw [und_take hx, frows_snoc]; exact take_own 1
 ·(try rw [h1]); replace h1 := zcl h1
  have hie : i = l.length := by omega
  subst hie
  rw [List.take_length]
  refine AWp_exit ?_
  refine AWp_seq ?_
  refine AWp_freezeAO 5 0 _ 3 l.length (frows (l.map (und nm))) rfl rfl (frows_el _) (by rw [frows_len, List.length_map]) (by decide) ?_ (by decide)
  refine AWp_regL ?_
  refine zv2 ?_
  refine zrt ?_
  exact ResQ_1 rfl hcl (by simp [AV.lt]) (Ret_of rfl)
end Lg
set_option maxRecDepth 20000
set_option maxHeartbeats 4000000
namespace Lg
open Go Go.Proofs Go.RowKit
variable [GLay] 
theorem rpath_c (f : Bool) (l : List BL) (σ : List AO) (hl : l.length ≤ 2000000) (hx : ∀ x ∈ l, x.length ≤ 1000000) : ACalls Tryd.prog 7 [.sl f 1 (srow l)] σ (Ret (.str (ba (shw l))) σ) := by
 refine ACalls_body Tryd.func7 rfl Tryd.ntmps7 (res1 Tryd.results7) (Nat.le_of_ble_eq_true rfl) (fun hcl hal => ?_)
 have hrl := srow_len l
 refine zw1 ?_
 refine zw1 ?_
 refine AWp_seq ?_
 refine zw1 ?_
 refine AWp_block ?_
 -- loop 0 LIVE 0:param 2:assign 3:assign 4:assign
 refine AWp_loop (ι := Nat) (fun i => i ≤ l.length) (fun i => ⟨[], [(0, .sl f 1 (srow l)), (2, .str ⟨#[]⟩), (3, .str (ba (shw (l.take i)))), (4, .int .i64 (i : Int))]⟩) (fun i => σ) (fun i => l.length - i) (0) (Nat.zero_le _) ?_ rfl (fun i hi => ?_)
 ·exact ⟨rfl, rfl, rfl, rfl, rfl, trivial⟩
 have hsl := shw_len 1000000 (l.take i) (fun x h => hx x (List.mem_of_mem_take h))
 have htl : (l.take i).length ≤ 2000000 := by rw [List.length_take]; omega
 have hsl2 : (shw (l.take i)).length ≤ 2000000 * 2000001 := Nat.le_trans hsl (Nat.mul_le_mul htl (Nat.le_refl _))
 refine AWp_seq ?_
 refine zw4 ?_
 refine AWp_cond rfl (fun h1 => ?_) (fun h1 => ?_)
 ·(try rw [h1]); replace h1 := zcl h1
  obtain ⟨nm, hxi⟩ : ∃ nm, l[i]? = some nm := ⟨_, List.getElem?_eq_getElem (show i < l.length by omega)⟩
  have hxr := srow_get hxi
  have hxl := hx nm (List.mem_of_getElem? hxi)
  have z1 : (ByteArray.mk #[47]).size = 1 := rfl
  have z3 : (ba (shw (l.take i))).size = (shw (l.take i)).length := ba_size _
  refine AWp_skip ?_
  refine AWp_seq ?_
  refine AWp_block ?_
  refine zw3 ?_
  refine zw1 ?_
  refine AWp_block ?_
  -- loop 1 LIVE 0:param 2:assign 3:assign 4:assign 5:assign
  refine AWp_loop (ι := Nat) (fun j => j ≤ nm.length) (fun j => ⟨[], [(0, .sl f 1 (srow l)), (2, .str ⟨#[]⟩), (3, .str (ba (shw (l.take i) ++ 47 :: pesc (nm.take j)))), (4, .int .i64 (i : Int)), (5, .int .i64 (j : Int))]⟩) (fun j => σ) (fun j => nm.length - j) (0) (Nat.zero_le _) ?_ rfl (fun j hj => ?_)
  ·refine ⟨rfl, rfl, rfl, ?_, rfl, rfl, trivial⟩
   rw [show (shw (l.take i) ++ 47 :: pesc (nm.take 0) : BL) = shw (l.take i) ++ [47] by simp [pesc], ← ba_app]; rfl
  refine AWp_seq ?_
  refine zu3 ?_
  refine zt rfl (op_indexAddr rfl Tryd.underlying26 Tryd.sizeOf9 rfl rfl (by omega) (hxr)) ?_
  refine zv3 ?_
  refine AWp_cond rfl (fun h2 => ?_) (fun h2 => ?_)
  ·(try rw [h2]); replace h2 := zcl h2
   have hbn := ba_size nm
   obtain ⟨c, hc⟩ : ∃ c, nm[j]? = some c := ⟨_, List.getElem?_eq_getElem (show j < nm.length by omega)⟩
   have hbc : bat (ba nm) (j : Int).toNat = c := by rw [Int.toNat_natCast, bat_ba, List.getD_eq_getElem?_getD, hc]; rfl
   have hbj : bat (ba nm) j = c := by rw [← hbc, Int.toNat_natCast]
   have he1 := esc_len (nm.take j)
   have htj : (nm.take j).length ≤ 1000000 := by rw [List.length_take]; omega
   have z2 : (ba (shw (l.take i) ++ 47 :: pesc (nm.take j))).size = (shw (l.take i)).length + (pesc (nm.take j)).length + 1 := by rw [ba_size, List.length_append, List.length_cons]; omega
   have z4 : (ByteArray.mk #[126, 48]).size = 2 := rfl
   have z5 : (ByteArray.mk #[126, 49]).size = 2 := rfl
   have z6 : ∀ b : UInt8, (ByteArray.mk #[b]).size = 1 := fun _ => rfl
   refine AWp_skip ?_
   refine AWp_seq ?_
   refine AWp_block ?_
   refine zu2 ?_
   refine zt rfl (op_indexAddr rfl Tryd.underlying26 Tryd.sizeOf9 rfl rfl (by omega) (hxr)) ?_
   refine zv3 ?_
   refine AWp_block ?_
   refine zw2 ?_
   refine AWp_cond rfl (fun h3 => ?_) (fun h3 => ?_)
   ·(try rw [h3]); replace h3 := zcl h3
    have h3 : c = 126 := by rw [hbj] at h3; exact UInt8.toNat_inj.1 (Int.ofNat.inj h3)
    refine AWp_regL ?_
    refine zv3 ?_
    refine AWp_regL ?_
    refine zv3 ?_
    have hes : pesc (nm.take (j + 1)) = pesc (nm.take j) ++ [126, 48] := by rw [ltake_succ hc]; simp [pesc, pesc1, h3]
    refine ⟨j + 1, σ.length, by omega, by omega, Nat.le_refl _, ⟨rfl, rfl, rfl, ?_, rfl, rfl, trivial⟩, hcl, by simp [ltE, AV.lt], List.take_length⟩
    rw [hes, show (shw (l.take i) ++ 47 :: (pesc (nm.take j) ++ [126, 48]) : BL) = (shw (l.take i) ++ 47 :: pesc (nm.take j)) ++ [126, 48] by simp, ← ba_app]; rfl
   ·(try rw [h3]); replace h3 := zcl h3
    have h3 : ¬ c = 126 := fun e => by subst e; rw [hbj] at h3; exact h3 rfl
    refine zw2 ?_
    refine AWp_cond rfl (fun h4 => ?_) (fun h4 => ?_)
    ·(try rw [h4]); replace h4 := zcl h4
     have h4 : c = 47 := by rw [hbj] at h4; exact UInt8.toNat_inj.1 (Int.ofNat.inj h4)
     refine AWp_regL ?_
     refine zv3 ?_
     refine AWp_regL ?_
     refine zv3 ?_
     have hes : pesc (nm.take (j + 1)) = pesc (nm.take j) ++ [126, 49] := by rw [ltake_succ hc]; simp [pesc, pesc1, h3, h4]
     refine ⟨j + 1, σ.length, by omega, by omega, Nat.le_refl _, ⟨rfl, rfl, rfl, ?_, rfl, rfl, trivial⟩, hcl, by simp [ltE, AV.lt], List.take_length⟩
     rw [hes, show (shw (l.take i) ++ 47 :: (pesc (nm.take j) ++ [126, 49]) : BL) = (shw (l.take i) ++ 47 :: pesc (nm.take j)) ++ [126, 49] by simp, ← ba_app]; rfl
    ·(try rw [h4]); replace h4 := zcl h4
     have h4 : ¬ c = 47 := fun e => by subst e; rw [hbj] at h4; exact h4 rfl
     refine AWp_regL ?_
     refine zg3 ?_
     refine zt rfl (op_indexAddr rfl Tryd.underlying26 Tryd.sizeOf9 rfl rfl (by omega) (hxr)) ?_
     refine zg3 ?_
     refine zt rfl (op_buildSlice [[_]] rfl Tryd.underlying34 Tryd.sizeOf5 Tryd.zeroValue5 rfl (by decide) (by decide) rfl rfl rfl rfl rfl) ?_
     refine zt rfl (op_bytesStr (b := ⟨#[bat (ba nm) (j : Int).toNat]⟩) (m := 1) rfl Tryd.underlying34 Tryd.underlying5 Tryd.underlying9 rfl rfl rfl) ?_
     rw [hbc]
     have z7 := z6 c
     refine zv2 ?_
     refine AWp_regL ?_
     refine zv3 ?_
     have hes : pesc (nm.take (j + 1)) = pesc (nm.take j) ++ [c] := by rw [ltake_succ hc]; simp [pesc, pesc1, h3, h4]
     refine ⟨j + 1, σ.length, by omega, by omega, Nat.le_refl _, ⟨rfl, rfl, rfl, ?_, rfl, rfl, trivial⟩, hcl, by simp [ltE, AV.lt], List.take_length⟩
     rw [hes, show (shw (l.take i) ++ 47 :: (pesc (nm.take j) ++ [c]) : BL) = (shw (l.take i) ++ 47 :: pesc (nm.take j)) ++ [c] by simp, ← ba_app]; rfl
  ·(try rw [h2]); replace h2 := zcl h2
   have hbn := ba_size nm
   have hje : j = nm.length := by omega
   subst hje
   rw [List.take_length]
   refine AWp_exit ?_
   refine AWp_regL ?_
   refine zv3 ?_
   refine ⟨i + 1, σ.length, by omega, by omega, Nat.le_refl _, ⟨rfl, rfl, rfl, ?_, rfl, trivial⟩, hcl, by simp [ltE, AV.lt], List.take_length⟩
   rw [ltake_succ hxi, shw_snoc]; rfl
 ·(try rw [h1]); replace h1 := zcl h1
  have hie : i = l.length := by omega
  subst hie
  rw [List.take_length]
  refine AWp_exit ?_
  refine zw2 ?_
  refine zrt ?_
  exact ResQ_10 rfl hcl trivial (Ret_of rfl)
end Lg
set_option maxRecDepth 20000
set_option maxHeartbeats 4000000
namespace Lg
open Go Go.Proofs Go.RowKit
variable [GLay] 

end Lg
set_option maxRecDepth 20000
set_option maxHeartbeats 4000000
namespace Lg
open Go Go.Proofs Go.RowKit
variable [GLay] [ML]
def ft0 : FT := (⟨#[]⟩, ⟨#[]⟩, ⟨#[116, 121, 112, 101]⟩)
def ft1 : FT := (⟨#[47, 97]⟩, ⟨#[]⟩, ⟨#[116, 121, 112, 101]⟩)
def ftz : FT := (⟨#[]⟩, ⟨#[]⟩, ⟨#[]⟩)
theorem up13_1 : [ft0].map (und ⟨#[97]⟩) = [ft1] := by
  have h : pth ⟨#[97]⟩ ++ (⟨#[]⟩ : ByteArray) = ⟨#[47, 97]⟩ := by decide +kernel
  simp only [List.map_cons, List.map_nil, und, ft0, ft1, h]
theorem up13_2 (x : FT) : fs [x, x] = [x] := by
  rw [fs_rsort]; simp [rsort, fins, flt_irr]
theorem up13_c (σ : List AO) : ACalls Tryd.prog 5 [] σ (Ret (.bool true) σ) := by
 refine ACalls_body Tryd.func5 rfl Tryd.ntmps5 (res1 Tryd.results5) (Nat.le_of_ble_eq_true rfl) (fun hcl hal => ?_)
 refine zw1 ?_
 refine zu1 ?_
 refine zt rfl (op_buildSlice [[_, _, _]] rfl Tryd.underlying22 Tryd.sizeOf28 Tryd.zeroValue28 rfl (by decide) (by decide) rfl rfl rfl rfl rfl) ?_
 refine zt rfl (zc rfl (funder_c ⟨#[97]⟩ true [ft0] _ (by decide) (by decide) (by intro x hx; rw [List.mem_singleton.1 hx]; decide))) ?_
 refine zv1 ?_
 refine zu2 ?_
 refine zt rfl (op_buildSlice [[_, _, _]] rfl Tryd.underlying22 Tryd.sizeOf28 Tryd.zeroValue28 rfl (by decide) (by decide) rfl rfl rfl rfl rfl) ?_
 refine zt rfl (zc rfl (faults_c false true ([ft0].map (und ⟨#[97]⟩)) [ft1] _ (by decide) (by decide))) ?_
 rw [pb_t up13_1]
 refine zt rfl (op_eqlT rfl rfl rfl rfl) ?_
 refine zg3 ?_
 refine ztG rfl rfl (op_buildSlice [[_, _, _], [_, _, _]] rfl Tryd.underlying22 Tryd.sizeOf28 Tryd.zeroValue28 rfl (by decide) (by decide) rfl rfl rfl rfl rfl) ?_
 refine ztG rfl rfl (zc rfl (fsort_c true [ftz, ftz] _ (by decide))) ?_
 rw [up13_2]
 refine zg1 ?_
 refine ztG rfl rfl (op_eqlT rfl rfl rfl rfl) ?_
 refine zv2 ?_
 refine zrt ?_
 exact ResQ_10 rfl hcl trivial (Ret_of rfl)
end Lg
