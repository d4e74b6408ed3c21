/- A part of the proof of No two nodes of a compiled schema have one Path; kids' numbers are above, each but the first once; at each Path stands what the node is of.. -/
import Derived.Test.YtpcjccmmeaaeaaaGreatDoorS1
import Derived.Test.YtpcjccmmeaaeaaaGreatDoorS2
import Derived.Test.YtpcjccmmeaaeaaaGreatDoorS3
import Derived.Test.YtpcjccmmeaaeaaaGreatDoorS4
import Derived.Test.YtpcjccmmeaaeaaaGreatDoorS5
import Derived.Test.YtpcjccmmeaaeaaaGreatDoorS6
import Derived.Test.YtpcjccmmeaaeaaaGreatDoorS7
import Derived.Test.YtpcjccmmeaaeaaaGreatDoorS8
import Derived.Test.YtpcjccmmeaaeaaaGreatDoorS9
import Derived.Test.YtpcjccmmeaaeaaaGreatDoorS10
import Derived.Lib.ValidLaws
import Derived.Lib.Atoi
import Derived.SizedLaws
import Derived.LaidHandle
import Derived.Test.YtpcjccmmeaaeaaaGreatDoorTie
import Derived.Test.YtpcjccmmeaaeaaaGreatDoorCards
import Derived.SevenTiedAt
set_option linter.unusedVariables false
set_option linter.unusedSimpArgs false
set_option linter.unusedSectionVars false
namespace Lg
open Go Go.RowKit
variable [GLay]

section steps
variable {P : Program} {N : Nat} {e : Env} {σ : List AO} {Q : QA} {ops : Array Oper} {o : Oper}

section
variable {D : List (FuncId × List AV)} {l : List (Nat × AV)}
variable {tb : Array Nat} {QR : Env → List AO → Prop} {X : AV → List AO → Prop} {i : Nat} {past : List (Nat × List AO)} {held : List (Nat × (List AO → Prop))}
end
section ints
variable {T T' : TypeId} {x y : Operand} {k : IntKind} {a b : Int}
theorem op_leqF (ho : o.op = .binOp .leq T x y T') (hx : opv e x = .int k a) (hy : opv e y = .int k b) (h : ¬ a ≤ b) : AOp P σ e o (.bool false) σ := by
  have := op_leq (P := P) (σ := σ) ho hx hy; rwa [decide_eq_false h] at this
theorem op_gtrT (ho : o.op = .binOp .gtr T x y T') (hx : opv e x = .int k a) (hy : opv e y = .int k b) (h : b < a) : AOp P σ e o (.bool true) σ := by
  have := op_gtr (P := P) (σ := σ) ho hx hy; rwa [decide_eq_true h] at this
theorem op_geqF (ho : o.op = .binOp .geq T x y T') (hx : opv e x = .int k a) (hy : opv e y = .int k b) (h : ¬ b ≤ a) : AOp P σ e o (.bool false) σ := by
  have := op_geq (P := P) (σ := σ) ho hx hy; rwa [decide_eq_false h] at this
theorem op_eqlF (ho : o.op = .binOp .eql T x y T') (hx : opv e x = .int k a) (hy : opv e y = .int k b) (h : ¬ a = b) : AOp P σ e o (.bool false) σ := by
  have := op_eql (P := P) (σ := σ) ho hx hy; rwa [decide_eq_false h] at this
end ints
section strs
variable {T T' : TypeId} {x y : Operand} {a b : ByteArray}
end strs

end steps
end Lg
namespace Lg
open Go Go.RowKit
variable [GLay]
variable {P : Program} {σ : List AO} {e : Env} {o : Oper}
theorem zd30 {G R : Prop} (k : R) (h : Hid R → G := by
  intro kk
  iterate 30 (first | refine yS rfl rfl rfl ?_ | refine yAG rfl rfl rfl (fun _ => zoa) ?_ | refine yA rfl rfl (fun _ => zoa) ?_)
  exact kk.h) : G := h ⟨k⟩
end Lg
namespace Lg
open Go Go.Lib

theorem decode_bat (s : ByteArray) (a : Nat) : decodeL (s.data.toList.drop a) = decodeN (s.size - a) (bat s a).toNat (bat s (a + 1)).toNat (bat s (a + 2)).toNat (bat s (a + 3)).toNat := by
  have hg : ∀ k, (s.data.toList.drop a).getD k 0 = bat s (a + k) := fun k => by simp [bat, List.getD, List.getElem?_drop]
  rw [decodeL_N, hg, hg, hg, hg, List.length_drop, Array.length_toList]; rfl
def utfFrom (s : ByteArray) (a : Nat) : Bool := validD (s.data.toList.drop a)
theorem utfFrom_end {s : ByteArray} {a : Nat} (h : s.size ≤ a) : utfFrom s a = true := by
  have : s.data.toList.drop a = [] := List.drop_eq_nil_of_le (by rw [Array.length_toList]; exact h)
  rw [utfFrom, this]; rfl
theorem utfFrom_step {s : ByteArray} {a : Nat} (h : a < s.size) : utfFrom s a = if u8 s a = 0 then false else utfFrom s (a + u8 s a) := by
  have hne : s.data.toList.drop a ≠ [] := by
    intro e
    have := congrArg List.length e
    rw [List.length_drop, Array.length_toList] at this
    have h' : a < s.data.size := h
    simp at this; omega
  unfold utfFrom
  rw [validD_step _ hne, decode_bat]
  have hw := decodeL_width (s.data.toList.drop a)
  rw [decode_bat] at hw
  unfold u8 u8N
  by_cases hc : (decodeN (s.size - a) (bat s a).toNat (bat s (a + 1)).toNat (bat s (a + 2)).toNat (bat s (a + 3)).toNat).1 = 65533 ∧ (decodeN (s.size - a) (bat s a).toNat (bat s (a + 1)).toNat (bat s (a + 2)).toNat (bat s (a + 3)).toNat).2 = 1
  · rw [if_pos hc, if_pos hc, if_pos rfl]
  · rw [if_neg hc, if_neg hc, if_neg (by omega), List.drop_drop]
end Lg
namespace Lg
open Go
end Lg
namespace Lg
open Go
theorem aD_cons {b : UInt8} {l : BL} (h : aD (b :: l)) : (48 ≤ b.toNat ∧ b.toNat ≤ 57) ∧ aD l := ⟨(isD_iff b).1 (h b (List.mem_cons_self ..)), fun c hc => h c (List.mem_cons_of_mem _ hc)⟩
end Lg
namespace Lg
open Go Go.RowKit
variable [GLay] {P : Program} {σ : List AO} {e : Env} {o : Oper}
section ifaces
variable {T T' U : TypeId} {x y : Operand} {ms : Array (String × TypeId)} {k k' : IntKind}
end ifaces
section more
variable {T T' : TypeId} {x y : Operand}
theorem op_bneqS {a : Bool} (ho : o.op = .binOp .neq T x y T') (hu : P.underlying T = some .bool) (hx : opv e x = .bool a) (hy : opv e y = .bool a) : AOp P σ e o (.bool false) σ := by
  have := op_bneq (P := P) (σ := σ) ho hu hx hy
  rwa [bne_self_eq_false] at this
end more
end Lg
namespace Lg
open Go
variable [GLay]
section
variable {rv : RS → JV × RS} {s : ByteArray} (hs : s.size ≤ 100000) (hrv : ∀ r, ROK s r → VR s r (rv r))
include hrv
include hs
include hs
end
noncomputable def rValue (s : ByteArray) : JV × Int := if 2000 < s.size then (vz, 0) else if (rParse s).2.1 = 0 then ((rParse s).1, 1) else (vz, 0)
theorem rValue_ok (s : ByteArray) : (rValue s).2 = 0 ∧ (rValue s).1 = vz ∨ (rValue s).2 = 1 ∧ jmay (rValue s).1 ∧ jb (rValue s).1 ∧ jsize (rValue s).1 ≤ 2002 := by
  unfold rValue
  split
  · exact .inl ⟨rfl, rfl⟩
  split
  · rename_i h1 h2
    have := rParse_ok s h2
    exact .inr ⟨rfl, this.1, this.2.1, by have := this.2.2.1; dsimp only; omega⟩
  · exact .inl ⟨rfl, rfl⟩
end Lg
namespace Lg
open Go Go.RowKit
section
variable [GLay] {P : Program} {N : Nat} {σ l : List AO} {e : Env} {Q : QA} {o : Oper}
end
theorem srow_el (l : List BL) : ∀ r ∈ srow l, r.length = 1 := by
  intro r hr; simp [srow] at hr; obtain ⟨x, _, rfl⟩ := hr; rfl
theorem pE_at {s : BL} (h0 : ¬ s = []) (h1 : s[0]? = some 47) {i : Nat} (hi : i < s.length) (h : tbad s i = true) (hb : ∀ j, j < i → tbad s j = false) : pE s = some i := by
  unfold pE; rw [if_neg h0, if_neg (by simp [h1])]
  exact List.find?_range_eq_some.2 ⟨h, List.mem_range.2 hi, fun j hj => by simp [hb j hj]⟩
end Lg
namespace Lg
open Go
theorem get_is {s : BL} {i : Nat} {c : UInt8} (hi : i < s.length) : s[i]? = some c ↔ ((bat (ba s) i).toNat : Int) = c.toNat := by
  rw [bat_ba, List.getElem?_eq_getElem hi, List.getD_eq_getElem?_getD, List.getElem?_eq_getElem hi]
  simp only [Option.getD_some, Option.some.injEq]
  constructor
  · intro h; rw [h]
  · intro h; exact UInt8.toNat_inj.1 (by omega)
theorem g126 {s : BL} {i : Nat} (hi : i < s.length) : s[i]? = some 126 ↔ ((bat (ba s) i).toNat : Int) = 126 := get_is (c := 126) hi
theorem g48 {s : BL} {i : Nat} (hi : i < s.length) : s[i]? = some 48 ↔ ((bat (ba s) i).toNat : Int) = 48 := get_is (c := 48) hi
theorem g49 {s : BL} {i : Nat} (hi : i < s.length) : s[i]? = some 49 ↔ ((bat (ba s) i).toNat : Int) = 49 := get_is (c := 49) hi
theorem g47 {s : BL} {i : Nat} (hi : i < s.length) : s[i]? = some 47 ↔ ((bat (ba s) i).toNat : Int) = 47 := get_is (c := 47) hi
theorem tbad_t {s : BL} {i : Nat} (hi : i < s.length) (h : ((bat (ba s) i).toNat : Int) = 126) (h2 : i + 1 = s.length ∨ (¬ ((bat (ba s) (i + 1)).toNat : Int) = 48 ∧ ¬ ((bat (ba s) (i + 1)).toNat : Int) = 49)) : tbad s i = true := by
  unfold tbad
  rw [decide_eq_true ((g126 hi).2 h), Bool.true_and]
  by_cases hl : i + 1 < s.length
  · obtain ⟨h3, h4⟩ := h2.resolve_left (by omega)
    rw [decide_eq_false (fun e => h3 ((g48 hl).1 e)), decide_eq_false (fun e => h4 ((g49 hl).1 e))]; rfl
  · rw [List.getElem?_eq_none (by omega)]; rfl
end Lg
namespace Lg
open Go Go.RowKit
variable [GLay] {P : Program} {N : Nat} {σ l : List AO} {e : Env} {Q : QA} {o : Oper}
theorem ldv_el {j g sz off i : Nat} {cs : List AV} {v : AV} (hl : l[j]? = some (.arr sz g cs)) (hv : cs[i]? = some v) (ho : off = i) : ldv (σ ++ l) 1 (.pel (σ.length + j) g off) = some [v] := by
  subst ho
  simp only [ldv, get_own, hl, if_true]
  have hi := (List.getElem?_eq_some_iff.1 hv).1
  rw [List.drop_eq_getElem_cons hi, (List.getElem?_eq_some_iff.1 hv).2]
  rfl
theorem op_storeEl {T : TypeId} {x y : Operand} {j g sz off i : Nat} {cs : List AV} {b : ByteArray} (ho : o.op = .store T x y) (hz : ∀ w, (Go.sizeOf T).run P w = Result.ok 1 w) (hy : opO e y = some (.str b)) (hx : opO e x = some (.pel (σ.length + j) g off)) (hoff : off = i)
    (hl : l[j]? = some (.arr sz g cs)) (hi : i < cs.length) : AOp P (σ ++ l) e o .any (σ ++ l.set j (.arr sz g (cs.set i (.str b)))) := by
  subst hoff
  have e1 := opO_eq hy
  have := op_store (P := P) (σ := σ ++ l) (e := e) (p := σ.length + j) (O := .arr sz g (cs.set off (.str b))) ho hz (by rw [e1]; rfl) (by rw [e1]; rfl) (by
    rw [e1, opO_eq hx]
    show stv (σ ++ l) [.str b] (.pel (σ.length + j) g off) = _
    simp only [stv, get_own, hl, if_true, spl_set _ _ _ hi, Option.map_some]) (by decide)
  rwa [set_own] at this
end Lg
namespace Lg
open Go
end Lg
namespace Lg
open Go
end Lg
namespace Lg
open Go
variable [GLay] {P : Program} {σ : List AO}
end Lg
namespace Lg
open Go
theorem pcs_snoc_c (c : UInt8) : ∀ l : BL, pcs c (l ++ [c]) = pcs c l ++ [[]]
  | [] => by simp [pcs]
  | b :: l => by
    rw [List.cons_append, pcs, pcs, pcs_snoc_c c l]
    split
    · rfl
    · obtain ⟨ps, p, h⟩ := pcs_split c l
      rw [h]
      cases ps with
      | nil => rfl
      | cons q r => rfl
theorem nms_c (u : BL) : nms (u ++ [47]) = nms u ++ [[]] := by
  unfold nms; rw [pcs_snoc_c]; simp [pune]
theorem nms_b {u : BL} {ps : List BL} {p : BL} {b : UInt8} (h : nms u = ps ++ [p]) (hu : okP u) (h7 : ¬ b = 47) (h126 : ¬ b = 126) : nms (u ++ [b]) = ps ++ [p ++ [b]] := by
  obtain ⟨qs, q, hq⟩ := pcs_split 47 u
  have hok := pcs_ok u.length u (Nat.le_refl _) hu q (by rw [hq]; simp)
  unfold nms at h ⊢
  rw [pcs_snoc h7 hq]
  rw [hq, List.map_append] at h
  obtain ⟨h1, h2⟩ := List.append_inj' h rfl
  simp at h2; subst h1; subst h2
  rw [List.map_append, List.map_cons, List.map_nil, pune_app [b] _ q (Nat.le_refl _) hok.1]
  rw [une_c h126]; rfl
theorem okP_snoc {u : BL} {b : UInt8} (h : okP u) (hb : ¬ b = 126) : okP (u ++ [b]) := fun i hi => by
  rcases Nat.lt_trichotomy i u.length with h1 | h1 | h1
  · rw [List.getElem?_append_left h1] at hi
    have := h i hi
    have h2 : i + 1 < u.length := by
      rcases this with h | h <;> exact (List.getElem?_eq_some_iff.1 h).1
    rwa [List.getElem?_append_left h2]
  · subst h1; simp at hi; exact absurd hi hb
  · rw [List.getElem?_append_right (by omega)] at hi
    have : i - u.length = (i - u.length - 1) + 1 := by omega
    rw [this] at hi; simp at hi
theorem PAt.slash {s : BL} {i : Nat} {L : List BL} (p : PAt s i L) (h : s[i]? = some 47) : PAt s (i + 1) (L ++ [[]]) where
  le := (List.getElem?_eq_some_iff.1 h).1
  z := fun e => absurd e (by omega)
  ok := by
    by_cases h0 : i = 0
    · subst h0; rw [List.drop_eq_nil_of_le (by simp [List.length_take]; omega)]; exact okP_nil
    · rw [take_b h (by omega)]; exact okP_snoc p.ok (by decide)
  nm := fun _ => by
    by_cases h0 : i = 0
    · subst h0; rw [p.z rfl, List.drop_eq_nil_of_le (by simp [List.length_take]; omega)]; rfl
    · rw [take_b h (by omega), nms_c, ← p.nm (by omega)]
  bad := fun j hj => by
    by_cases e : j = i
    · subst e; exact tb_no h (by decide)
    · exact p.bad j (by omega)
theorem PAt.byte {s : BL} {i : Nat} {L ps : List BL} {q : BL} {b : UInt8} (p : PAt s i L) (hi : 1 ≤ i) (hL : L = ps ++ [q]) (h : s[i]? = some b) (h7 : ¬ b = 47) (h126 : ¬ b = 126) : PAt s (i + 1) (ps ++ [q ++ [b]]) where
  le := (List.getElem?_eq_some_iff.1 h).1
  z := fun e => absurd e (by omega)
  ok := by rw [take_b h hi]; exact okP_snoc p.ok h126
  nm := fun _ => by rw [take_b h hi]; exact (nms_b ((p.nm hi).symm.trans hL) p.ok h7 h126).symm
  bad := fun j hj => by
    by_cases e : j = i
    · subst e; exact tb_no h h126
    · exact p.bad j (by omega)
end Lg
namespace Lg
open Go
section
variable [GLay]
end
def jfD (v : JV) (key : ByteArray) : JV := (jfind v key).getD vz
def jfB (v : JV) (key : ByteArray) : Bool := (jfind v key).isSome
section
variable [GLay]
end
end Lg
namespace Lg
open Go
def pEi (s : BL) : Int := match pE s with
  | none => -1
  | some i => (i : Int)
theorem pEi_n {s : BL} (h : pE s = none) : pEi s = -1 := by unfold pEi; rw [h]
theorem pEi_s {s : BL} {i : Nat} (h : pE s = some i) : pEi s = i := by unfold pEi; rw [h]
theorem pN_bad {s : BL} {i : Nat} (h0 : ¬ s = []) (h : pE s = some i) : pN s = [] := by unfold pN; rw [if_neg h0, h]; rfl
theorem sflat_len (L : List BL) : (srow L).flatten.length = L.length := by rw [srow_flat, List.length_map]
theorem srow_snoc (L : List BL) (x : BL) : (srow (L ++ [x])).flatten = (srow L).flatten ++ [.str (ba x)] := by rw [srow_flat, srow_flat, List.map_append]; rfl
theorem srow_last (ps : List BL) (q : BL) : (srow (ps ++ [q])).flatten[(ps ++ [q]).length - 1]? = some (.str (ba q)) := by
  rw [srow_snoc, List.length_append]
  rw [List.getElem?_append_right (by rw [sflat_len]; simp), sflat_len]
  simp
theorem srow_setl (ps : List BL) (q r : BL) : (srow (ps ++ [q])).flatten.set ((ps ++ [q]).length - 1) (.str (ba r)) = (srow (ps ++ [r])).flatten := by
  rw [srow_snoc, srow_snoc, List.length_append]
  rw [List.set_append_right _ _ (by rw [sflat_len]; simp), sflat_len]
  simp
end Lg
namespace Lg
open Go
section
variable [GLay]
variable {rv : RS → JV × RS} {s : ByteArray} (hs : s.size ≤ 100000) (hrv : ∀ r, ROK s r → VR s r (rv r)) (hd : ∀ r, ROK s r → DD r (rv r))
include hrv hd
include hs
end
section
variable [GLay]
end
theorem flat_lt {n : Nat} {es : List (List AV)} (h : AV.ltLL n es) : AV.ltL n es.flatten := by
  rw [AV.ltL_iff]; intro a ha
  obtain ⟨e, he, h2⟩ := List.mem_flatten.1 ha
  exact (AV.ltL_iff _ _).1 ((AV.ltLL_iff _ _).1 h e he) a h2
section
variable [GLay]
end
end Lg
namespace Lg
open Go
section
variable [GLay]
theorem jfD_jb {v : JV} {key : ByteArray} (h : jb v) : jb (jfD v key) := by
  unfold jfD
  cases hf : jfind v key with
  | none => exact jb_nil _ _ _ _ (Nat.zero_le _) (Nat.zero_le _)
  | some x =>
    unfold jfind at hf
    split at hf
    · rw [Option.map_eq_some_iff] at hf
      obtain ⟨q, hq, rfl⟩ := hf
      obtain ⟨j, hj⟩ := List.getElem?_of_mem (List.mem_of_find?_eq_some hq)
      exact (mb_get ((jb_eq v).1 h).2.2.2.2.2 hj).2
    · cases hf
end
end Lg
namespace Lg
open Go
theorem valL_nat : ∀ (l : BL) (v : Nat), aD l → Lib.decFrom v l = some (valL v l).toNat ∧ 0 ≤ valL v l ∧ valL v l < ((v : Int) + 1) * 10 ^ l.length
  | [], v, _ => ⟨by simp [Lib.decFrom, valL], by simp [valL], by simp [valL]; omega⟩
  | b :: l, v, h => by
    obtain ⟨hb, hl⟩ := aD_cons h
    have hd : Lib.digitVal b = some (b.toNat - 48) := by unfold Lib.digitVal; rw [if_pos hb]
    have hv : valL v (b :: l) = valL ((v * 10 + (b.toNat - 48) : Nat) : Int) l := by
      show valL (10 * (v : Int) + (b.toNat : Int) - 48) l = _
      congr 1; omega
    obtain ⟨h1, h2, h3⟩ := valL_nat l (v * 10 + (b.toNat - 48)) hl
    rw [hv]
    refine ⟨?_, h2, ?_⟩
    · simp only [Lib.decFrom, hd]; exact h1
    · refine Int.lt_of_lt_of_le h3 ?_
      rw [List.length_cons, Int.pow_succ, Int.mul_comm (10 ^ l.length) 10, ← Int.mul_assoc]
      exact Int.mul_le_mul_of_nonneg_right (by omega) (Int.pow_nonneg (by omega))
end Lg
namespace Lg
open Go
def jidx (nm : BL) (n : Nat) (e : Bool) : Option Nat :=
  if e = true ∧ nm = [45] then some n else
  if jixB nm then none else
  if valL 0 nm < n ∨ (valL 0 nm = n ∧ e = true) then some (valL 0 nm).toNat else none
def jixN (nm : BL) (n : Nat) (e : Bool) : Int := (jidx nm n e).elim 0 (fun k => (k : Int))
def jixO (nm : BL) (n : Nat) (e : Bool) : Bool := (jidx nm n e).isSome
theorem jix_minus {nm : BL} {n : Nat} {e : Bool} (h1 : e = true) (h2 : nm = [45]) : jixN nm n e = n ∧ jixO nm n e = true := by
  unfold jixN jixO jidx; rw [if_pos ⟨h1, h2⟩]; exact ⟨rfl, rfl⟩
theorem jix_bad {nm : BL} {n : Nat} {e : Bool} (h : ¬ (e = true ∧ nm = [45])) (hb : jixB nm) : jixN nm n e = 0 ∧ jixO nm n e = false := by
  unfold jixN jixO jidx; rw [if_neg h, if_pos hb]; exact ⟨rfl, rfl⟩
theorem jix_val {nm : BL} {n : Nat} {e : Bool} (h : ¬ (e = true ∧ nm = [45])) (hb : ¬ jixB nm) (h0 : 0 ≤ valL 0 nm) (hv : valL 0 nm < n ∨ (valL 0 nm = n ∧ e = true)) : jixN nm n e = valL 0 nm ∧ jixO nm n e = true := by
  unfold jixN jixO jidx; rw [if_neg h, if_neg hb, if_pos hv]; exact ⟨Int.toNat_of_nonneg h0, rfl⟩
theorem jix_big {nm : BL} {n : Nat} {e : Bool} (h : ¬ (e = true ∧ nm = [45])) (hb : ¬ jixB nm) (hv : ¬ (valL 0 nm < n ∨ (valL 0 nm = n ∧ e = true))) : jixN nm n e = 0 ∧ jixO nm n e = false := by
  unfold jixN jixO jidx; rw [if_neg h, if_neg hb, if_neg hv]; exact ⟨rfl, rfl⟩
theorem jixB_aD {nm : BL} (h : ¬ jixB nm) : aD nm ∧ 0 < nm.length ∧ nm.length ≤ 18 := by
  unfold jixB at h
  have h1 : runl (ba nm) 0 = nm.length := Classical.byContradiction fun x => h (.inr (.inl x))
  rw [runl_ba] at h1
  refine ⟨aD_of_len h1, ?_, Nat.le_of_not_lt fun x => h (.inr (.inr (.inr x)))⟩
  have h2 : nm ≠ [] := fun x => h (.inl x)
  exact List.length_pos_iff.2 h2
theorem valL_bd {l : BL} (h : aD l) : 0 ≤ valL 0 l ∧ valL 0 l < 10 ^ l.length := by
  have := valL_nat l 0 h
  exact ⟨this.2.1, by have h2 := this.2.2; simpa using h2⟩
theorem jidx_le {nm : BL} {n k : Nat} {e : Bool} (h : jidx nm n e = some k) : k ≤ n ∧ (e = false → k < n) := by
  unfold jidx at h
  split at h
  · rename_i h1; cases h; exact ⟨Nat.le_refl _, fun h => by rw [h1.1] at h; cases h⟩
  · split at h
    · cases h
    · rename_i hb0
      have h0 := (valL_bd (jixB_aD hb0).1).1
      split at h
      · rename_i h1
        cases h
        rcases h1 with h1 | ⟨h1, h2⟩
        · exact ⟨by omega, fun _ => by omega⟩
        · exact ⟨by omega, fun h => by rw [h2] at h; cases h⟩
      · cases h
theorem valL_take {l : BL} (h : aD l) (h18 : l.length ≤ 18) {i : Nat} (hi : i < l.length) : 0 ≤ valL 0 (l.take i) ∧ valL 0 (l.take i) < 100000000000000000 := by
  have ha : aD (l.take i) := fun b hb => h b (List.mem_of_mem_take hb)
  have h1 := valL_bd ha
  refine ⟨h1.1, Int.lt_of_lt_of_le h1.2 ?_⟩
  have h2 : (l.take i).length ≤ 17 := by rw [List.length_take]; omega
  have h3 : (10 : Nat) ^ (l.take i).length ≤ 10 ^ 17 := Nat.pow_le_pow_right (by decide) h2
  have h4 : ((10 : Nat) ^ (l.take i).length : Int) ≤ ((10 ^ 17 : Nat) : Int) := by exact_mod_cast h3
  exact h4
theorem valL_step {l : BL} {i : Nat} {c : UInt8} (h : l[i]? = some c) : valL 0 (l.take (i + 1)) = 10 * valL 0 (l.take i) + (c.toNat : Int) - 48 := by
  rw [ltake_succ h, valL_snoc]
end Lg
namespace Lg
open Go
variable {op : Int} {x v : JV} {nm : BL} {r : List BL}
variable {last : Bool} {k : Nat}
section
variable {y a : JV} {l : List JV} {i : Nat}
end
theorem srow_tail (nm : BL) (r : List BL) : ((srow (nm :: r)).drop 1).take ((srow (nm :: r)).length - 1) = srow r := by
  simp only [srow, List.map_cons, List.drop_succ_cons, List.drop_zero, List.length_cons, Nat.add_sub_cancel]; rw [List.take_of_length_le (Nat.le_refl _)]
end Lg
namespace Lg
end Lg
namespace Lg
open Go
def jget : List BL → JV → JV × Bool
  | [], v => (v, true)
  | nm :: r, v => if v.kind = 4 then (if jixO nm v.l.length false = true then jget r (v.l.getD (jixN nm v.l.length false).toNat vz) else (vz, false)) else
    if jfB v (ba nm) = true then jget r (jfD v (ba nm)) else (vz, false)
theorem jget_no4 {nm : BL} {r : List BL} {v : JV} (h4 : v.kind = 4) (h : jixO nm v.l.length false = false) : jget (nm :: r) v = (vz, false) := by rw [jget, if_pos h4, if_neg (by simp [h])]
theorem jget_4 {nm : BL} {r : List BL} {v a : JV} {k : Nat} (h4 : v.kind = 4) (h : jixO nm v.l.length false = true) (hk : jixN nm v.l.length false = k) (ha : v.l[k]? = some a) : jget (nm :: r) v = jget r a := by
  have e : v.l.getD (jixN nm v.l.length false).toNat vz = a := by rw [hk, Int.toNat_natCast, List.getD_eq_getElem?_getD, ha]; rfl
  rw [jget, if_pos h4, if_pos h, e]
theorem jget_no5 {nm : BL} {r : List BL} {v : JV} (h4 : ¬ v.kind = 4) (h : jfB v (ba nm) = false) : jget (nm :: r) v = (vz, false) := by rw [jget, if_neg h4, if_neg (by simp [h])]
theorem jget_5 {nm : BL} {r : List BL} {v : JV} (h4 : ¬ v.kind = 4) (h : jfB v (ba nm) = true) : jget (nm :: r) v = jget r (jfD v (ba nm)) := by rw [jget, if_neg h4, if_pos h]
theorem jix_nat {nm : BL} {n : Nat} (h : jixO nm n false = true) : ∃ k : Nat, jixN nm n false = k ∧ k < n := by
  unfold jixO jixN at *
  cases h1 : jidx nm n false with
  | none => rw [h1] at h; cases h
  | some k => exact ⟨k, rfl, (jidx_le h1).2 rfl⟩
end Lg
namespace Lg
open Go Go.RowKit
variable [GLay]
section
variable {P : Program} {N : Nat} {σ l : List AO} {e : Env} {o : Oper}
theorem run_makeSlice1 {T E : TypeId} {i : TypeInfo} {n : Nat} {z c : Value} {w : World} (hu : P.underlying T = some (.slice E)) (hi : P.info? E = some i) (hz : i.zero = some z) (hsz : i.size = 1) (hzc : z.cells = #[c]) (hpos : 0 < n) (hn : n ≤ 1000000000) (hby : i.bytes ≤ 100) :
    (Instr.makeSlice T (.int .i64 (n : Int)) (.int .i64 (n : Int))).run P w = .ok (.slice (some ⟨w.heap.size, 0, none⟩) n n) (w.alloc (.cells (List.replicate n c).toArray E (0, 0))) := by
  have hw : (IntKind.i64.wrap (n : Int)) = (n : Int) := wrap64_in (by omega) (by omega)
  have hmul : i.bytes * n ≤ 100 * n := Nat.mul_le_mul_right _ hby
  have h3 : ¬ ((i.bytes : Int) * (n : Int) > 2 ^ 48) := by
    have : ((i.bytes * n : Nat) : Int) ≤ 100 * (n : Int) := by exact_mod_cast hmul
    rw [Int.natCast_mul] at this
    omega
  have h5 : ¬ n = 0 := by omega
  have g1 : ¬ ((n : Int) < 0) := by omega
  simp [Instr.makeSlice, run_underlying hu, asInt, asIntOf, typeInfo, hi, hw, Go.sizeOf, zeroValue, hz, hsz, hzc, askRoom, h5, g1, newRow, newObj, Sem.run]
  rw [if_neg (by omega)]
  have h7 : Array.map (fun x => ([c] : List Value)[x % 1]?.getD default) (Array.range n) = Array.replicate n c := by
    apply Array.ext
    · simp
    · intro j h1 h2; simp [Nat.mod_one]
  rw [h7]
theorem op_makeSlice1 {T E : TypeId} {x y : Operand} {i : TypeInfo} {n : Nat} {z c : Value} {b : AV} (ho : o.op = .makeSlice T x y) (hu : P.underlying T = some (.slice E)) (hi : P.info? E = some i) (hz : i.zero = some z) (hsz : i.size = 1) (hzc : z.cells = #[c]) (hb : ∀ s, V s b c)
    (hx : opv e x = .int .i64 (n : Int)) (hy : opv e y = .int .i64 (n : Int)) (hpos : 0 < n) (hn : n ≤ 1000000000) (hby : i.bytes ≤ 100) : AOp P σ e o (.arr σ.length 0 1 0 n) (σ ++ [.arr 1 0 (List.replicate n b)]) := by
  intro s a hs g hv K Q hk _
  subst hs
  have e1 : a.eval x = .int .i64 (n : Int) := by
    have h := hv x (by simp [ho, Op.operands]); rw [hx] at h; exact h.inv_int
  have e2 : a.eval y = .int .i64 (n : Int) := by
    have h := hv y (by simp [ho, Op.operands]); rw [hy] at h; exact h.inv_int
  have hpw : PW s (List.replicate n b) (List.replicate n c) := by
    refine ⟨by simp, fun i cc v h1 h2 => ?_⟩
    rw [List.getElem?_replicate] at h1 h2
    split at h1
    · cases h1
      rw [if_pos (by assumption)] at h2
      cases h2; exact hb s
    · cases h1
  obtain ⟨s', f1, f2, g', x', hμ⟩ := g.newArr (sz := 1) (cs := List.replicate n b) (vs := List.replicate n c) (by simpa using hpw) (by simp) E (Below.refl _ _) rfl
  have hw : (IntKind.i64.wrap (n : Int)) = (n : Int) := wrap64_in (by omega) (by omega)
  have hmul : i.bytes * n ≤ 100 * n := Nat.mul_le_mul_right _ hby
  refine wp_value (w' := s'.w) ?_ (hk _ (.slice (some ⟨s.w.heap.size, 0, none⟩) n n) s' ⟨rfl, f1⟩ g' x' ?_)
  · rw [f2]
    simp only [execOp, ho, e1, e2]
    rw [Sem.run_bind, run_makeSlice1 hu hi hz hsz hzc hpos hn hby]
    rfl
  · refine V.newArr (cs := List.replicate n b) (by rw [f1]; simp) hμ (Nat.le_refl _) (by simp)
theorem op_makeSlice1T {k : Nat} (hk : l.length = k) {T E : TypeId} {x y : Operand} {i : TypeInfo} {n : Nat} {z c : Value} {b : AV} (ho : o.op = .makeSlice T x y) (hu : P.underlying T = some (.slice E)) (hi : P.info? E = some i) (hz : i.zero = some z) (hsz : i.size = 1) (hzc : z.cells = #[c]) (hb : ∀ s, V s b c)
    (hx : opv e x = .int .i64 (n : Int)) (hy : opv e y = .int .i64 (n : Int)) (hpos : 0 < n) (hn : n ≤ 1000000000) (hby : i.bytes ≤ 100) : AOp P (σ ++ l) e o (.arr (σ.length + k) 0 1 0 n) (σ ++ (l ++ [.arr 1 0 (List.replicate n b)])) := by
  have := op_makeSlice1 (σ := σ ++ l) ho hu hi hz hsz hzc hb hx hy hpos hn hby
  rwa [List.length_append, hk, List.append_assoc] at this
end
end Lg
namespace Lg
open Go
section
variable [GLay]
def hdr (n : JNode) (K : AV) : List AV := [.str n.path, .bool n.all, .bool n.pass, K]
end
end Lg
set_option maxRecDepth 20000
set_option maxHeartbeats 4000000
namespace Lg
open Go Go.Proofs Go.RowKit
variable [GLay] 
theorem text_c (s : ByteArray) (σ : List AO) (hs : s.size ≤ 140737488355328) : ACalls Tryz.prog 40 [.str s] σ (Ret (.bool (pb (Utf s))) σ) := by
 refine ACalls_body Tryz.func40 rfl Tryz.ntmps40 (res1 Tryz.results40) (Nat.le_of_ble_eq_true rfl) (fun hcl hal => ?_)
 have hU : utfFrom s 0 = Go.Lib.validD s.data.toList := rfl
 refine zw1 ?_
 refine AWp_seq ?_
 refine zw1 ?_
 refine AWp_block ?_
 -- loop 0 LIVE 0:param 2:assign 3:assign
 refine AWp_loop (ι := Nat) (fun i => i ≤ s.size ∧ utfFrom s i = utfFrom s 0) (fun i => ⟨[], [(0, .str s), (3, .int .i64 (i : Int))]⟩) (fun i => σ) (fun i => s.size - i) (0) (⟨Nat.zero_le _, rfl⟩) ?_ rfl (fun i hi => ?_)
 ·exact ⟨rfl, rfl, rfl, trivial⟩
 obtain ⟨hi1, hi2⟩ := hi
 refine AWp_seq ?_
 refine zw4 ?_
 refine AWp_cond rfl (fun h1 => ?_) (fun h1 => ?_)
 ·(try rw [h1]); replace h1 := zcl h1
  have hst := utfFrom_step (s := s) (a := i) (by omega)
  have hle := u8_le (s := s) (a := i) (by omega)
  refine AWp_skip ?_
  refine AWp_block ?_
  refine zu2 ?_
  refine zt rfl (zc rfl (utf8_c s _ _ (by omega) (by omega) (by omega))) ?_
  simp only [Int.toNat_natCast]
  refine zv1 ?_
  refine AWp_seq ?_
  refine zw2 ?_
  refine AWp_cond rfl (fun h2 => ?_) (fun h2 => ?_)
  ·(try rw [h2]); replace h2 := zcl h2
   refine zw1 ?_
   refine zrt ?_
   refine ResQ_10 rfl hcl trivial (Ret_of (bool_f ?_))
   rw [if_pos (by omega)] at hst
   unfold Utf; rw [← hU, ← hi2, hst]; decide
  ·(try rw [h2]); replace h2 := zcl h2
   refine AWp_skip ?_
   refine AWp_regL ?_
   refine zv4 ?_
   have hn : u8 s i ≠ 0 := by omega
   rw [if_neg hn] at hst
   refine ⟨i + u8 s i, σ.length, ⟨u8_le (by omega), by rw [← hi2, hst]⟩, by omega, Nat.le_refl _, ⟨rfl, rfl, ?_, trivial⟩, hcl, ?_, List.take_length⟩
   ·rw [Int.natCast_add]; rfl
   ·simp [ltE, AV.lt]
 ·(try rw [h1]); replace h1 := zcl h1
  have hend := utfFrom_end (s := s) (a := i) (by omega)
  refine AWp_exit ?_
  refine zw1 ?_
  refine zrt ?_
  exact ResQ_10 rfl hcl trivial (Ret_of (bool_t (by unfold Utf; rw [← hU, ← hi2, hend])))
end Lg
set_option maxRecDepth 20000
set_option maxHeartbeats 4000000
namespace Lg
open Go Go.Proofs Go.RowKit
variable [GLay] 
theorem value_c (s : ByteArray) (σ : List AO) : ACalls Tryz.prog 15 [.str s] σ (Ret (.tup [.agg (vcells (rValue s).1), .int .i64 (rValue s).2]) σ) := by
 refine ACalls_bodyC Tryz.func15 rfl Tryz.ntmps15 (by rw [Tryz.results15]; exact (.ck Tryz.isAgg28 Tryz.sizeOf28 (.t .nil))) (Nat.le_of_ble_eq_true rfl) (fun hcl hal => ?_)
 refine zw2 ?_
 refine AWp_seq ?_
 refine zw3 ?_
 refine AWp_cond rfl (fun h1 => ?_) (fun h1 => ?_)
 ·(try rw [h1]); replace h1 := zcl h1
  refine zw3 ?_
  refine AWp_boxLeO 0 (bs' := [.int .i64 vz.kind, .bool vz.b, .bool vz.n.neg, .str vz.n.digits, .int .i64 vz.n.exp, .str vz.s, .sl false 8 (lcells vz.l), .sl false 9 (mcells vz.m)]) rfl ⟨AVle.refl _, AVle.refl _, AVle.refl _, AVle.refl _, AVle.refl _, AVle.refl _, nilL, nilM, trivial⟩ ?_
  refine zrt ?_
  have hE : rValue s = (vz, 0) := by unfold rValue; rw [if_pos (by omega)]
  rw [hE, vcells_eq]; exact RQ_ret (rkvs_cons (rkv_ck rfl rfl rfl) (rkvs_cons (rkv_t rfl) rfl)) hcl (by simp [rks, AV.lt, AV.ltL, ofConst1, ncells]) ⟨rfl, rfl⟩
 ·(try rw [h1]); replace h1 := zcl h1
  refine AWp_skip ?_
  refine zu1 ?_
  refine zt rfl (zc rfl (parse_c s _ (by omega))) ?_
  rw [vcells_eq (rParse s).1]
  refine zv8 ?_
  refine AWp_seq ?_
  refine zw2 ?_
  refine AWp_cond rfl (fun h2 => ?_) (fun h2 => ?_)
  ·(try rw [h2]); replace h2 := zcl h2
   refine zw3 ?_
   refine AWp_boxLeO 0 (bs' := [.int .i64 vz.kind, .bool vz.b, .bool vz.n.neg, .str vz.n.digits, .int .i64 vz.n.exp, .str vz.s, .sl false 8 (lcells vz.l), .sl false 9 (mcells vz.m)]) rfl ⟨AVle.refl _, AVle.refl _, AVle.refl _, AVle.refl _, AVle.refl _, AVle.refl _, nilL, nilM, trivial⟩ ?_
   refine zrt ?_
   have hE : rValue s = (vz, 0) := by unfold rValue; rw [if_neg (by omega), if_neg (by assumption)]
   rw [hE, vcells_eq]; exact RQ_ret (rkvs_cons (rkv_ck rfl rfl rfl) (rkvs_cons (rkv_t rfl) rfl)) hcl (by simp [rks, AV.lt, AV.ltL, ofConst1, ncells]) ⟨rfl, rfl⟩
  ·(try rw [h2]); replace h2 := zcl h2
   refine AWp_skip ?_
   refine zw3 ?_
   refine zrt ?_
   have hE : rValue s = ((rParse s).1, 1) := by unfold rValue; rw [if_neg (by omega), if_pos (by assumption)]
   rw [hE, vcells_eq]; exact RQ_ret (rkvs_cons (rkv_ck rfl rfl rfl) (rkvs_cons (rkv_t rfl) rfl)) hcl (by simp [rks, AV.lt, AV.ltL, ofConst1, ncells]) ⟨rfl, rfl⟩
end Lg
namespace Lg
open Go Go.Lib
theorem u8_hi {s : ByteArray} {a : Nat} (h : a < s.size) (hw : 2 ≤ u8 s a) : ∀ k, k < u8 s a → 128 ≤ (bat s (a + k)).toNat := by
 have hb := (bat s a).toNat_lt
 unfold u8 at hw ⊢
 by_cases h0 : (bat s a).toNat < 128
 ·rw [u8N_1 h0] at hw; omega
 by_cases h1 : (bat s a).toNat < 192 ∨ 248 ≤ (bat s a).toNat
 ·rw [u8N_0 (by omega) hb] at hw; omega
 have hk0 : 128 ≤ (bat s (a + 0)).toNat := by rw [Nat.add_zero]; omega
 by_cases h2 : (bat s a).toNat < 224
 ·rw [u8N_2 (by omega) h2] at hw ⊢
  split at hw
  ·rename_i hc
   rw [if_pos hc]
   intro k hk
   match k, hk with
   | 0, _ => exact hk0
   | 1, _ => exact hc.2.1.1
  ·omega
 by_cases h3 : (bat s a).toNat < 240
 ·rw [u8N_3 (by omega) h3 rfl] at hw ⊢
  split at hw
  ·rename_i hc
   rw [if_pos hc]
   intro k hk
   match k, hk with
   | 0, _ => exact hk0
   | 1, _ => exact hc.2.1.1
   | 2, _ => exact hc.2.2.1.1
  ·omega
 ·rw [u8N_4 (by omega) (by omega) rfl] at hw ⊢
  split at hw
  ·rename_i hc
   rw [if_pos hc]
   intro k hk
   match k, hk with
   | 0, _ => exact hk0
   | 1, _ => exact hc.2.1.1
   | 2, _ => exact hc.2.2.1.1
   | 3, _ => exact hc.2.2.2.1.1
  ·omega
theorem pesc_app (a b : BL) : pesc (a ++ b) = pesc a ++ pesc b := by simp [pesc]
theorem pesc_hi {l : BL} (h : ∀ b ∈ l, 128 ≤ b.toNat) : pesc l = l := by
 induction l with
 | nil => rfl
 | cons b r ih =>
  have hb := h b (.head _)
  have e : pesc1 b = [b] := by
   unfold pesc1
   rw [if_neg (fun e => by subst e; revert hb; decide), if_neg (fun e => by subst e; revert hb; decide)]
  show pesc1 b ++ pesc r = b :: r
  rw [e, ih fun x hx => h x (.tail _ hx)]; rfl
theorem pesc_utf : ∀ (n : Nat) (l : BL), l.length ≤ n → validD l = true → validD (pesc l) = true
 | 0, l, h, _ => by have : l = [] := List.eq_nil_of_length_eq_zero (by omega); subst this; rfl
 | n + 1, l, h, hv => by
  by_cases hne : l = []
  ·subst hne; rfl
  have hv2 := hv
  rw [validD_u8 l hne] at hv2
  by_cases hw : u8L l = 0
  ·rw [if_pos hw] at hv2; cases hv2
  rw [if_neg hw] at hv2
  have hu : u8L l = u8 (ba l) 0 := by have := u8L_bat (ba l) 0; rwa [ba_toList, List.drop_zero] at this
  have hpos : 0 < l.length := List.length_pos_iff.2 hne
  have hsz : (ba l).size = l.length := ba_size l
  have hle := u8_le (s := ba l) (a := 0) (by omega)
  have ih := pesc_utf n (l.drop (u8L l)) (by rw [List.length_drop]; omega) hv2
  have e : pesc l = pesc (l.take (u8L l)) ++ pesc (l.drop (u8L l)) := by rw [← pesc_app, List.take_append_drop]
  rw [e]
  refine validD_app _ ih _ _ (Nat.le_refl _) ?_
  by_cases h1 : u8L l = 1
  ·obtain ⟨b, r, rfl⟩ : ∃ b r, l = b :: r := by cases l with
    | nil => exact absurd rfl hne
    | cons b r => exact ⟨b, r, rfl⟩
   rw [h1]
   show validD (pesc1 b ++ []) = true
   rw [List.append_nil]
   unfold pesc1
   split
   ·decide
   ·split
    ·decide
    ·have hx := Utf.ext (s := ba (b :: r)) (i := 0) (by omega) (by rw [← hu]; exact hw)
     rw [← hu, h1] at hx
     unfold Utf at hx
     have e1 : ((ba (b :: r)).extract 0 (0 + 1)).data.toList = [b] := by simp [ba]
     rwa [e1] at hx
  ·have hhi := u8_hi (s := ba l) (a := 0) (by omega) (by omega)
   rw [← hu] at hhi
   have hall : ∀ b ∈ l.take (u8L l), 128 ≤ b.toNat := by
    intro b hb
    obtain ⟨i, hi⟩ := List.mem_iff_getElem?.1 hb
    have hil := (List.getElem?_eq_some_iff.1 hi).1
    rw [List.length_take] at hil
    have := hhi i (by omega)
    rw [Nat.zero_add] at this
    rw [List.getElem?_take, if_pos (by omega)] at hi
    unfold bat at this
    rw [ba_toList, List.getD_eq_getElem?_getD, hi] at this
    exact this
   rw [pesc_hi hall]
   have hx := Utf.ext (s := ba l) (i := 0) (by omega) (by rw [← hu]; exact hw)
   rw [← hu, Nat.zero_add] at hx
   unfold Utf at hx
   have e1 : ((ba l).extract 0 (u8L l)).data.toList = l.take (u8L l) := by simp [ba]
   rwa [e1] at hx
theorem shw_utf : ∀ l : List BL, (∀ x ∈ l, Utf (ba x)) → Utf (ba (shw l))
 | [], _ => rfl
 | x :: l, h => by
  have h1 := h x (.head _)
  have h2 := shw_utf l fun y hy => h y (.tail _ hy)
  unfold Utf at h1 h2 ⊢
  rw [ba_toList] at h1 h2 ⊢
  rw [shw_cons]
  show validD ([47] ++ (pesc x ++ shw l)) = true
  refine validD_app _ (validD_app _ h2 _ _ (Nat.le_refl _) (pesc_utf _ x (Nat.le_refl _) h1)) _ _ (Nat.le_refl _) (by decide)
section
variable [GLay]
theorem nml_ba (q : ByteArray) : ba (nml q) = q := (ba_eta q).symm
theorem no_m {v : JV} (hv : jmay v) (h : ¬ v.kind = 5) : v.m = [] := by
 have hb := ((jmay_eq v).1 hv).1.2.2.1
 unfold jbare at hb
 cases hm : v.m with
 | nil => rfl
 | cons a r => exfalso; simp [h, hm] at hb
theorem jf_mem {v : JV} (h5 : v.kind = 5) (hs : msorted v.m) {i : Nat} {q : BJ} (hq : v.m[i]? = some q) : jfB v q.1 = true ∧ jfD v q.1 = q.2 := by
 have hf : v.m.find? (fun p => decide (p.1 = q.1)) = some q := find_some (i := i) (fun j y hj hy => by
  have hil := (List.getElem?_eq_some_iff.1 hq)
  have hjl := (List.getElem?_eq_some_iff.1 hy)
  have := List.pairwise_iff_getElem.1 hs j i hjl.1 hil.1 hj
  rw [hil.2, hjl.2] at this
  exact decide_eq_false (blt_ne this)) hq (decide_eq_true rfl)
 unfold jfB jfD jfind
 rw [if_pos h5, hf]; exact ⟨rfl, rfl⟩
theorem get_mem {v : JV} (hv : jmay v) {i : Nat} {q : BJ} (hq : v.m[i]? = some q) (rel : List BL) : jget (nml q.1 :: rel) v = jget rel q.2 := by
 have h5 : v.kind = 5 := Classical.byContradiction fun h => by rw [no_m hv h] at hq; simp at hq
 have h := jf_mem h5 (st_ms (may_st hv)) hq
 rw [jget_5 (by omega) (by rw [nml_ba]; exact h.1), nml_ba, h.2]
theorem u8b_utf {n : Int} (h0 : 0 ≤ n) (h1 : n < 128) : Utf ⟨#[u8b n]⟩ := by
 have e : u8b n = UInt8.ofNat n.toNat := by
  apply UInt8.toNat_inj.1
  rw [u8b_nat h0 (by omega)]
  simp; omega
 rw [e]; exact Utf.asc (by omega)
theorem itoa_utf0 : ∀ (k : Nat) (n : Int), 0 ≤ n → n.toNat ≤ k → Utf (itoaB n)
 | 0, n, h0, hk => by rw [itoa_small h0 (by omega)]; exact u8b_utf (by omega) (by omega)
 | k + 1, n, h0, hk => by
  by_cases h : n < 10
  ·rw [itoa_small h0 h]; exact u8b_utf (by omega) (by omega)
  ·rw [itoa_big (by omega)]
   exact Utf.app (itoa_utf0 k (n / 10) (by omega) (by omega)) (u8b_utf (by omega) (by omega))
theorem itoa_utf (n : Nat) : Utf (itoaB (n : Int)) := itoa_utf0 _ _ (by omega) (Nat.le_refl _)
def kpre (nm : ByteArray) (q : BJ) : List BL := if decide (rk nm = 8) = true then [] else [nml q.1]
theorem get_kid {nm : ByteArray} {y : JV} (hj : jmay y) (hb : jb y) (hs : rShape nm y = 0) {i : Nat} {q : BJ} (hq : (kidsM nm y)[i]? = some q) (rel : List BL) : jget (kpre nm q ++ rel) y = jget rel q.2 := by
 have hok : rk nm = 0 ∨ kOK (rk nm) y = true := by
  unfold rShape at hs
  split at hs
  ·rename_i h; exact .inl h
  ·split at hs
   ·rename_i h; exact .inr h
   ·exact absurd hs (by decide)
 unfold kidsM at hq
 unfold kpre
 split at hq
 ·rename_i h8
  have hi := (List.getElem?_eq_some_iff.1 hq).1
  have : i = 0 := by simp at hi; exact hi
  subst this
  cases hq
  rw [if_pos (decide_eq_true h8)]; rfl
 ·rename_i h8
  rw [if_neg (by simpa using h8)]
  split at hq
  ·exact get_mem hj hq rel
  ·split at hq
   ·rename_i h9 h10
    have h4 : y.kind = 4 := by
     rcases hok with h | h
     ·omega
     ·rw [h10] at h; unfold kOK at h; simp at h; exact h.1.1
    rw [List.getElem?_map, List.getElem?_zipIdx] at hq
    cases hx : y.l[i]? with
    | none => rw [hx] at hq; cases hq
    | some x =>
     rw [hx] at hq
     simp only [Option.map_some, Option.some.injEq] at hq
     subst hq
     have hil := (List.getElem?_eq_some_iff.1 hx).1
     have hlen := ((jb_eq y).1 hb).2.2.1
     have hix := itoa_ix (n := i) (by omega)
     have e : nml (itoaB ((0 + i : Nat) : Int)) = Lib.itoa (i : Int) := by rw [Nat.zero_add]; exact ba_toList _
     have hv := jix_val (nm := Lib.itoa (i : Int)) (n := y.l.length) (e := false) (by simp) hix.1 (by rw [hix.2]; omega) (by left; rw [hix.2]; omega)
     show jget (nml (itoaB ((0 + i : Nat) : Int)) :: rel) y = _
     rw [e]
     exact jget_4 h4 hv.2 (by rw [hv.1, hix.2]) hx
   ·simp at hq
theorem kpre_utf {nm : ByteArray} {y : JV} (hj : jmay y) (hb : jb y) {i : Nat} {q : BJ} (hq : (kidsM nm y)[i]? = some q) : ∀ x ∈ kpre nm q, Utf (ba x) := by
 unfold kpre
 intro x hx
 split at hx
 ·cases hx
 ·rename_i h8
  rw [List.mem_singleton.1 hx, nml_ba]
  unfold kidsM at hq
  rw [if_neg (by simpa using h8)] at hq
  split at hq
  ·exact (((jmay_eq y).1 hj).2.1 i q (List.getElem?_eq_some_iff.1 hq).1 hq).1.1
  ·split at hq
   ·rw [List.getElem?_map, List.getElem?_zipIdx] at hq
    cases hx : y.l[i]? with
    | none => rw [hx] at hq; cases hq
    | some x =>
     rw [hx] at hq
     simp only [Option.map_some, Option.some.injEq] at hq
     subst hq
     exact itoa_utf _
   ·simp at hq
def kidN (ks : List JKey) : List Int := ks.flatMap fun k => k.kids.map JKid.node
def allN (l : List JNode) : List Int := l.flatMap fun n => kidN n.keys
def ind (a b : Nat) (x : Int) : Nat := if (a : Int) ≤ x ∧ x < b then 1 else 0
def AB (N : Nat) (l : List JNode) (B : Nat) : Prop := ∀ (j : Nat) n, l[j]? = some n → ∀ d ∈ kidN n.keys, (N : Int) + j < d ∧ d < B
def GT (ns : List BL) (v : JV) (n : JNode) : Prop := ∃ rel x, n.path = ba (shw (ns ++ rel)) ∧ jget rel v = (x, true) ∧ n.all = decide (x.kind = 1) ∧ n.pass = x.b ∧ n.keys.length = x.m.length ∧ ∀ r ∈ rel, Utf (ba r)
theorem kidN_app (a b : List JKey) : kidN (a ++ b) = kidN a ++ kidN b := by simp [kidN]
theorem allN_app (a b : List JNode) : allN (a ++ b) = allN a ++ allN b := by simp [allN]
theorem AB_mono {N B C : Nat} {l : List JNode} (h : AB N l B) (hc : B ≤ C) : AB N l C := fun j n hj d hd => ⟨(h j n hj d hd).1, by have := (h j n hj d hd).2; omega⟩
theorem AB_app {N B : Nat} {a b : List JNode} (h1 : AB N a B) (h2 : AB (N + a.length) b B) : AB N (a ++ b) B := fun j n hj d hd => by
 by_cases h : j < a.length
 ·rw [List.getElem?_append_left h] at hj; exact h1 j n hj d hd
 ·rw [List.getElem?_append_right (by omega)] at hj
  have := h2 _ n hj d hd
  exact ⟨by omega, this.2⟩
theorem AB_cons {N B : Nat} {a : JNode} {b : List JNode} (h1 : ∀ d ∈ kidN a.keys, (N : Int) < d ∧ d < B) (h2 : AB (N + 1) b B) : AB N (a :: b) B := fun j n hj d hd => by
 cases j with
 | zero => cases hj; exact ⟨by have := (h1 d hd).1; omega, (h1 d hd).2⟩
 | succ j => have := h2 j n hj d hd; exact ⟨by omega, this.2⟩
structure NDG (ns : List BL) (v : JV) (N : Nat) (ext : List JNode) : Prop where
 ne : ext ≠ []
 cn : ∀ x : Int, (allN ext).count x = ind (N + 1) (N + ext.length) x
 ab : AB N ext (N + ext.length)
 gt : ∀ m ∈ ext, GT ns v m
def NodeG (f : PF) (n : Nat) : Prop := ∀ (ns : List BL) (v : JV) (N : Nat) (ext : List JNode) (p : ByteArray), jmay v → jb v → (jsize v).toNat ≤ n → f (ba (shw ns)) v N = (ext, 0, p) → NDG ns v N ext
theorem GT_up {us pre : List BL} {y z : JV} {m : JNode} (h : GT (us ++ pre) z m) (hg : ∀ rel, jget (pre ++ rel) y = jget rel z) (hu : ∀ x ∈ pre, Utf (ba x)) : GT us y m := by
 obtain ⟨rel, x, h1, h2, h3, h4, h5, h6⟩ := h
 refine ⟨pre ++ rel, x, by rw [h1, List.append_assoc], by rw [hg, h2], h3, h4, h5, fun r hr => ?_⟩
 rcases List.mem_append.1 hr with h | h
 ·exact hu r h
 ·exact h6 r h
structure KG (us : List BL) (y : JV) (N : Nat) (kd : List JKid) (ex : List JNode) : Prop where
 cn : ∀ x : Int, (kd.map JKid.node).count x + (allN ex).count x = ind N (N + ex.length) x
 kr : ∀ d ∈ kd, (N : Int) ≤ d.node ∧ d.node < ((N + ex.length : Nat) : Int)
 ab : AB N ex (N + ex.length)
 gt : ∀ m ∈ ex, GT us y m
theorem pkids_g2 {f : PF} {n : Nat} (hf : NodeG f n) (us : List BL) (nm : ByteArray) (y : JV) (N : Nat) (hj : jmay y) (hb : jb y) (hs : rShape nm y = 0) (hn : (jsize y).toNat ≤ n) :
  ∀ (r : List BJ) (i : Nat) (kd : List JKid) (ex : List JNode) (kd' : List JKid) (ex' : List JNode) (p : ByteArray), r = (kidsM nm y).drop i → KG us y N kd ex → pkids f (ba (shw us)) (decide (rk nm = 8)) N r kd ex = (kd', ex', 0, p) → KG us y N kd' ex'
 | [], i, kd, ex, kd', ex', p, hr, hk, h => by
  simp only [pkids, Prod.mk.injEq] at h
  obtain ⟨rfl, rfl, _, _⟩ := h
  exact hk
 | q :: r, i, kd, ex, kd', ex', p, hr, hk, h => by
  have hq : (kidsM nm y)[i]? = some q := by
   have := congrArg (fun l => l[0]?) hr
   simp only [List.getElem?_cons_zero, List.getElem?_drop, Nat.add_zero] at this
   exact this.symm
  have hr2 : r = (kidsM nm y).drop (i + 1) := by
   have := congrArg List.tail hr
   simpa [List.tail_drop] using this
  have hkb := kids_jb hb hq
  cases hg : f (if decide (rk nm = 8) = true then ba (shw us) else ba (shw us) ++ pth q.1) q.2 (N + ex.length) with
  | mk e2 z =>
   obtain ⟨c, p2⟩ := z
   by_cases hc : c = 0
   ·rw [pkids_g hg hc] at h
    subst hc
    have hpa : (if decide (rk nm = 8) = true then ba (shw us) else ba (shw us) ++ pth q.1) = ba (shw (us ++ kpre nm q)) := by
     unfold kpre
     split
     ·rw [List.append_nil]
     ·exact pth_app us q.1
    rw [hpa] at hg
    have hg2 := hf (us ++ kpre nm q) q.2 (N + ex.length) e2 p2 (kids_may hj hq) hkb.1 (by have := hkb.2; omega) hg
    have hlen : 0 < e2.length := List.length_pos_iff.2 hg2.ne
    refine pkids_g2 hf us nm y N hj hb hs hn r (i + 1) _ _ kd' ex' p hr2 ?_ h
    refine ⟨fun x => ?_, fun d hd => ?_, ?_, fun m hm => ?_⟩
    ·have h1 := hk.cn x
     have h2 := hg2.cn x
     rw [List.map_append, allN_app, List.count_append, List.count_append, h2]
     have h3 : (List.map JKid.node [⟨q.1, ((N + ex.length : Nat) : Int)⟩]).count x = if ((N + ex.length : Nat) : Int) = x then 1 else 0 := by
      show List.count x [((N + ex.length : Nat) : Int)] = _
      rw [List.count_singleton]; simp
     rw [h3, List.length_append]
     unfold ind at h1 ⊢
     split at h1 <;> split <;> split <;> split <;> omega
    ·rcases List.mem_append.1 hd with h | h
     ·have := hk.kr d h; rw [List.length_append]; omega
     ·rw [List.mem_singleton.1 h, List.length_append]; simp only; omega
    ·rw [List.length_append, ← Nat.add_assoc]
     exact AB_app (AB_mono hk.ab (by omega)) hg2.ab
    ·rcases List.mem_append.1 hm with h | h
     ·exact hk.gt m h
     ·exact GT_up (hg2.gt m h) (fun rel => get_kid hj hb hs hq rel) (kpre_utf hj hb hq)
   ·rw [pkids_b hg hc] at h
    simp only [Prod.mk.injEq] at h
    exact absurd h.2.2.1 hc
structure MG (ns : List BL) (v : JV) (N : Nat) (ks : List JKey) (ex : List JNode) : Prop where
 cn : ∀ x : Int, (kidN ks).count x + (allN ex).count x = ind N (N + ex.length) x
 kr : ∀ d ∈ kidN ks, (N : Int) ≤ d ∧ d < ((N + ex.length : Nat) : Int)
 ab : AB N ex (N + ex.length)
 gt : ∀ m ∈ ex, GT ns v m
theorem pmems_g2 {f : PF} {n : Nat} (hf : NodeG f n) (ns : List BL) (v : JV) (N : Nat) (hj : jmay v) (hb : jb v) (hn : (jsize v).toNat ≤ n + 1) :
  ∀ (r : List BJ) (i : Nat) (ks : List JKey) (ex : List JNode) (ks' : List JKey) (ex' : List JNode) (p : ByteArray), r = v.m.drop i → MG ns v N ks ex → pmems f (ba (shw ns)) N r ks ex = (ks', ex', 0, p) → MG ns v N ks' ex' ∧ ks'.length = ks.length + r.length
 | [], i, ks, ex, ks', ex', p, hr, hk, h => by
  simp only [pmems, Prod.mk.injEq] at h
  obtain ⟨rfl, rfl, _, _⟩ := h
  exact ⟨hk, rfl⟩
 | q :: r, i, ks, ex, ks', ex', p, hr, hk, h => by
  have hq : v.m[i]? = some q := by
   have := congrArg (fun l => l[0]?) hr
   simp only [List.getElem?_cons_zero, List.getElem?_drop, Nat.add_zero] at this
   exact this.symm
  have hr2 : r = v.m.drop (i + 1) := by
   have := congrArg List.tail hr
   simpa [List.tail_drop] using this
  have hqb := mb_get ((jb_eq v).1 hb).2.2.2.2.2 hq
  have hqm := mayM_get hj hq
  have hqs := msize_mem hq
  have hvs := jsize_eq v
  have hvl := lsize_nn v.l
  have hqp := jsize_pos q.2
  cases hg : pkey f (ba (shw ns)) q.1 q.2 (N + ex.length) with
  | mk kd z =>
   obtain ⟨e2, c, p2⟩ := z
   by_cases hc : c = 0
   ·rw [pmems_g hg hc] at h
    subst hc
    have hs : rShape q.1 q.2 = 0 := Classical.byContradiction fun hs => by
     rw [pkey_s hs] at hg
     simp only [Prod.mk.injEq] at hg
     exact hs hg.2.2.1
    rw [pkey_k hs, pth_app] at hg
    have hg2 := pkids_g2 hf (ns ++ [nml q.1]) q.1 q.2 (N + ex.length) hqm hqb.2 hs (by omega) _ 0 [] [] kd e2 p2 (List.drop_zero ..).symm ⟨(fun x => by simp [allN, ind]), (fun d hd => by cases hd), (fun j n hj => by simp at hj), (fun m hm => by cases hm)⟩ hg
    obtain ⟨ih1, ih2⟩ := pmems_g2 hf ns v N hj hb hn r (i + 1) _ _ ks' ex' p hr2 (by
     refine ⟨fun x => ?_, fun d hd => ?_, ?_, fun m hm => ?_⟩
     ·have h1 := hk.cn x
      have h2 := hg2.cn x
      have e : kidN [⟨q.1, q.2, kd⟩] = kd.map JKid.node := by simp [kidN]
      rw [kidN_app, e, allN_app, List.count_append, List.count_append, List.length_append]
      unfold ind at h1 h2 ⊢
      split at h1 <;> split at h2 <;> split <;> omega
     ·rw [kidN_app] at hd
      rcases List.mem_append.1 hd with h | h
      ·have := hk.kr d h; rw [List.length_append]; omega
      ·have e : kidN [⟨q.1, q.2, kd⟩] = kd.map JKid.node := by simp [kidN]
       rw [e] at h
       obtain ⟨w, hw, rfl⟩ := List.mem_map.1 h
       have := hg2.kr w hw
       rw [List.length_append]; omega
     ·rw [List.length_append, ← Nat.add_assoc]
      exact AB_app (AB_mono hk.ab (by omega)) hg2.ab
     ·rcases List.mem_append.1 hm with h | h
      ·exact hk.gt m h
      ·exact GT_up (hg2.gt m h) (fun rel => get_mem hj hq rel) (fun x hx => by rw [List.mem_singleton.1 hx, nml_ba]; exact (((jmay_eq v).1 hj).2.1 i q (List.getElem?_eq_some_iff.1 hq).1 hq).1.1)) h
    exact ⟨ih1, by rw [ih2]; simp; omega⟩
   ·rw [pmems_b hg hc] at h
    simp only [Prod.mk.injEq] at h
    exact absurd h.2.2.1 hc
theorem pnd_g2 : ∀ n, NodeG (pnd n) n
 | 0, ns, v, N, ext, p, hj, hb, hn, h => by have := jsize_pos v; omega
 | n + 1, ns, v, N, ext, p, hj, hb, hn, h => by
  by_cases hl : N = 200
  ·rw [pnd_m hl] at h
   simp only [Prod.mk.injEq] at h
   exact absurd h.2.1 (by decide)
  ·cases hr : pmems (pnd n) (ba (shw ns)) (N + 1) v.m [] [] with
   | mk ks z =>
    obtain ⟨ex, c, p2⟩ := z
    rw [pnd_g hl hr] at h
    simp only [Prod.mk.injEq] at h
    obtain ⟨rfl, rfl, rfl⟩ := h
    obtain ⟨hm, hkl⟩ := pmems_g2 (pnd_g2 n) ns v (N + 1) hj hb hn v.m 0 [] [] ks ex p2 (List.drop_zero ..).symm ⟨(fun x => by simp [kidN, allN, ind]), (fun d hd => by simp [kidN] at hd), (fun j n hj => by simp at hj), (fun m hm => by cases hm)⟩ hr
    refine ⟨by simp, fun x => ?_, ?_, fun m hm2 => ?_⟩
    ·have := hm.cn x
     show ((kidN ks) ++ allN ex).count x = _
     rw [List.count_append, this, List.length_cons]
     rw [show N + 1 + ex.length = N + (ex.length + 1) by omega]
    ·rw [List.length_cons, show N + (ex.length + 1) = N + 1 + ex.length by omega]
     refine AB_cons (fun d hd => ?_) hm.ab
     have := hm.kr d hd; omega
    ·rcases List.mem_cons.1 hm2 with rfl | h
     ·exact ⟨[], v, by rw [List.append_nil], rfl, rfl, mayb_k hj, by show ks.length = _; simpa using hkl, fun r hr => by cases hr⟩
     ·exact hm.gt m h
theorem scomp_g {v : JV} (hj : jmay v) (hb : jb v) (hsz : jsize v ≤ 10000) (h : (pcomp v).2.1 = 0) : NDG [] v 0 (pcomp v).1 ∧ NOK (pcomp v).1 := by
 refine ⟨?_, by rw [pcomp_eq hj] at h ⊢; exact jcomp_ok hb (may_st hj) hsz h⟩
 unfold pcomp at h ⊢
 by_cases hs : schB v = false
 ·rw [if_pos hs] at h; exact absurd (show (14 : Int) = 0 from h) (by decide)
 ·rw [if_neg hs] at h ⊢
  by_cases hc : (pnd (jsize v).toNat e0 v 0).2.1 = 0
  ·rw [if_neg (fun z => z hc)] at h ⊢
   cases hr : pnd (jsize v).toNat e0 v 0 with
   | mk ext z =>
    obtain ⟨c, p⟩ := z
    rw [hr] at hc
    simp only at hc
    subst hc
    exact pnd_g2 _ [] v 0 ext p hj hb (Nat.le_refl _) hr
  ·rw [if_pos hc] at h; exact absurd h hc
theorem pcomp_nil {v : JV} (h : ¬ (pcomp v).2.1 = 0) : (pcomp v).1 = [] := by
 unfold pcomp at h ⊢
 split
 ·rfl
 ·rename_i h1
  rw [if_neg h1] at h
  split
  ·rfl
  ·rename_i h2; rw [if_neg h2] at h; exact absurd rfl h
def cntc (l : List Int) (n : Nat) : List AV := (List.range n).map fun (j : Nat) => .int .i64 ((l.count (Int.ofNat j) : Nat) : Int)
theorem cntc_len (l : List Int) (n : Nat) : (cntc l n).length = n := by simp [cntc]
theorem cntc_get (l : List Int) {n j : Nat} (h : j < n) : (cntc l n)[j]? = some (.int .i64 (l.count (Int.ofNat j) : Int)) := by simp [cntc, h]
theorem cntc_nil (n : Nat) : cntc [] n = List.replicate n (.int .i64 0) := by
 apply List.ext_getElem?
 intro i
 simp [cntc, List.getElem?_replicate]
 by_cases h : i < n
 ·simp [h]
 ·simp [h]
theorem cntc_set (l : List Int) {n j : Nat} (h : j < n) : (cntc l n).set j (.int .i64 ((l.count (Int.ofNat j) : Int) + 1)) = cntc (l ++ [Int.ofNat j]) n := by
 apply List.ext_getElem?
 intro i
 rw [List.getElem?_set]
 by_cases hi : i < n
 ·rw [cntc_get _ hi, cntc_get _ hi]
  by_cases e : j = i
  ·subst e
   rw [if_pos rfl, if_pos (by rw [cntc_len]; exact h)]
   simp [List.count_append]
  ·rw [if_neg e, List.count_append]
   have : List.count (Int.ofNat i) [Int.ofNat j] = 0 := by rw [List.count_singleton]; simp; omega
   rw [this]; rfl
 ·rw [List.getElem?_eq_none (by rw [cntc_len]; omega)]
  split
  ·omega
  ·rw [List.getElem?_eq_none (by rw [cntc_len]; omega)]
@[simp] theorem cntc_lt (m n : Nat) (l : List Int) : AV.ltL m (cntc l n) := by
 rw [AV.ltL_iff]; intro a ha; simp [cntc] at ha; obtain ⟨j, _, rfl⟩ := ha; trivial
def seenK (l : List JNode) (i : Nat) (n : JNode) (k : Nat) (q : JKey) (j : Nat) : List Int := allN (l.take i) ++ kidN (n.keys.take k) ++ (q.kids.take j).map JKid.node
theorem kidN_take {n : JNode} {k : Nat} {q : JKey} (h : n.keys[k]? = some q) : kidN (n.keys.take (k + 1)) = kidN (n.keys.take k) ++ q.kids.map JKid.node := by rw [List.take_add_one, h, kidN_app]; simp [kidN]
theorem allN_take {l : List JNode} {i : Nat} {n : JNode} (h : l[i]? = some n) : allN (l.take (i + 1)) = allN (l.take i) ++ kidN n.keys := by rw [List.take_add_one, h, allN_app]; simp [allN]
theorem kid_mem {n : JNode} {k j : Nat} {q : JKey} {d : JKid} (h : n.keys[k]? = some q) (hd : q.kids[j]? = some d) : d.node ∈ kidN n.keys := by
 unfold kidN
 exact List.mem_flatMap.2 ⟨q, List.mem_of_getElem? h, List.mem_map.2 ⟨d, List.mem_of_getElem? hd, rfl⟩⟩
theorem seenK_le {l : List JNode} {i k j : Nat} {n : JNode} {q : JKey} (hn : l[i]? = some n) (hq : n.keys[k]? = some q) (x : Int) : (seenK l i n k q j).count x ≤ (allN l).count x := by
 have h1 : (seenK l i n k q j).count x ≤ (allN (l.take (i + 1))).count x := by
  rw [allN_take hn, seenK, List.append_assoc, List.count_append, List.count_append (l₁ := allN (l.take i))]
  refine Nat.add_le_add_left ?_ _
  have h2 : (kidN (n.keys.take k) ++ (q.kids.take j).map JKid.node).count x ≤ (kidN (n.keys.take (k + 1))).count x := by
   rw [kidN_take hq, List.count_append, List.count_append]
   refine Nat.add_le_add_left ?_ _
   exact List.Sublist.count_le _ ((List.take_sublist j q.kids).map _)
  refine Nat.le_trans h2 ?_
  have h3 : kidN n.keys = kidN (n.keys.take (k + 1)) ++ kidN (n.keys.drop (k + 1)) := by rw [← kidN_app, List.take_append_drop]
  rw [h3, List.count_append]; omega
 refine Nat.le_trans h1 ?_
 have h3 : allN l = allN (l.take (i + 1)) ++ allN (l.drop (i + 1)) := by rw [← allN_app, List.take_append_drop]
 rw [h3, List.count_append]; omega
theorem seenK_0 (l : List JNode) (i : Nat) (n : JNode) (k : Nat) (q : JKey) : seenK l i n k q 0 = allN (l.take i) ++ kidN (n.keys.take k) := by simp [seenK]
theorem seenK_s {l : List JNode} {i : Nat} {n : JNode} {k : Nat} {q : JKey} {j : Nat} {d : JKid} (hd : q.kids[j]? = some d) : seenK l i n k q (j + 1) = seenK l i n k q j ++ [d.node] := by
 simp only [seenK]
 rw [List.take_add_one, hd]; simp
theorem seenK_e {l : List JNode} {i : Nat} {n : JNode} {k : Nat} {q : JKey} (hq : n.keys[k]? = some q) : seenK l i n k q q.kids.length = allN (l.take i) ++ kidN (n.keys.take (k + 1)) := by
 rw [seenK, List.take_length, kidN_take hq, List.append_assoc]
theorem pesc_ge : ∀ l : BL, l.length ≤ (pesc l).length
 | [] => Nat.le_refl _
 | b :: l => by
  show (b :: l).length ≤ (pesc1 b ++ pesc l).length
  rw [List.length_append, List.length_cons]
  have h1 := pesc_ge l
  have h2 : 1 ≤ (pesc1 b).length := by unfold pesc1; split <;> (try split) <;> simp
  omega
theorem shw_mem_len : ∀ (l : List BL), ∀ x ∈ l, x.length ≤ (shw l).length
 | [], x, h => by cases h
 | a :: r, x, h => by
  rw [shw_cons, List.length_cons, List.length_append]
  rcases List.mem_cons.1 h with rfl | h
  ·have := pesc_ge x; omega
  ·have := shw_mem_len r x h; omega
theorem nd_path {l : List JNode} (h : (l.map JNode.path).Nodup) {k i : Nat} {a b : JNode} (hk : l[k]? = some a) (hi : l[i]? = some b) (hlt : k < i) : ¬ a.path = b.path := fun e => by
 have hkl := List.getElem?_eq_some_iff.1 hk
 have hil := List.getElem?_eq_some_iff.1 hi
 have := List.pairwise_iff_getElem.1 h k i (by simpa using hkl.1) (by simpa using hil.1) hlt
 rw [List.getElem_map, List.getElem_map, hkl.2, hil.2] at this
 exact this e
end
end Lg
set_option maxRecDepth 20000
set_option maxHeartbeats 4000000
namespace Lg
open Go Go.Proofs Go.RowKit
variable [GLay] 
theorem ba_nil0 {nm : BL} : (ba nm = ⟨#[]⟩) = (nm = []) := propext ⟨fun h => by have := congrArg ByteArray.size h; rw [ba_size] at this; exact List.eq_nil_of_length_eq_zero this, fun h => by subst h; rfl⟩
theorem ba_minus {nm : BL} : (ba nm = ⟨#[45]⟩) = (nm = [45]) := propext ⟨fun h => by have := congrArg (fun b => b.data.toList) h; rwa [ba_toList] at this, fun h => by subst h; rfl⟩
theorem jixB_len {nm : BL} : jixB nm ↔ (nm.length = 0 ∨ ¬ runl (ba nm) 0 = nm.length ∨ (1 < nm.length ∧ (bat (ba nm) 0).toNat = 48) ∨ 18 < nm.length) := by unfold jixB; rw [List.length_eq_zero_iff]
theorem ridx_c (nm : BL) (n : Nat) (e : Bool) (σ : List AO) (hs : nm.length ≤ 1000000) (hn : n ≤ 1000000000) : ACalls Tryz.prog 42 [.str (ba nm), .int .i64 (n : Int), .bool e] σ (Ret (.tup [.int .i64 (jixN nm n e), .bool (jixO nm n e)]) σ) := by
 refine ACalls_body Tryz.func42 rfl Tryz.ntmps42 (res2 Tryz.results42) (Nat.le_of_ble_eq_true rfl) (fun hcl hal => ?_)
 have hbs := ba_size nm
 refine zw2 ?_
 refine AWp_join (ι := Unit) (fun b => ¬ (e = true ∧ nm = [45])) (fun b => ⟨[], [(0, .str (ba nm)), (1, .int .i64 (n : Int)), (2, .bool e), (6, .int .i64 0), (7, .bool false)]⟩) (fun b => σ) ?_ (fun b hj => ?_)
 ·skip
  refine zu2 ?_
  refine zsp 11 rfl (fun h1 => ?_) fun h1 => ?_
  ·rw [h1]; replace h1 := zcl h1
   refine zv3 ?_
   refine AWp_cond rfl (fun h2 => ?_) (fun h2 => ?_)
   ·(try rw [h2]); replace h2 := zcl h2
    refine zw3 ?_
    refine zrt ?_
    obtain ⟨q1, q2⟩ := jix_minus (n := n) (e := true) rfl (ba_minus ▸ h2)
    rw [q1, q2]
    exact ResQ_20 rfl rfl hcl (by simp [AV.lt, AV.ltL]) (Ret_of rfl)
   ·(try rw [h2]); replace h2 := zcl h2
    refine AWp_skip ?_
    exact ⟨(), (fun x => h2 (ba_minus ▸ x.2)), ⟨rfl, rfl, rfl, rfl, rfl, rfl, trivial⟩, rfl⟩
  ·rw [h1]; replace h1 := zcl h1
   refine zv3 ?_
   refine AWp_condF rfl ?_
   refine AWp_skip ?_
   exact ⟨(), (fun x => by cases x.1), ⟨rfl, rfl, rfl, rfl, rfl, rfl, trivial⟩, rfl⟩
 ·skip
  have hj0 := hj
  clear hj
  refine AWp_seq ?_
  refine AWp_join (ι := Bool) (fun b => b = decide (jixB nm)) (fun b => ⟨[], [(0, .str (ba nm)), (1, .int .i64 (n : Int)), (2, .bool e), (6, .int .i64 0), (7, .bool false), (39, .bool b)]⟩) (fun b => σ) ?_ (fun b hj => ?_)
  ·skip
   refine AWp_regL ?_
   refine zg3 ?_
   refine zsp 18 rfl (fun h3 => ?_) fun h3 => ?_
   ·rw [h3]; replace h3 := zcl h3
    refine zg20 ?_
    refine zg1 ?_
    refine zon ?_
    refine ⟨_, ?_, ⟨rfl, rfl, rfl, rfl, rfl, rfl, rfl, trivial⟩, rfl⟩
    (try rw [ba_nil0, ← List.length_eq_zero_iff] at h3)
    (try rw [show ((0 : Int).toNat) = 0 from rfl] at h4)
    (try rw [show ((0 : Int).toNat) = 0 from rfl] at h6)
    first | exact (decide_eq_true (jixB_len.2 (by omega))).symm | exact (decide_eq_false (fun x => by have := jixB_len.1 x; omega)).symm | exact decide_eq_decide.2 (by rw [jixB_len]; omega)
   ·rw [h3]; replace h3 := zcl h3
    refine zg1 ?_
    refine ztG rfl rfl (zc rfl (run_c _ _ _ (by omega) (by omega) (by omega))) ?_
    refine zg5 ?_
    refine zsp 25 rfl (fun h4 => ?_) fun h4 => ?_
    ·rw [h4]; replace h4 := zcl h4
     refine zg10 ?_
     refine zg4 ?_
     refine zon ?_
     refine ⟨_, ?_, ⟨rfl, rfl, rfl, rfl, rfl, rfl, rfl, trivial⟩, rfl⟩
     (try rw [ba_nil0, ← List.length_eq_zero_iff] at h3)
     (try rw [show ((0 : Int).toNat) = 0 from rfl] at h4)
     (try rw [show ((0 : Int).toNat) = 0 from rfl] at h6)
     first | exact (decide_eq_true (jixB_len.2 (by omega))).symm | exact (decide_eq_false (fun x => by have := jixB_len.1 x; omega)).symm | exact decide_eq_decide.2 (by rw [jixB_len]; omega)
    ·rw [h4]; replace h4 := zcl h4
     refine zg4 ?_
     refine zsp 29 rfl (fun h5 => ?_) fun h5 => ?_
     ·rw [h5]; replace h5 := zcl h5
      refine zg6 ?_
      refine zsp 35 rfl (fun h6 => ?_) fun h6 => ?_
      ·rw [h6]; replace h6 := zcl h6
       refine zv4 ?_
       refine ⟨_, ?_, ⟨rfl, rfl, rfl, rfl, rfl, rfl, rfl, trivial⟩, rfl⟩
       (try rw [ba_nil0, ← List.length_eq_zero_iff] at h3)
       (try rw [show ((0 : Int).toNat) = 0 from rfl] at h4)
       (try rw [show ((0 : Int).toNat) = 0 from rfl] at h6)
       first | exact (decide_eq_true (jixB_len.2 (by omega))).symm | exact (decide_eq_false (fun x => by have := jixB_len.1 x; omega)).symm | exact decide_eq_decide.2 (by rw [jixB_len]; omega)
      ·rw [h6]; replace h6 := zcl h6
       refine zv4 ?_
       refine ⟨_, ?_, ⟨rfl, rfl, rfl, rfl, rfl, rfl, rfl, trivial⟩, rfl⟩
       (try rw [ba_nil0, ← List.length_eq_zero_iff] at h3)
       (try rw [show ((0 : Int).toNat) = 0 from rfl] at h4)
       (try rw [show ((0 : Int).toNat) = 0 from rfl] at h6)
       first | exact (decide_eq_true (jixB_len.2 (by omega))).symm | exact (decide_eq_false (fun x => by have := jixB_len.1 x; omega)).symm | exact decide_eq_decide.2 (by rw [jixB_len]; omega)
     ·rw [h5]; replace h5 := zcl h5
      refine zg10 ?_
      refine zon ?_
      refine ⟨_, ?_, ⟨rfl, rfl, rfl, rfl, rfl, rfl, rfl, trivial⟩, rfl⟩
      (try rw [ba_nil0, ← List.length_eq_zero_iff] at h3)
      (try rw [show ((0 : Int).toNat) = 0 from rfl] at h4)
      (try rw [show ((0 : Int).toNat) = 0 from rfl] at h6)
      first | exact (decide_eq_true (jixB_len.2 (by omega))).symm | exact (decide_eq_false (fun x => by have := jixB_len.1 x; omega)).symm | exact decide_eq_decide.2 (by rw [jixB_len]; omega)
  ·skip
   subst hj
   refine AWp_cond rfl (fun h7 => ?_) (fun h7 => ?_)
   ·(try rw [h7]); replace h7 := zcl h7
    refine zw2 ?_
    refine zrt ?_
    obtain ⟨q1, q2⟩ := jix_bad (n := n) hj0 (by simpa using h7)
    rw [q1, q2]
    exact ResQ_20 rfl rfl hcl (by simp [AV.lt, AV.ltL]) (Ret_of rfl)
   ·(try rw [h7]); replace h7 := zcl h7
    have hb : ¬ jixB nm := by simpa using h7
    obtain ⟨hd, hl0, hl18⟩ := jixB_aD hb
    have hv0 := valL_bd hd
    refine AWp_skip ?_
    refine zw1 ?_
    refine AWp_seq ?_
    refine zw1 ?_
    refine AWp_block ?_
    -- loop 0 LIVE 0:param 1:param 2:param 6:assign 7:assign 8:assign 9:assign
    refine AWp_loop (ι := Nat) (fun i => i ≤ nm.length) (fun i => ⟨[], [(0, .str (ba nm)), (1, .int .i64 (n : Int)), (2, .bool e), (6, .int .i64 0), (7, .bool false), (8, .int .i64 (valL 0 (nm.take i))), (9, .int .i64 (i : Int))]⟩) (fun i => σ) (fun i => nm.length - i) (0) (Nat.zero_le _) ?_ rfl (fun i hi => ?_)
    ·repeat' first | rfl | trivial | constructor
    refine AWp_seq ?_
    refine zw4 ?_
    refine AWp_cond rfl (fun h8 => ?_) (fun h8 => ?_)
    ·(try rw [h8]); replace h8 := zcl h8
     obtain ⟨c, hc⟩ : ∃ c, nm[i]? = some c := ⟨_, List.getElem?_eq_getElem (show i < nm.length by omega)⟩
     have hb1 := valL_take hd hl18 (show i < nm.length by omega)
     have hc256 := c.toNat_lt
     have hbc : bat (ba nm) i = c := by rw [bat_ba, List.getD_eq_getElem?_getD, hc]; rfl
     have hbt : (bat (ba nm) (i : Int).toNat).toNat = c.toNat := by rw [Int.toNat_natCast, hbc]
     refine AWp_skip ?_
     refine AWp_seq ?_
     refine AWp_block ?_
     refine AWp_regL ?_
     refine zv9 ?_
     refine AWp_regL ?_
     refine zv3 ?_
     refine ⟨i + 1, σ.length, by omega, by omega, Nat.le_refl _, ⟨rfl, rfl, rfl, rfl, rfl, rfl, ?_, rfl, trivial⟩, hcl, by simp [ltE, AV.lt], List.take_length⟩
     have hst := valL_step hc
     rw [← hbt] at hst
     rw [hst]; rfl
    ·(try rw [h8]); replace h8 := zcl h8
     have hie : i = nm.length := by omega
     subst hie
     rw [List.take_length]
     refine AWp_exit ?_
     refine AWp_seq ?_
     refine zu4 ?_
     refine zsp 57 rfl (fun h9 => ?_) fun h9 => ?_
     ·rw [h9]; replace h9 := zcl h9
      refine zv7 ?_
      refine AWp_condT rfl ?_
      refine zw3 ?_
      refine zrt ?_
      obtain ⟨q1, q2⟩ := jix_val hj0 hb hv0.1 (.inl h9)
      rw [q1, q2]
      exact ResQ_20 rfl rfl hcl (by simp [AV.lt, AV.ltL]) (Ret_of rfl)
     ·rw [h9]; replace h9 := zcl h9
      refine zg4 ?_
      refine zsp 61 rfl (fun h10 => ?_) fun h10 => ?_
      ·rw [h10]; replace h10 := zcl h10
       refine zv3 ?_
       refine AWp_cond rfl (fun h11 => ?_) (fun h11 => ?_)
       ·(try rw [h11]); replace h11 := zcl h11
        refine zw3 ?_
        refine zrt ?_
        subst h11
        obtain ⟨q1, q2⟩ := jix_val hj0 hb hv0.1 (.inr ⟨h10, rfl⟩)
        rw [q1, q2]
        exact ResQ_20 rfl rfl hcl (by simp [AV.lt, AV.ltL]) (Ret_of rfl)
       ·(try rw [h11]); replace h11 := zcl h11
        refine AWp_skip ?_
        refine zw2 ?_
        refine zrt ?_
        have he : e = false := by simpa using h11
        subst he
        obtain ⟨q1, q2⟩ := jix_big (n := n) hj0 hb (fun x => x.elim (by omega) (fun y => by cases y.2))
        rw [q1, q2]
        exact ResQ_20 rfl rfl hcl (by simp [AV.lt, AV.ltL]) (Ret_of rfl)
      ·rw [h10]; replace h10 := zcl h10
       refine zv3 ?_
       refine AWp_condF rfl ?_
       refine AWp_skip ?_
       refine zw2 ?_
       refine zrt ?_
       obtain ⟨q1, q2⟩ := jix_big hj0 hb (fun x => x.elim (by omega) (fun y => h10 y.1))
       rw [q1, q2]
       exact ResQ_20 rfl rfl hcl (by simp [AV.lt, AV.ltL]) (Ret_of rfl)
end Lg
set_option maxRecDepth 20000
set_option maxHeartbeats 4000000
namespace Lg
open Go Go.Proofs Go.RowKit
variable [GLay] 
theorem rptr_c (s : BL) (σ : List AO) (hs : s.length ≤ 1000000) : ACalls Tryz.prog 41 [.str (ba s)] σ (Ret (.tup [.sl false 1 (srow (pN s)), .int .i64 (pEi s)]) σ) := by
 refine ACalls_body Tryz.func41 rfl Tryz.ntmps41 (res2 Tryz.results41) (Nat.le_of_ble_eq_true rfl) (fun hcl hal => ?_)
 have hbz : (ba s).size = s.length := ba_size s
 refine zw2 ?_
 refine AWp_seq ?_
 refine zw2 ?_
 refine AWp_cond rfl (fun h1 => ?_) (fun h1 => ?_)
 ·(try rw [h1]); replace h1 := zcl h1
  have hs0 : s = [] := ba_nil.1 h1
  refine zw2 ?_
  refine AWp_slotLe 2 rfl (AVle.nils false 1) ?_ (by decide)
  refine zrt ?_
  subst hs0
  exact ResQ_20 rfl rfl hcl (by simp [AV.lt, AV.ltL, AV.ltLL]) (Ret_of rfl)
 ·(try rw [h1]); replace h1 := zcl h1
  have hs0 : ¬ s = [] := fun e => h1 (ba_nil.2 e)
  have hsl : 0 < s.length := List.length_pos_iff.2 hs0
  refine AWp_skip ?_
  refine AWp_seq ?_
  refine zw3 ?_
  refine AWp_cond rfl (fun h2 => ?_) (fun h2 => ?_)
  ·(try rw [h2]); replace h2 := zcl h2
   have h47 : ¬ s[0]? = some 47 := fun e => h2 ((g47 hsl).1 e)
   refine zw2 ?_
   refine AWp_slotLe 2 rfl (AVle.nils false 1) ?_ (by decide)
   refine zrt ?_
   have hE : pE s = some 0 := by unfold pE; rw [if_neg hs0, if_pos h47]
   rw [pEi_s hE, pN_bad hs0 hE]
   exact ResQ_20 rfl rfl hcl (by simp [AV.lt, AV.ltL, AV.ltLL]) (Ret_of rfl)
  ·(try rw [h2]); replace h2 := zcl h2
   have h47 : s[0]? = some 47 := (g47 hsl).2 h2
   refine AWp_skip ?_
   refine zw1 ?_
   refine AWp_seq ?_
   refine AWp_seq ?_
   refine AWp_ghostT 4 1 rfl ?_ (by decide)
   refine AWp_regL ?_
   refine zv1 ?_
   refine AWp_block ?_
   -- loop 0 LIVE 0:param 2:assign 3:assign 4:assign 5:assign
   refine AWp_loop (ι := Nat × List BL × Nat) (fun z => PAt s z.1 z.2.1) (fun z => ⟨[], [(0, .str (ba s)), (4, .arr (σ.length + 0) z.2.2 1 0 z.2.1.length), (5, .int .i64 (z.1 : Int))]⟩) (fun z => σ ++ [.arr 1 z.2.2 (srow z.2.1).flatten]) (fun z => s.length - z.1) ((0, [], 0)) (PAt.zero s) ?_ rfl (fun z hz => ?_)
   ·exact ⟨rfl, rfl, rfl, rfl, trivial⟩
   obtain ⟨i, L, g⟩ := z
   simp only at hz ⊢
   have hzl := hz.le
   have hzn := hz.len
   have z1 : ∀ c : UInt8, (ByteArray.mk #[c]).size = 1 := fun c => rfl
   refine AWp_seq ?_
   refine zw4 ?_
   refine AWp_cond rfl (fun h3 => ?_) (fun h3 => ?_)
   ·(try rw [h3]); replace h3 := zcl h3
    refine AWp_skip ?_
    refine AWp_seq ?_
    refine AWp_block ?_
    refine zw4 ?_
    refine AWp_seq ?_
    refine zw2 ?_
    refine AWp_cond rfl (fun h4 => ?_) (fun h4 => ?_)
    ·(try rw [h4]); replace h4 := zcl h4
     have hz47 := (g47 (show i < s.length by omega)).2 h4
     refine zu1 ?_
     refine zt rfl (op_buildSlice [[_]] rfl Tryz.underlying48 Tryz.sizeOf9 Tryz.zeroValue9 rfl (by decide) (by decide) rfl rfl rfl rfl rfl) ?_
     refine zt rfl (op_appendArrT rfl 0 (sz := 1) (m := 1) (len := L.length) (cs := [.str ⟨#[]⟩]) rfl (.inr ⟨_, rfl⟩) Tryz.underlying48 Tryz.underlying48 Tryz.type9 rfl rfl rfl (by decide) rfl rfl (by rw [sflat_len, Nat.mul_one]) rfl rfl rfl (by show (L.length + 1) * 16 ≤ _; omega) (by omega) rfl) ?_
     refine zv1 ?_
     refine AWp_exit ?_
     refine AWp_regL ?_
     refine zv3 ?_
     have hp9 := hz.slash hz47
     refine ⟨(i + 1, L ++ [[]], g + 1), σ.length + 1, hp9, by have := hp9.le; simp only; omega, by simp, ⟨rfl, rfl, by rw [List.length_append]; rfl, rfl, trivial⟩, closed_own 1 hcl ?_, ?_, ?_⟩
     ·simp [ownLt, AO.cells, ltL_append, AV.ltL, AV.lt, flat_lt]
     ·simp [ltE, AV.lt]
     ·refine (take_own 1).trans ?_
      rw [srow_snoc]; rfl
    ·(try rw [h4]); replace h4 := zcl h4
     have hn47 : ¬ s[i]? = some 47 := fun e => h4 ((g47 (show i < s.length by omega)).1 e)
     have hi1 : 1 ≤ i := by rcases Nat.eq_zero_or_pos i with e | e; subst e; exact absurd h47 hn47; exact e
     obtain ⟨ps, q, hLq⟩ := hz.last hi1
     have hqs := hz.el q (by rw [hLq]; simp)
     have hLl := hz.len
     subst hLq
     have hLp : 1 ≤ (ps ++ [q]).length := by rw [List.length_append]; simp
     have hqz : (ba q).size = q.length := ba_size q
     have hlst := srow_last ps q
     refine AWp_skip ?_
     refine AWp_seq ?_
     refine zw2 ?_
     refine AWp_cond rfl (fun h5 => ?_) (fun h5 => ?_)
     ·(try rw [h5]); replace h5 := zcl h5
      have hz126 := (g126 (show i < s.length by omega)).2 h5
      refine AWp_seq ?_
      refine zw5 ?_
      refine AWp_cond rfl (fun h6 => ?_) (fun h6 => ?_)
      ·(try rw [h6]); replace h6 := zcl h6
       refine zw3 ?_
       refine AWp_slotLe 2 rfl (AVle.nils false 1) ?_ (by decide)
       refine zrt ?_
       have ht : tbad s i = true := tbad_t (show i < s.length by omega) h5 (.inl (by omega))
       have hE : pE s = some i := pE_at hs0 h47 (show i < s.length by omega) ht hz.bad
       rw [pEi_s hE, pN_bad hs0 hE]
       exact ResQ_2 rfl rfl hcl (by simp [AV.lt, AV.ltL, AV.ltLL]) (Ret_of rfl)
      ·(try rw [h6]); replace h6 := zcl h6
       refine AWp_skip ?_
       refine zw3 ?_
       refine AWp_seq ?_
       refine zu5 ?_
       refine zsp 40 rfl (fun h7 => ?_) fun h7 => ?_
       ·rw [h7]; replace h7 := zcl h7
        refine zv5 ?_
        refine AWp_cond rfl (fun h8 => ?_) (fun h8 => ?_)
        ·(try rw [h8]); replace h8 := zcl h8
         refine zw4 ?_
         refine AWp_slotLe 2 rfl (AVle.nils false 1) ?_ (by decide)
         refine zrt ?_
         have ht : tbad s i = true := tbad_t (show i < s.length by omega) h5 (.inr ⟨h7, h8⟩)
         have hE : pE s = some i := pE_at hs0 h47 (show i < s.length by omega) ht hz.bad
         rw [pEi_s hE, pN_bad hs0 hE]
         exact ResQ_2 rfl rfl hcl (by simp [AV.lt, AV.ltL, AV.ltLL]) (Ret_of (by rw [show (i : Int) + 1 - 1 = i by omega]; rfl))
        ·(try rw [h8]); replace h8 := zcl h8
         refine AWp_skip ?_
         refine zw1 ?_
         refine zw4 ?_
         refine AWp_cond rfl (fun h9 => ?_) (fun h9 => ?_)
         ·(try rw [h9]); replace h9 := zcl h9
          have hi9 := hz126
          refine AWp_regL ?_
          refine zv1 ?_
          refine AWp_drawL #[0, 0, 2, 6, 0, 0, 32, 96, 240, 496, 0, 1024, 3072, 8176, 16383, 32767] Tryz.mixed (by decide +kernel) (by decide +kernel) ?_
          refine zd2 ?_
          refine yP rfl rfl (op_lenS rfl rfl Tryz.underlying48 rfl rfl ⟨1, _, get_own 0⟩) (trivial) ?_
          refine zd3 ?_
          refine yP rfl rfl (op_lenS rfl rfl Tryz.underlying48 rfl rfl ⟨1, _, get_own 0⟩) (trivial) ?_
          refine zd1 ?_
          refine yP rfl rfl (op_indexAddrAO (j := 0) rfl Tryz.underlying48 Tryz.sizeOf9 rfl rfl (by omega) (by omega) rfl) (trivial) ?_
          refine yP rfl rfl (op_load1 rfl Tryz.isAgg9 (ldv_el (j := 0) (i := (ps ++ [q]).length - 1) rfl hlst (by omega))) (trivial) ?_
          refine zd1 ?_
          refine yA rfl rfl (fun _ => op_buildSlice [[_]] rfl Tryz.underlying146 Tryz.sizeOf5 Tryz.zeroValue5 rfl (by decide) (by decide) rfl rfl rfl rfl rfl) ?_
          refine yA rfl rfl (fun _ => (by first | exact op_bytesStr (b := ⟨#[126]⟩) (m := 1) rfl Tryz.underlying146 Tryz.underlying5 Tryz.underlying9 rfl rfl rfl | exact op_bytesStr (b := ⟨#[47]⟩) (m := 1) rfl Tryz.underlying146 Tryz.underlying5 Tryz.underlying9 rfl rfl rfl | exact op_bytesStr (b := ⟨#[bat (ba s) i]⟩) (m := 1) rfl Tryz.underlying146 Tryz.underlying5 Tryz.underlying9 rfl rfl rfl)) ?_
          refine yA rfl rfl (fun _ => op_cat rfl rfl rfl (by rw [hqz]; show q.length + 1 ≤ _; omega)) ?_
          refine yP rfl rfl (op_indexAddrAO (j := 0) rfl Tryz.underlying48 Tryz.sizeOf9 rfl rfl (by omega) (by omega) rfl) (trivial) ?_
          refine yEN rfl rfl rfl (op_storeEl (j := 0) (i := (ps ++ [q]).length - 1) rfl Tryz.sizeOf9 rfl rfl (by omega) rfl (by rw [sflat_len]; omega)) (⟨.inl rfl, ⟨.inl rfl, ⟨.inl rfl, ⟨.inl rfl, ⟨.inl rfl, trivial⟩⟩⟩⟩⟩) (trivial) ?_
          refine RP.nil rfl ?_
          refine AWp_regL ?_
          refine zv3 ?_
          have hz49 := (g49 (show i + 1 < s.length by omega)).2 h8
          have hp9 := hz.esc hi1 rfl hz126 hz49 (.inr rfl)
          refine ⟨(i + 1 + 1, ps ++ [q ++ [47]], g), σ.length + 1, hp9, by have := hp9.le; simp only; omega, by simp, ⟨rfl, rfl, by rw [List.length_append, List.length_append]; rfl, rfl, trivial⟩, closed_own 1 hcl ?_, ?_, ?_⟩
          ·simp [ownLt, AO.cells]; rw [AV.ltL_iff]; intro a ha; rcases List.mem_or_eq_of_mem_set ha with h | rfl; exact (AV.ltL_iff _ _).1 (flat_lt (srow_lt _ _)) a h; trivial
          ·simp [ltE, AV.lt]
          ·refine (take_own 1).trans ?_
           rw [← srow_setl ps q (q ++ [47]), ← ba_app]; rfl
         ·(try rw [h9]); replace h9 := zcl h9
          exact absurd h8 h9
       ·rw [h7]; replace h7 := zcl h7
        refine zv5 ?_
        refine AWp_condF rfl ?_
        refine AWp_skip ?_
        refine zw1 ?_
        refine zw4 ?_
        refine AWp_cond rfl (fun h10 => ?_) (fun h10 => ?_)
        ·(try rw [h10]); replace h10 := zcl h10
         omega
        ·(try rw [h10]); replace h10 := zcl h10
         refine AWp_skip ?_
         refine AWp_drawL #[0, 0, 2, 6, 0, 0, 32, 96, 240, 496, 0, 1024, 3072, 8176, 16383, 32767] Tryz.mixed (by decide +kernel) (by decide +kernel) ?_
         refine zd2 ?_
         refine yP rfl rfl (op_lenS rfl rfl Tryz.underlying48 rfl rfl ⟨1, _, get_own 0⟩) (trivial) ?_
         refine zd3 ?_
         refine yP rfl rfl (op_lenS rfl rfl Tryz.underlying48 rfl rfl ⟨1, _, get_own 0⟩) (trivial) ?_
         refine zd1 ?_
         refine yP rfl rfl (op_indexAddrAO (j := 0) rfl Tryz.underlying48 Tryz.sizeOf9 rfl rfl (by omega) (by omega) rfl) (trivial) ?_
         refine yP rfl rfl (op_load1 rfl Tryz.isAgg9 (ldv_el (j := 0) (i := (ps ++ [q]).length - 1) rfl hlst (by omega))) (trivial) ?_
         refine zd1 ?_
         refine yA rfl rfl (fun _ => op_buildSlice [[_]] rfl Tryz.underlying146 Tryz.sizeOf5 Tryz.zeroValue5 rfl (by decide) (by decide) rfl rfl rfl rfl rfl) ?_
         refine yA rfl rfl (fun _ => (by first | exact op_bytesStr (b := ⟨#[126]⟩) (m := 1) rfl Tryz.underlying146 Tryz.underlying5 Tryz.underlying9 rfl rfl rfl | exact op_bytesStr (b := ⟨#[47]⟩) (m := 1) rfl Tryz.underlying146 Tryz.underlying5 Tryz.underlying9 rfl rfl rfl | exact op_bytesStr (b := ⟨#[bat (ba s) i]⟩) (m := 1) rfl Tryz.underlying146 Tryz.underlying5 Tryz.underlying9 rfl rfl rfl)) ?_
         refine yA rfl rfl (fun _ => op_cat rfl rfl rfl (by rw [hqz]; show q.length + 1 ≤ _; omega)) ?_
         refine yP rfl rfl (op_indexAddrAO (j := 0) rfl Tryz.underlying48 Tryz.sizeOf9 rfl rfl (by omega) (by omega) rfl) (trivial) ?_
         refine yEN rfl rfl rfl (op_storeEl (j := 0) (i := (ps ++ [q]).length - 1) rfl Tryz.sizeOf9 rfl rfl (by omega) rfl (by rw [sflat_len]; omega)) (⟨.inl rfl, ⟨.inl rfl, ⟨.inl rfl, ⟨.inl rfl, ⟨.inl rfl, trivial⟩⟩⟩⟩⟩) (trivial) ?_
         refine RP.nil rfl ?_
         refine AWp_regL ?_
         refine zv3 ?_
         have hz48 := (g48 (show i + 1 < s.length by omega)).2 h7
         have hp9 := hz.esc hi1 rfl hz126 hz48 (.inl rfl)
         refine ⟨(i + 1 + 1, ps ++ [q ++ [126]], g), σ.length + 1, hp9, by have := hp9.le; simp only; omega, by simp, ⟨rfl, rfl, by rw [List.length_append, List.length_append]; rfl, rfl, trivial⟩, closed_own 1 hcl ?_, ?_, ?_⟩
         ·simp [ownLt, AO.cells]; rw [AV.ltL_iff]; intro a ha; rcases List.mem_or_eq_of_mem_set ha with h | rfl; exact (AV.ltL_iff _ _).1 (flat_lt (srow_lt _ _)) a h; trivial
         ·simp [ltE, AV.lt]
         ·refine (take_own 1).trans ?_
          rw [← srow_setl ps q (q ++ [126]), ← ba_app]; rfl
     ·(try rw [h5]); replace h5 := zcl h5
      have hn126 : ¬ s[i]? = some 126 := fun e => h5 ((g126 (show i < s.length by omega)).1 e)
      refine AWp_skip ?_
      refine AWp_drawL #[0, 0, 2, 6, 0, 0, 32, 96, 240, 496, 0, 1024, 3072, 8176, 16383, 32767] Tryz.mixed (by decide +kernel) (by decide +kernel) ?_
      refine zd2 ?_
      refine yP rfl rfl (op_lenS rfl rfl Tryz.underlying48 rfl rfl ⟨1, _, get_own 0⟩) (trivial) ?_
      refine zd3 ?_
      refine yP rfl rfl (op_lenS rfl rfl Tryz.underlying48 rfl rfl ⟨1, _, get_own 0⟩) (trivial) ?_
      refine zd1 ?_
      refine yP rfl rfl (op_indexAddrAO (j := 0) rfl Tryz.underlying48 Tryz.sizeOf9 rfl rfl (by omega) (by omega) rfl) (trivial) ?_
      refine yP rfl rfl (op_load1 rfl Tryz.isAgg9 (ldv_el (j := 0) (i := (ps ++ [q]).length - 1) rfl hlst (by omega))) (trivial) ?_
      refine zd1 ?_
      refine yA rfl rfl (fun _ => op_buildSlice [[_]] rfl Tryz.underlying146 Tryz.sizeOf5 Tryz.zeroValue5 rfl (by decide) (by decide) rfl rfl rfl rfl rfl) ?_
      refine yA rfl rfl (fun _ => (by first | exact op_bytesStr (b := ⟨#[126]⟩) (m := 1) rfl Tryz.underlying146 Tryz.underlying5 Tryz.underlying9 rfl rfl rfl | exact op_bytesStr (b := ⟨#[47]⟩) (m := 1) rfl Tryz.underlying146 Tryz.underlying5 Tryz.underlying9 rfl rfl rfl | exact op_bytesStr (b := ⟨#[bat (ba s) i]⟩) (m := 1) rfl Tryz.underlying146 Tryz.underlying5 Tryz.underlying9 rfl rfl rfl)) ?_
      refine yA rfl rfl (fun _ => op_cat rfl rfl rfl (by rw [hqz]; show q.length + 1 ≤ _; omega)) ?_
      refine yP rfl rfl (op_indexAddrAO (j := 0) rfl Tryz.underlying48 Tryz.sizeOf9 rfl rfl (by omega) (by omega) rfl) (trivial) ?_
      refine yEN rfl rfl rfl (op_storeEl (j := 0) (i := (ps ++ [q]).length - 1) rfl Tryz.sizeOf9 rfl rfl (by omega) rfl (by rw [sflat_len]; omega)) (⟨.inl rfl, ⟨.inl rfl, ⟨.inl rfl, ⟨.inl rfl, ⟨.inl rfl, trivial⟩⟩⟩⟩⟩) (trivial) ?_
      refine RP.nil rfl ?_
      refine AWp_regL ?_
      refine zv3 ?_
      have hzb : s[i]? = some (bat (ba s) i) := (get_is (show i < s.length by omega)).2 rfl
      have hp9 := hz.byte hi1 rfl hzb (fun e => hn47 (hzb.trans (congrArg some e))) (fun e => hn126 (hzb.trans (congrArg some e)))
      refine ⟨(i + 1, ps ++ [q ++ [bat (ba s) i]], g), σ.length + 1, hp9, by have := hp9.le; simp only; omega, by simp, ⟨rfl, rfl, by rw [List.length_append, List.length_append]; rfl, rfl, trivial⟩, closed_own 1 hcl ?_, ?_, ?_⟩
      ·simp [ownLt, AO.cells]; rw [AV.ltL_iff]; intro a ha; rcases List.mem_or_eq_of_mem_set ha with h | rfl; exact (AV.ltL_iff _ _).1 (flat_lt (srow_lt _ _)) a h; trivial
      ·simp [ltE, AV.lt]
      ·refine (take_own 1).trans ?_
       rw [← srow_setl ps q (q ++ [bat (ba s) i]), ← ba_app]; rfl
   ·(try rw [h3]); replace h3 := zcl h3
    refine AWp_exit ?_
    refine AWp_seq ?_
    have hie : i = s.length := by omega
    subst hie
    obtain ⟨hE, hN⟩ := hz.done hs0 h47
    refine AWp_freezeAO 4 0 g 1 L.length (srow L) rfl rfl (srow_el _) (srow_len _) (by decide) ?_ (by decide)
    refine AWp_regL ?_
    refine zv3 ?_
    refine zrt ?_
    rw [hN, pEi_n hE]
    exact ResQ_2 rfl rfl hcl (by simp [AV.lt, AV.ltL]) (Ret_of rfl)
end Lg
set_option maxRecDepth 20000
set_option maxHeartbeats 4000000
namespace Lg
open Go Go.Proofs Go.RowKit
variable [GLay] 
end Lg
set_option maxRecDepth 20000
set_option maxHeartbeats 4000000
namespace Lg
open Go Go.Proofs Go.RowKit
variable [GLay] 
theorem rptrQ_c (s : ByteArray) (σ : List AO) (hs : s.size ≤ 1000000) : ACalls Tryz.prog 41 [.str s] σ (Ret (.tup [.sl false 1 (srow (pN s.data.toList)), .int .i64 (pEi s.data.toList)]) σ) := by
  have hl : s.data.toList.length = s.size := Array.length_toList ..
  have h := rptr_c s.data.toList σ (by omega)
  rw [← ba_eta] at h; exact h
theorem rfindQ_c (v : JV) (key : ByteArray) (cs : List AV) (σ : List AO) (hc : vcells v = cs) (hb : v.m.length ≤ 1000000) : ACalls Tryz.prog 43 [.agg cs, .str key] σ (Ret (.tup [.agg (vcells (jfD v key)), .bool (jfB v key)]) σ) := by
  subst hc; exact FindR.ret (rfind_c v key σ hb)
end Lg
set_option maxRecDepth 20000
set_option maxHeartbeats 4000000
namespace Lg
open Go Go.Proofs Go.RowKit
variable [GLay] 
theorem rget_0 (f : Bool) (v : JV) (cs : List AV) (σ : List AO) (hc : vcells v = cs) : ACalls Tryz.prog 17 [.agg cs, .sl f 1 (srow [])] σ (Ret (.tup [.agg (vcells (jget [] v).1), .bool (jget [] v).2]) σ) := by
 refine ACalls_bodyC Tryz.func17 rfl Tryz.ntmps17 (by rw [Tryz.results17]; exact (.ck Tryz.isAgg28 Tryz.sizeOf28 (.t .nil))) (Nat.le_of_ble_eq_true rfl) (fun hcl hal => ?_)
 subst hc
 rw [vcells_eq v]
 refine zw3 ?_
 refine AWp_seq ?_
 refine zu2 ?_
 refine zt rfl (op_eqlT rfl rfl rfl rfl) ?_
 refine zon ?_
 refine AWp_condT rfl ?_
 refine zw3 ?_
 refine zrt ?_
 rw [jget, vcells_eq v]
 exact RQ_ret (rkvs_cons (rkv_ck rfl rfl rfl) (rkvs_cons (rkv_t rfl) rfl)) hcl (by simp [rks, AV.lt, AV.ltL]) ⟨rfl, rfl⟩

theorem rget_1 (r : List BL) (ih : ∀ (v : JV) (cs : List AV) (es : List (List AV)) (σ : List AO), vcells v = cs → es = srow r → jb v → ACalls Tryz.prog 17 [.agg cs, .sl false 1 es] σ (Ret (.tup [.agg (vcells (jget r v).1), .bool (jget r v).2]) σ)) (f : Bool) (nm : BL) (v : JV) (cs : List AV) (σ : List AO) (hc : vcells v = cs) (hjb : jb v) (hnm : nm.length ≤ 1000000) : ACalls Tryz.prog 17 [.agg cs, .sl f 1 (srow (nm :: r))] σ (Ret (.tup [.agg (vcells (jget (nm :: r) v).1), .bool (jget (nm :: r) v).2]) σ) := by
 obtain ⟨hb1, hb2, hb3, hb4, hb5, hb6⟩ := (jb_eq v).1 hjb
 have hll := lcells_length v.l
 have hix : ∀ (nm : BL) (τ : List AO), nm.length ≤ 1000000 → ACalls Tryz.prog 42 [.str (ba nm), .int .i64 ((lcells v.l).length : Int), .bool false] τ (Ret (.tup [.int .i64 (jixN nm v.l.length false), .bool (jixO nm v.l.length false)]) τ) := by
  intro nm τ hm; rw [hll]; exact ridx_c nm v.l.length false τ hm (by omega)
 refine ACalls_bodyC Tryz.func17 rfl Tryz.ntmps17 (by rw [Tryz.results17]; exact (.ck Tryz.isAgg28 Tryz.sizeOf28 (.t .nil))) (Nat.le_of_ble_eq_true rfl) (fun hcl hal => ?_)
 subst hc
 rw [vcells_eq v]
 have hsl : 1 ≤ (srow (nm :: r)).length := by rw [srow_len, List.length_cons]; omega
 refine zw3 ?_
 refine AWp_seq ?_
 refine zu2 ?_
 refine zt rfl (op_eqlF rfl rfl rfl (by rw [srow_len, List.length_cons]; omega)) ?_
 refine zon ?_
 refine AWp_condF rfl ?_
 refine AWp_skip ?_
 refine AWp_seq ?_
 refine zw3 ?_
 refine AWp_cond rfl (fun h1 => ?_) (fun h1 => ?_)
 ·(try rw [h1]); replace h1 := zcl h1
  refine AWp_seq ?_
  refine AWp_drawL #[0, 1, 3, 0, 8, 24, 63, 127, 255, 255, 511, 2047] Tryz.mixed (by decide +kernel) (by decide +kernel) ?_
  refine zd1 ?_
  refine yA rfl rfl (fun _ => op_indexAddr rfl Tryz.underlying48 Tryz.sizeOf9 rfl rfl (by omega) (rfl)) ?_
  refine zp1 ?_
  refine zd1 ?_
  refine zp1 ?_
  refine zd1 ?_
  refine yP rfl rfl (zc rfl (hix nm _ hnm)) (trivial) ?_
  refine zd5 ?_
  refine RP.nil rfl ?_
  refine AWp_seq ?_
  refine zw2 ?_
  refine AWp_cond rfl (fun h2 => ?_) (fun h2 => ?_)
  ·(try rw [h2]); replace h2 := zcl h2
   refine zw3 ?_
   refine AWp_boxLeO 1 (bs' := [.int .i64 vz.kind, .bool vz.b, .bool vz.n.neg, .str vz.n.digits, .int .i64 vz.n.exp, .str vz.s, .sl false 8 (lcells vz.l), .sl false 9 (mcells vz.m)]) rfl ⟨AVle.refl _, AVle.refl _, AVle.refl _, AVle.refl _, AVle.refl _, AVle.refl _, nilL, nilM, trivial⟩ ?_
   refine zrt ?_
   rw [jget_no4 h1 (by simpa using h2), vcells_eq]
   exact RQ_ret (rkvs_cons (rkv_ck rfl rfl rfl) (rkvs_cons (rkv_t rfl) rfl)) hcl (by simp [rks, AV.lt, AV.ltL]) ⟨rfl, rfl⟩
  ·(try rw [h2]); replace h2 := zcl h2
   obtain ⟨k, hk, hkl⟩ := jix_nat (nm := nm) (n := v.l.length) (by simpa using h2)
   obtain ⟨a, ha⟩ : ∃ a, v.l[k]? = some a := ⟨_, List.getElem?_eq_getElem hkl⟩
   rw [hk]
   refine AWp_skip ?_
   refine AWp_seq ?_
   refine AWp_drawL #[0, 1, 0, 7, 15, 0, 32, 127, 255, 255, 1023, 2047] Tryz.mixed (by decide +kernel) (by decide +kernel) ?_
   refine zd1 ?_
   refine zp1 ?_
   refine zd2 ?_
   rw [vcells_eq a]
   refine zp1 ?_
   refine zd1 ?_
   refine yA rfl rfl (fun _ => (by first | exact op_sliceSl _ _ rfl Tryz.underlying48 Tryz.sizeOf9 rfl (by first | exact ⟨_, rfl⟩ | rfl) (by first | exact ⟨_, rfl⟩ | rfl) (by omega) (by omega) (by omega) | exact op_sliceArr _ _ rfl Tryz.underlying48 Tryz.sizeOf9 rfl GET (by first | exact ⟨_, rfl⟩ | rfl) (by first | exact ⟨_, rfl⟩ | rfl) (by omega) (by omega) (by omega))) ?_
   refine yP rfl rfl (zc rfl (ih a _ _ _ (vcells_eq a) (srow_tail nm r) (lb_get hb5 ha))) (trivial) ?_
   rw [vcells_eq (jget r a).1]
   refine zd2 ?_
   refine yEN rfl rfl rfl (zoa) (⟨.inl rfl, ⟨.inl rfl, ⟨.inl rfl, trivial⟩⟩⟩) (trivial) ?_
   refine zd1 ?_
   refine RP.nil rfl ?_
   refine zrt ?_
   rw [jget_4 h1 (by simpa using h2) hk ha, vcells_eq]
   exact RQ_ret (rkvs_cons (rkv_ck rfl rfl rfl) (rkvs_cons (rkv_t rfl) rfl)) hcl (by simp [rks, AV.lt, AV.ltL]) ⟨rfl, rfl⟩
 ·(try rw [h1]); replace h1 := zcl h1
  refine AWp_skip ?_
  refine AWp_seq ?_
  refine AWp_drawL #[0, 0, 2, 6, 15, 31, 63, 63, 0, 383, 1023] Tryz.mixed (by decide +kernel) (by decide +kernel) ?_
  refine zp1 ?_
  refine zd1 ?_
  refine yA rfl rfl (fun _ => op_indexAddr rfl Tryz.underlying48 Tryz.sizeOf9 rfl rfl (by omega) (rfl)) ?_
  refine zp1 ?_
  refine yP rfl rfl (zc rfl (rfindQ_c v (ba nm) _ _ (vcells_eq v) hb4)) (trivial) ?_
  rw [vcells_eq (jfD v (ba nm))]
  refine zd3 ?_
  refine yE rfl rfl (zoa) (⟨.inr (by rw [← vcells_eq (jfD v (ba nm))]; exact zc rfl (rfindQ_c v (ba nm) _ _ (vcells_eq v) hb4)), ⟨.inr zoa, ⟨.inr zoa, trivial⟩⟩⟩) (trivial) ?_
  refine yEN rfl rfl rfl (zoa) (⟨.inl rfl, ⟨.inl rfl, ⟨.inl rfl, trivial⟩⟩⟩) (⟨rfl, trivial⟩) ?_
  refine zd1 ?_
  refine RP.nil rfl ?_
  refine AWp_seq ?_
  refine zw2 ?_
  refine AWp_cond rfl (fun h3 => ?_) (fun h3 => ?_)
  ·(try rw [h3]); replace h3 := zcl h3
   refine zw3 ?_
   refine AWp_boxLeO 1 (bs' := [.int .i64 vz.kind, .bool vz.b, .bool vz.n.neg, .str vz.n.digits, .int .i64 vz.n.exp, .str vz.s, .sl false 8 (lcells vz.l), .sl false 9 (mcells vz.m)]) rfl ⟨AVle.refl _, AVle.refl _, AVle.refl _, AVle.refl _, AVle.refl _, AVle.refl _, nilL, nilM, trivial⟩ ?_
   refine zrt ?_
   rw [jget_no5 h1 (by simpa using h3), vcells_eq]
   exact RQ_ret (rkvs_cons (rkv_ck rfl rfl rfl) (rkvs_cons (rkv_t rfl) rfl)) hcl (by simp [rks, AV.lt, AV.ltL]) ⟨rfl, rfl⟩
  ·(try rw [h3]); replace h3 := zcl h3
   refine AWp_skip ?_
   refine AWp_seq ?_
   refine AWp_drawL #[0, 0, 2, 7, 15, 15, 63, 127] Tryz.mixed (by decide +kernel) (by decide +kernel) ?_
   refine zp1 ?_
   refine zd1 ?_
   refine yA rfl rfl (fun _ => (by first | exact op_sliceSl _ _ rfl Tryz.underlying48 Tryz.sizeOf9 rfl (by first | exact ⟨_, rfl⟩ | rfl) (by first | exact ⟨_, rfl⟩ | rfl) (by omega) (by omega) (by omega) | exact op_sliceArr _ _ rfl Tryz.underlying48 Tryz.sizeOf9 rfl GET (by first | exact ⟨_, rfl⟩ | rfl) (by first | exact ⟨_, rfl⟩ | rfl) (by omega) (by omega) (by omega))) ?_
   refine yP rfl rfl (zc rfl (ih (jfD v (ba nm)) _ _ _ (vcells_eq _) (srow_tail nm r) (jfD_jb hjb))) (trivial) ?_
   rw [vcells_eq (jget r (jfD v (ba nm))).1]
   refine zd2 ?_
   refine yEN rfl rfl rfl (zoa) (⟨.inl rfl, ⟨.inl rfl, trivial⟩⟩) (trivial) ?_
   refine zd1 ?_
   refine RP.nil rfl ?_
   refine zrt ?_
   rw [jget_5 h1 (by simpa using h3), vcells_eq]
   exact RQ_ret (rkvs_cons (rkv_ck rfl rfl rfl) (rkvs_cons (rkv_t rfl) rfl)) hcl (by simp [rks, AV.lt, AV.ltL]) ⟨rfl, rfl⟩
end Lg
set_option maxRecDepth 20000
set_option maxHeartbeats 4000000
namespace Lg
open Go Go.Proofs Go.RowKit
variable [GLay] 
noncomputable def ptQ (s : ByteArray) : List BL × Int := open Classical in if (s.size ≤ 500 ∧ Utf s) ∧ pE s.data.toList = none then (pN s.data.toList, 1) else ([], 0)
theorem ptQ_y {s : ByteArray} (h1 : s.size ≤ 500) (h2 : Utf s) (h3 : ¬ pEi s.data.toList ≥ 0) : ptQ s = (pN s.data.toList, 1) := by
  have h4 : pE s.data.toList = none := by
    cases h : pE s.data.toList with
    | none => rfl
    | some i => rw [pEi_s h] at h3; omega
  unfold ptQ; rw [if_pos ⟨⟨h1, h2⟩, h4⟩]
theorem ptQ_n {s : ByteArray} (h : ¬ (s.size ≤ 500 ∧ Utf s)) : ptQ s = ([], 0) := by
  unfold ptQ; rw [if_neg (fun e => h e.1)]
theorem ptQ_e {s : ByteArray} (h : pEi s.data.toList ≥ 0) : ptQ s = ([], 0) := by
  unfold ptQ; rw [if_neg (fun e => by rw [pEi_n e.2] at h; omega)]
theorem ptrL_c (s : ByteArray) (σ : List AO) (hs : s.size ≤ 140737488355328) : ACalls Tryz.prog 16 [.str s] σ (Ret (.tup [.sl false 1 (srow (ptQ s).1), .int .i64 (ptQ s).2]) σ) := by
 refine ACalls_body Tryz.func16 rfl Tryz.ntmps16 (res2 Tryz.results16) (Nat.le_of_ble_eq_true rfl) (fun hcl hal => ?_)
 refine zw2 ?_
 refine zu1 ?_
 refine zt rfl (zc rfl (text_c s _ hs)) ?_
 refine zv1 ?_
 refine AWp_seq ?_
 refine zu4 ?_
 refine zsp 12 rfl (fun h1 => ?_) fun h1 => ?_
 ·rw [h1]; replace h1 := zcl h1
  refine zv3 ?_
  refine AWp_condT rfl ?_
  refine zw2 ?_
  refine AWp_slotLe 2 rfl (AVle.nils false 1) ?_ (by decide)
  refine zrt ?_
  rw [ptQ_n (fun e => by omega)]
  exact ResQ_20 rfl rfl hcl (by simp [rks, AV.lt, AV.ltL, AV.ltLL]) ⟨rfl, rfl⟩
 ·rw [h1]; replace h1 := zcl h1
  refine zv3 ?_
  refine AWp_cond rfl (fun h2 => ?_) (fun h2 => ?_)
  ·(try rw [h2]); replace h2 := zcl h2
   refine zw2 ?_
   refine AWp_slotLe 2 rfl (AVle.nils false 1) ?_ (by decide)
   refine zrt ?_
   rw [ptQ_n (fun e => by rw [pb_t e.2] at h2; cases h2)]
   exact ResQ_20 rfl rfl hcl (by simp [rks, AV.lt, AV.ltL, AV.ltLL]) ⟨rfl, rfl⟩
  ·(try rw [h2]); replace h2 := zcl h2
   refine AWp_skip ?_
   refine zu1 ?_
   refine zt rfl (zc rfl (rptrQ_c s _ (by omega))) ?_
   refine zv5 ?_
   refine AWp_seq ?_
   refine zw2 ?_
   refine AWp_cond rfl (fun h3 => ?_) (fun h3 => ?_)
   ·(try rw [h3]); replace h3 := zcl h3
    refine zw2 ?_
    refine AWp_slotLe 2 rfl (AVle.nils false 1) ?_ (by decide)
    refine zrt ?_
    rw [ptQ_e (by assumption)]
    exact ResQ_20 rfl rfl hcl (by simp [rks, AV.lt, AV.ltL, AV.ltLL]) ⟨rfl, rfl⟩
   ·(try rw [h3]); replace h3 := zcl h3
    refine AWp_skip ?_
    refine zw3 ?_
    refine zrt ?_
    rw [ptQ_y (s := s) (by omega) ((pb_iff _).1 h2) (by omega)]
    exact ResQ_20 rfl rfl hcl (by simp [rks, AV.lt, AV.ltL, AV.ltLL]) ⟨rfl, rfl⟩
end Lg
set_option maxRecDepth 20000
set_option maxHeartbeats 4000000
namespace Lg
open Go Go.Proofs Go.RowKit
variable [GLay] [ML] [ET] [S10]
theorem rget_c : ∀ (l : List BL) (f : Bool) (v : JV) (cs : List AV) (σ : List AO), (∀ nm ∈ l, nm.length ≤ 1000000) → vcells v = cs → jb v → ACalls Tryz.prog 17 [.agg cs, .sl f 1 (srow l)] σ (Ret (.tup [.agg (vcells (jget l v).1), .bool (jget l v).2]) σ)
  | [], f, v, cs, σ, _, hc, _ => rget_0 f v cs σ hc
  | nm :: r, f, v, cs, σ, hl, hc, hb => rget_1 r (by
      rintro v cs es σ hc rfl hb
      exact rget_c r false v cs σ (fun n hn => hl n (List.mem_cons_of_mem _ hn)) hc hb) f nm v cs σ hc hb (hl nm (List.mem_cons_self ..))
theorem get_at {v : JV} {n : JNode} (h : GT [] v n) : (∀ r ∈ (ptQ n.path).1, r.length ≤ 1000000) ∧ (n.path.size ≤ 500 → (ptQ n.path).2 = 1 ∧ (jget (ptQ n.path).1 v).2 = true ∧ n.all = decide ((jget (ptQ n.path).1 v).1.kind = 1) ∧ n.pass = (jget (ptQ n.path).1 v).1.b ∧ n.keys.length = (jget (ptQ n.path).1 v).1.m.length) := by
  obtain ⟨rel, x, h1, h2, h3, h4, h5, h6⟩ := h
  rw [List.nil_append] at h1
  have hsz : n.path.size = (shw rel).length := by rw [h1, ba_size]
  by_cases hs : n.path.size ≤ 500
  · have hq : ptQ n.path = (rel, 1) := by
      unfold ptQ
      have hu : Utf n.path := by rw [h1]; exact shw_utf rel h6
      have hp := pN_shw rel
      rw [if_pos ⟨⟨hs, hu⟩, by rw [h1, ba_toList]; exact hp.1⟩, h1, ba_toList, hp.2]
    rw [hq]
    show (∀ r ∈ rel, r.length ≤ 1000000) ∧ (n.path.size ≤ 500 → (1 : Int) = 1 ∧ (jget rel v).2 = true ∧ n.all = decide ((jget rel v).1.kind = 1) ∧ n.pass = (jget rel v).1.b ∧ n.keys.length = (jget rel v).1.m.length)
    rw [h2]
    exact ⟨fun r hr => by have := shw_mem_len rel r hr; omega, fun _ => ⟨rfl, rfl, h3, h4, h5⟩⟩
  · rw [ptQ_n (fun e => hs e.1)]
    exact ⟨fun r hr => by simp at hr, fun h => absurd h hs⟩
theorem schemaPaths_c (s : ByteArray) (σ : List AO) : ACalls Tryz.prog 4 [.str s] σ (Ret (.bool true) σ) := by
 refine ACalls_body Tryz.func4 rfl Tryz.ntmps4 (res1 Tryz.results4) (Nat.le_of_ble_eq_true rfl) (fun hcl hal => ?_)
 refine zw1 ?_
 refine zsr ?_
 refine zt rfl (zc rfl (up11_c _)) ?_
 refine zv1 ?_
 refine zu1 ?_
 refine zt rfl (zc rfl (value_c s _)) ?_
 have hva := rValue_ok s
 generalize rValue s = z at hva ⊢
 obtain ⟨v, ok⟩ := z
 dsimp only at hva ⊢
 rw [vcells_eq v]
 refine zv6 ?_
 refine AWp_seq ?_
 refine zw2 ?_
 refine AWp_cond rfl (fun h1 => ?_) (fun h1 => ?_)
 ·(try rw [h1]); replace h1 := zcl h1
  refine zw2 ?_
  refine zrt ?_
  exact ResQ_1 rfl hcl trivial (Ret_of rfl)
 ·(try rw [h1]); replace h1 := zcl h1
  obtain ⟨_, hvm, hvj, hvs⟩ := hva.resolve_left (fun z => h1 z.1)
  refine AWp_skip ?_
  refine zu1 ?_
  refine zt rfl (zc rfl (scomp_c v _ _ (vcells_eq _) hvj hvm (by omega))) ?_
  have hsg := scomp_g (v := v) hvm hvj (by omega)
  have hsn := pcomp_nil (v := v)
  generalize pcomp v = w at hsg hsn ⊢
  obtain ⟨l, c, pp⟩ := w
  dsimp only at hsg hsn ⊢
  refine zv5 ?_
  refine AWp_seq ?_
  refine zu1 ?_
  refine zt rfl (op_neSpE rfl Tryz.underlying33 rfl) ?_
  refine zon ?_
  refine AWp_cond rfl (fun h2 => ?_) (fun h2 => ?_)
  ·(try rw [h2]); replace h2 := zcl h2
   have hnil : l = [] := hsn (by simpa using h2)
   refine zu4 ?_
   refine ztG rfl rfl (op_eqlT rfl rfl rfl (by rw [hnil]; rfl)) ?_
   refine zv2 ?_
   refine zrt ?_
   exact ResQ_1 rfl hcl trivial (Ret_of rfl)
  ·(try rw [h2]); replace h2 := zcl h2
   have h2 : c = 0 := by simpa using h2
   obtain ⟨hG, hO⟩ := hsg h2
   have hnl := noder_len l
   have hle := hO.le
   have hlp : 0 < l.length := List.length_pos_iff.2 hG.ne
   refine AWp_skip ?_
   refine zu2 ?_
   refine zt rfl (op_makeSlice1T rfl (n := (noder l).length) (c := .int .i64 0) (b := .int .i64 0) rfl Tryz.underlying44 Tryz.type3 rfl rfl rfl (fun s => .int _ _) rfl rfl (by omega) (by omega) (by decide)) ?_
   refine zv1 ?_
   refine AWp_seq ?_
   refine zw1 ?_
   refine AWp_block ?_
   -- loop 0 LIVE 2:assign 3:assign 4:alloc 6:assign 8:assign 9:assign
   refine AWp_heap (σ' := σ ++ [.box [.int .i64 v.kind, .bool v.b, .bool v.n.neg, .str v.n.digits, .int .i64 v.n.exp, .str v.s, .sl false 8 (lcells v.l), .sl false 9 (mcells v.m)], .arr 1 0 (cntc (allN (l.take 0)) l.length)]) (by rw [show allN (l.take 0) = [] from rfl, cntc_nil, ← hnl]; rfl) ?_
   refine AWp_loop (ι := Nat) (fun i => i ≤ l.length) (fun i => ⟨[], [(2, .bool false), (3, .bool true), (4, .ptr (σ.length + 0) 0), (6, .sl false 4 (noder l)), (8, .arr (σ.length + 1) 0 1 0 l.length), (9, .int .i64 (i : Int))]⟩) (fun i => σ ++ [.box [.int .i64 v.kind, .bool v.b, .bool v.n.neg, .str v.n.digits, .int .i64 v.n.exp, .str v.s, .sl false 8 (lcells v.l), .sl false 9 (mcells v.m)], .arr 1 0 (cntc (allN (l.take i)) l.length)]) (fun i => l.length - i) (0) (Nat.zero_le _) ?_ rfl (fun i hi => ?_)
   ·exact ⟨rfl, rfl, rfl, rfl, rfl, by rw [← hnl]; rfl, rfl, trivial⟩
   refine AWp_seq ?_
   refine zw4 ?_
   refine AWp_cond rfl (fun h3 => ?_) (fun h3 => ?_)
   ·(try rw [h3]); replace h3 := zcl h3
    obtain ⟨n, hn⟩ : ∃ n, l[i]? = some n := ⟨_, List.getElem?_eq_getElem (show i < l.length by omega)⟩
    have hnm := List.mem_of_getElem? hn
    have hga := get_at (hG.gt n hnm)
    have hps := hO.sz n hnm
    have hkz := hO.kz n hnm
    have hkn := hkz.1
    have hyl := keyr_len n.keys
    have habn := hG.ab i n hn
    refine AWp_skip ?_
    refine AWp_seq ?_
    refine AWp_block ?_
    refine AWp_seq ?_
    refine zw1 ?_
    refine AWp_block ?_
    -- loop 1 LIVE 2:assign 3:assign 4:alloc 6:assign 8:assign 9:assign 10:assign
    refine AWp_loop (ι := Nat) (fun k => k ≤ i) (fun k => ⟨[], [(2, .bool false), (3, .bool true), (4, .ptr (σ.length + 0) 0), (6, .sl false 4 (noder l)), (8, .arr (σ.length + 1) 0 1 0 l.length), (9, .int .i64 (i : Int)), (10, .int .i64 (k : Int))]⟩) (fun k => σ ++ [.box [.int .i64 v.kind, .bool v.b, .bool v.n.neg, .str v.n.digits, .int .i64 v.n.exp, .str v.s, .sl false 8 (lcells v.l), .sl false 9 (mcells v.m)], .arr 1 0 (cntc (allN (l.take i)) l.length)]) (fun k => i - k) (0) (Nat.zero_le _) ?_ rfl (fun k hk0 => ?_)
    ·exact ⟨rfl, rfl, rfl, rfl, rfl, rfl, rfl, rfl, trivial⟩
    refine AWp_seq ?_
    refine zw3 ?_
    refine AWp_cond rfl (fun h4 => ?_) (fun h4 => ?_)
    ·(try rw [h4]); replace h4 := zcl h4
     obtain ⟨n2, hnk⟩ : ∃ n, l[k]? = some n := ⟨_, List.getElem?_eq_getElem (show k < l.length by omega)⟩
     refine AWp_skip ?_
     refine AWp_seq ?_
     refine AWp_block ?_
     refine AWp_seq ?_
     refine AWp_drawL #[0, 0, 3, 7, 15, 0, 0, 96, 224, 480, 1023] Tryz.mixed (by decide +kernel) (by decide +kernel) ?_
     refine zd2 ?_
     refine yA rfl rfl (fun _ => op_indexAddr rfl Tryz.underlying31 Tryz.sizeOf47 rfl rfl (by omega) (noder_get hnk)) ?_
     refine zd1 ?_
     refine zp1 ?_
     refine zd2 ?_
     refine yA rfl rfl (fun _ => op_indexAddr rfl Tryz.underlying31 Tryz.sizeOf47 rfl rfl (by omega) (noder_get hn)) ?_
     refine zd1 ?_
     refine zp1 ?_
     refine zd1 ?_
     refine RP.nil rfl ?_
     refine AWp_cond rfl (fun h5 => ?_) (fun h5 => ?_)
     ·(try rw [h5]); replace h5 := zcl h5
      exact absurd h5 (nd_path hO.nd hnk hn (by omega))
     ·(try rw [h5]); replace h5 := zcl h5
      refine AWp_skip ?_
      refine AWp_regL ?_
      refine zv3 ?_
      refine ⟨k + 1, σ.length + 2, by omega, by omega, by simp, ⟨rfl, rfl, rfl, rfl, rfl, rfl, rfl, rfl, trivial⟩, closed_own 2 hcl (by simp [ownLt, AO.cells, AV.ltL, AV.lt]), ?_, ?_⟩
      ·simp [ltE, AV.lt, AV.ltL]
      ·refine (take_own 2).trans ?_
       rfl
    ·(try rw [h4]); replace h4 := zcl h4
     refine AWp_exit ?_
     refine zu2 ?_
     refine zt rfl (op_indexAddr rfl Tryz.underlying31 Tryz.sizeOf47 rfl rfl (by omega) (noder_get hn)) ?_
     refine zg2 ?_
     refine zt rfl (zc rfl (ptrL_c n.path _ (by omega))) ?_
     refine zv5 ?_
     refine zu2 ?_
     refine zt rfl (zc rfl (rget_c (ptQ n.path).1 false v _ _ hga.1 (vcells_eq v) hvj)) ?_
     have hX := hga.2
     generalize (ptQ n.path).2 = is at hX ⊢
     generalize jget (ptQ n.path).1 v = jx at hX ⊢
     obtain ⟨x, has⟩ := jx
     dsimp only at hX ⊢
     rw [vcells_eq x]
     refine zv6 ?_
     refine AWp_seq ?_
     refine AWp_join (ι := Unit) (fun b => True) (fun b => ⟨[], [(2, .bool false), (3, .bool true), (4, .ptr (σ.length + 0) 0), (6, .sl false 4 (noder l)), (8, .arr (σ.length + 1) 0 1 0 l.length), (9, .int .i64 (i : Int)), (128, .bool false)]⟩) (fun b => σ ++ [.box [.int .i64 v.kind, .bool v.b, .bool v.n.neg, .str v.n.digits, .int .i64 v.n.exp, .str v.s, .sl false 8 (lcells v.l), .sl false 9 (mcells v.m)], .arr 1 0 (cntc (allN (l.take i)) l.length), .box [.int .i64 x.kind, .bool x.b, .bool x.n.neg, .str x.n.digits, .int .i64 x.n.exp, .str x.s, .sl false 8 (lcells x.l), .sl false 9 (mcells x.m)]]) ?_ (fun b hj => ?_)
     ·skip
      refine AWp_drawL #[0, 0, 3, 7, 15, 31, 63, 127, 255, 511, 1023, 2047, 4095, 8191, 16383, 32767, 32767, 131071, 262143, 524287, 32767, 1081343, 3178495, 8388607, 16777215, 33554431, 67108863, 67108863, 268435455, 536870911, 1073741823, 67108863, 2214592511, 8589934591, 17179869183, 34359738367, 68719476735, 68719476735, 274877906943, 549755813887, 1099511627775, 2199023255551, 68719476735, 4466765987839, 13262859010047, 35184372088831, 70368744177663, 140737488355327] Tryz.mixed (by decide +kernel) (by decide +kernel) ?_
      refine zd2 ?_
      refine yA rfl rfl (fun _ => op_indexAddr rfl Tryz.underlying31 Tryz.sizeOf47 rfl rfl (by omega) (noder_get hn)) ?_
      refine zd1 ?_
      refine zp1 ?_
      refine zd3 ?_
      refine zspr 88 rfl (fun h6 => ?_) fun h6 => ?_
      ·rw [h6]; replace h6 := zcl h6
       obtain ⟨his, hhas, ha, hp, hk⟩ := hX (by omega)
       subst hhas
       refine zd1 ?_
       refine yAG rfl rfl rfl (fun _ => op_eqlF rfl rfl rfl (by omega)) ?_
       refine zd7 ?_
       refine yAG rfl rfl rfl (fun _ => op_indexAddr rfl Tryz.underlying31 Tryz.sizeOf47 rfl rfl (by omega) (noder_get hn)) ?_
       refine zd1 ?_
       refine zp1 ?_
       rw [ha]
       refine zd1 ?_
       refine zp1 ?_
       refine zd1 ?_
       refine yAG rfl rfl rfl (fun _ => op_bneqS rfl Tryz.underlying4 rfl rfl) ?_
       refine zd4 ?_
       refine yAG rfl rfl rfl (fun _ => op_indexAddr rfl Tryz.underlying31 Tryz.sizeOf47 rfl rfl (by omega) (noder_get hn)) ?_
       refine zd1 ?_
       refine zp1 ?_
       rw [hp]
       refine zd1 ?_
       refine zp1 ?_
       refine yAG rfl rfl rfl (fun _ => op_bneqS rfl Tryz.underlying4 rfl rfl) ?_
       refine zd4 ?_
       refine yAG rfl rfl rfl (fun _ => op_indexAddr rfl Tryz.underlying31 Tryz.sizeOf47 rfl rfl (by omega) (noder_get hn)) ?_
       refine zd1 ?_
       refine zp1 ?_
       refine zd2 ?_
       refine zp1 ?_
       refine zd1 ?_
       refine yAG rfl rfl rfl (fun _ => op_neqF rfl rfl rfl (by rw [keyr_len, mcells_length, hk])) ?_
       refine zd2 ?_
       refine RP.nil rfl ?_
       exact ⟨(), trivial, ⟨rfl, rfl, rfl, rfl, rfl, rfl, rfl, rfl, trivial⟩, rfl⟩
      ·rw [h6]; replace h6 := zcl h6
       refine zd30 ?_
       refine zd10 ?_
       refine RP.nil rfl ?_
       exact ⟨(), trivial, ⟨rfl, rfl, rfl, rfl, rfl, rfl, rfl, rfl, trivial⟩, rfl⟩
     ·skip
      refine AWp_condF rfl ?_
      refine AWp_skip ?_
      refine zw1 ?_
      refine AWp_block ?_
      -- loop 2 LIVE 2:assign 3:assign 6:assign 8:assign 9:assign 15:assign
      refine AWp_heap (σ' := σ ++ [.box [.int .i64 v.kind, .bool v.b, .bool v.n.neg, .str v.n.digits, .int .i64 v.n.exp, .str v.s, .sl false 8 (lcells v.l), .sl false 9 (mcells v.m)], .arr 1 0 (cntc (allN (l.take i) ++ kidN (n.keys.take 0)) l.length), .box [.int .i64 x.kind, .bool x.b, .bool x.n.neg, .str x.n.digits, .int .i64 x.n.exp, .str x.s, .sl false 8 (lcells x.l), .sl false 9 (mcells x.m)]]) (by simp [kidN]) ?_
      refine AWp_loop (ι := Nat) (fun k => k ≤ n.keys.length) (fun k => ⟨[], [(2, .bool false), (3, .bool true), (4, .ptr (σ.length + 0) 0), (6, .sl false 4 (noder l)), (8, .arr (σ.length + 1) 0 1 0 l.length), (9, .int .i64 (i : Int)), (15, .int .i64 (k : Int))]⟩) (fun k => σ ++ [.box [.int .i64 v.kind, .bool v.b, .bool v.n.neg, .str v.n.digits, .int .i64 v.n.exp, .str v.s, .sl false 8 (lcells v.l), .sl false 9 (mcells v.m)], .arr 1 0 (cntc (allN (l.take i) ++ kidN (n.keys.take k)) l.length), .box [.int .i64 x.kind, .bool x.b, .bool x.n.neg, .str x.n.digits, .int .i64 x.n.exp, .str x.s, .sl false 8 (lcells x.l), .sl false 9 (mcells x.m)]]) (fun k => n.keys.length - k) (0) (Nat.zero_le _) ?_ rfl (fun k hk0 => ?_)
      ·exact ⟨rfl, rfl, rfl, rfl, rfl, rfl, rfl, rfl, trivial⟩
      refine AWp_seq ?_
      refine zu3 ?_
      refine zt rfl (op_indexAddr rfl Tryz.underlying31 Tryz.sizeOf47 rfl rfl (by omega) (noder_get hn)) ?_
      refine zv4 ?_
      refine AWp_cond rfl (fun h7 => ?_) (fun h7 => ?_)
      ·(try rw [h7]); replace h7 := zcl h7
       obtain ⟨q, hq⟩ : ∃ q, n.keys[k]? = some q := ⟨_, List.getElem?_eq_getElem (show k < n.keys.length by omega)⟩
       have hqz := (hkz.2 q (List.mem_of_getElem? hq)).2.2
       have hdl0 := kidr_len q.kids
       refine AWp_skip ?_
       refine AWp_seq ?_
       refine AWp_block ?_
       refine zw1 ?_
       refine AWp_block ?_
       -- loop 3 LIVE 2:assign 3:assign 6:assign 8:assign 9:assign 15:assign 16:assign
       refine AWp_heap (σ' := σ ++ [.box [.int .i64 v.kind, .bool v.b, .bool v.n.neg, .str v.n.digits, .int .i64 v.n.exp, .str v.s, .sl false 8 (lcells v.l), .sl false 9 (mcells v.m)], .arr 1 0 (cntc (seenK l i n k q 0) l.length), .box [.int .i64 x.kind, .bool x.b, .bool x.n.neg, .str x.n.digits, .int .i64 x.n.exp, .str x.s, .sl false 8 (lcells x.l), .sl false 9 (mcells x.m)]]) (by rw [seenK_0]) ?_
       refine AWp_loop (ι := Nat) (fun j => j ≤ q.kids.length) (fun j => ⟨[], [(2, .bool false), (3, .bool true), (4, .ptr (σ.length + 0) 0), (6, .sl false 4 (noder l)), (8, .arr (σ.length + 1) 0 1 0 l.length), (9, .int .i64 (i : Int)), (15, .int .i64 (k : Int)), (16, .int .i64 (j : Int))]⟩) (fun j => σ ++ [.box [.int .i64 v.kind, .bool v.b, .bool v.n.neg, .str v.n.digits, .int .i64 v.n.exp, .str v.s, .sl false 8 (lcells v.l), .sl false 9 (mcells v.m)], .arr 1 0 (cntc (seenK l i n k q j) l.length), .box [.int .i64 x.kind, .bool x.b, .bool x.n.neg, .str x.n.digits, .int .i64 x.n.exp, .str x.s, .sl false 8 (lcells x.l), .sl false 9 (mcells x.m)]]) (fun j => q.kids.length - j) (0) (Nat.zero_le _) ?_ rfl (fun j hj0 => ?_)
       ·exact ⟨rfl, rfl, rfl, rfl, rfl, rfl, rfl, rfl, rfl, trivial⟩
       refine AWp_seq ?_
       refine zu3 ?_
       refine zt rfl (op_indexAddr rfl Tryz.underlying31 Tryz.sizeOf47 rfl rfl (by omega) (noder_get hn)) ?_
       refine zg3 ?_
       refine zt rfl (op_indexAddr rfl Tryz.underlying45 Tryz.sizeOf55 rfl rfl (by omega) (keyr_get hq)) ?_
       rw [keyc_eq]
       refine zv4 ?_
       refine AWp_cond rfl (fun h8 => ?_) (fun h8 => ?_)
       ·(try rw [h8]); replace h8 := zcl h8
        obtain ⟨d, hd⟩ : ∃ d, q.kids[j]? = some d := ⟨_, List.getElem?_eq_getElem (show j < q.kids.length by omega)⟩
        have hdr := habn d.node (kid_mem hq hd)
        have hdl : d.node.toNat < l.length := by omega
        have hdo : d.node = Int.ofNat d.node.toNat := by have : (d.node.toNat : Int) = d.node := Int.toNat_of_nonneg (by omega); exact this.symm
        have hcb := seenK_le (j := j) hn hq (Int.ofNat d.node.toNat)
        have hcc := hG.cn (Int.ofNat d.node.toNat)
        have hin : ind (0 + 1) (0 + l.length) (Int.ofNat d.node.toNat) ≤ 1 := by unfold ind; split <;> omega
        refine AWp_skip ?_
        refine AWp_seq ?_
        refine AWp_block ?_
        refine zu2 ?_
        refine zt rfl (op_indexAddr rfl Tryz.underlying31 Tryz.sizeOf47 rfl rfl (by omega) (noder_get hn)) ?_
        refine zg3 ?_
        refine zt rfl (op_indexAddr rfl Tryz.underlying45 Tryz.sizeOf55 rfl rfl (by omega) (keyr_get hq)) ?_
        rw [keyc_eq]
        refine zg3 ?_
        refine zt rfl (op_indexAddr rfl Tryz.underlying53 Tryz.sizeOf57 rfl rfl (by omega) (kidr_get hd)) ?_
        refine zv3 ?_
        refine AWp_seq ?_
        refine zu2 ?_
        refine zt rfl (op_leqF rfl rfl rfl (by omega)) ?_
        refine zg4 ?_
        refine ztG rfl rfl (op_geqF rfl rfl rfl (by omega)) ?_
        refine zv1 ?_
        refine AWp_condF rfl ?_
        refine AWp_skip ?_
        refine AWp_regL ?_
        refine zg2 ?_
        refine zt rfl (op_indexAddrAO (j := 1) rfl Tryz.underlying44 Tryz.sizeOf3 rfl rfl (by omega) (by omega) rfl) ?_
        refine zt rfl (op_load1 rfl Tryz.isAgg3 (ldv_el (j := 1) (i := d.node.toNat) rfl (cntc_get _ hdl) (by simp))) ?_
        refine zt rfl (op_add64 rfl rfl rfl (by omega) (by omega)) ?_
        refine zt rfl (op_indexAddrAO (j := 1) rfl Tryz.underlying44 Tryz.sizeOf3 rfl rfl (by omega) (by omega) rfl) ?_
        refine ztN rfl rfl (op_storeEl1 (j := 1) (i := d.node.toNat) rfl Tryz.sizeOf3 rfl rfl rfl rfl (by simp) rfl (by rw [cntc_len]; exact hdl)) ?_
        refine zon ?_
        refine AWp_regL ?_
        refine zv3 ?_
        rw [cntc_set _ hdl]
        refine ⟨j + 1, σ.length + 3, by omega, by omega, by simp, ⟨rfl, rfl, rfl, rfl, rfl, rfl, rfl, rfl, rfl, trivial⟩, closed_own 3 hcl (by simp [ownLt, AO.cells, AV.ltL, AV.lt]), ?_, ?_⟩
        ·simp [ltE, AV.lt, AV.ltL]
        ·refine (take_own 3).trans ?_
         rw [seenK_s hd, hdo]; rfl
       ·(try rw [h8]); replace h8 := zcl h8
        refine AWp_exit ?_
        refine AWp_regL ?_
        refine zv3 ?_
        refine ⟨k + 1, σ.length + 3, by omega, by omega, by simp, ⟨rfl, rfl, rfl, rfl, rfl, rfl, rfl, rfl, trivial⟩, closed_own 3 hcl (by simp [ownLt, AO.cells, AV.ltL, AV.lt]), ?_, ?_⟩
        ·simp [ltE, AV.lt, AV.ltL]
        ·refine (take_own 3).trans ?_
         rw [← seenK_e hq, show q.kids.length = j by omega]; rfl
      ·(try rw [h7]); replace h7 := zcl h7
       refine AWp_exit ?_
       refine AWp_regL ?_
       refine zv3 ?_
       refine ⟨i + 1, σ.length + 2, by omega, by omega, by simp, ⟨rfl, rfl, rfl, rfl, rfl, rfl, rfl, trivial⟩, closed_own 2 hcl (by simp [ownLt, AO.cells, AV.ltL, AV.lt]), ?_, ?_⟩
       ·simp [ltE, AV.lt, AV.ltL]
       ·refine (take_own 2).trans ?_
        rw [allN_take hn, List.take_of_length_le (l := n.keys) (i := k) (by omega)]; rfl
   ·(try rw [h3]); replace h3 := zcl h3
    refine AWp_exit ?_
    refine AWp_seq ?_
    refine zw1 ?_
    refine AWp_block ?_
    -- loop 4 LIVE 2:assign 3:assign 6:assign 8:assign 18:assign
    refine AWp_heap (σ' := σ ++ [.box [.int .i64 v.kind, .bool v.b, .bool v.n.neg, .str v.n.digits, .int .i64 v.n.exp, .str v.s, .sl false 8 (lcells v.l), .sl false 9 (mcells v.m)], .arr 1 0 (cntc (allN l) l.length)]) (by rw [show l.take i = l by rw [List.take_of_length_le (by omega)]]) ?_
    refine AWp_loop (ι := Nat) (fun i => 1 ≤ i ∧ i ≤ l.length) (fun i => ⟨[], [(2, .bool false), (3, .bool true), (6, .sl false 4 (noder l)), (8, .arr (σ.length + 1) 0 1 0 l.length), (18, .int .i64 (i : Int))]⟩) (fun i => σ ++ [.box [.int .i64 v.kind, .bool v.b, .bool v.n.neg, .str v.n.digits, .int .i64 v.n.exp, .str v.s, .sl false 8 (lcells v.l), .sl false 9 (mcells v.m)], .arr 1 0 (cntc (allN l) l.length)]) (fun i => l.length - i) (1) (⟨Nat.le_refl _, by omega⟩) ?_ rfl (fun i hi => ?_)
    ·exact ⟨rfl, rfl, rfl, rfl, rfl, rfl, trivial⟩
    obtain ⟨hi1, hi2⟩ := hi
    refine AWp_seq ?_
    refine zu2 ?_
    refine zt rfl (op_lenS rfl rfl Tryz.underlying44 rfl rfl ⟨_, _, (get_own 1).trans rfl⟩) ?_
    refine zv1 ?_
    refine AWp_cond rfl (fun h9 => ?_) (fun h9 => ?_)
    ·(try rw [h9]); replace h9 := zcl h9
     have hil : i < l.length := by omega
     have hci : (allN l).count (Int.ofNat i) = 1 := by rw [hG.cn]; unfold ind; rw [if_pos ⟨by show ((0 + 1 : Nat) : Int) ≤ (i : Int); omega, by show (i : Int) < ((0 + l.length : Nat) : Int); omega⟩]
     refine AWp_skip ?_
     refine AWp_seq ?_
     refine AWp_block ?_
     refine zu2 ?_
     refine zt rfl (op_indexAddrAO (j := 1) rfl Tryz.underlying44 Tryz.sizeOf3 rfl rfl (by omega) (by omega) rfl) ?_
     refine zt rfl (op_load1 rfl Tryz.isAgg3 (ldv_el (j := 1) (i := i) rfl (cntc_get _ hil) (by simp))) ?_
     refine zt rfl (op_neqF rfl rfl rfl (by rw [hci]; rfl)) ?_
     refine zon ?_
     refine AWp_condF rfl ?_
     refine AWp_skip ?_
     refine AWp_regL ?_
     refine zv3 ?_
     refine ⟨i + 1, σ.length + 2, ⟨by omega, by omega⟩, by omega, by simp, ⟨rfl, rfl, rfl, rfl, rfl, rfl, trivial⟩, closed_own 2 hcl (by simp [ownLt, AO.cells, AV.ltL, AV.lt]), ?_, ?_⟩
     ·simp [ltE, AV.lt, AV.ltL]
     ·refine (take_own 2).trans ?_
      rfl
    ·(try rw [h9]); replace h9 := zcl h9
     refine AWp_exit ?_
     refine zu2 ?_
     refine zsp 193 rfl (fun h10 => ?_) fun h10 => ?_
     ·rw [h10]; replace h10 := zcl h10
      refine zg2 ?_
      refine ztG rfl rfl (op_gtrT rfl rfl rfl (by omega)) ?_
      refine zv2 ?_
      refine zrt ?_
      exact ResQ_1 rfl hcl trivial (Ret_of rfl)
     ·rw [h10]; replace h10 := zcl h10
      refine zv5 ?_
      refine zrt ?_
      exact ResQ_1 rfl hcl trivial (Ret_of rfl)
end Lg
set_option maxRecDepth 100000
set_option maxHeartbeats 4000000
namespace Go.Proofs.YtpcjccmmeaaeaaaGreatDoor
open Go Go.ChangeShapes Go.WideShapes Go.ChangeAt Go.RowKit Go.Lib
open Go.ChangeMaps (open_string shut_string)
noncomputable def schemaPaths_w0 (os : Os) : World :=
  let w0 := World.holding Tryz.prog os ⟨#[], #[], []⟩
  { w0 with heap := w0.heap.modify 0 fun
      | .cells _ t frozen => .cells #[.iface 203 (.agg #[.pointer (some ⟨9, 33, none⟩)])] t frozen
      | o => o }
noncomputable def schemaPaths_ln : List (String × DataW Unit) := Rows.schemaPathsRow.laid.filter fun x => x.2.handleName?.isNone
noncomputable def schemaPaths_lw (os : Os) : World := (schemaPaths_w0 os).layVars Tryz.prog schemaPaths_ln
theorem schemaPaths_lw_os (os : Os) : (schemaPaths_lw os).os = os := by unfold schemaPaths_lw; rw [World.layVars_os]; rfl
theorem schemaPaths_mh (os : Os) (args : Array Value) : laidMetH Tryz.prog Rows.schemaPathsRow.laid ((schemaPaths_lw os).forCall (fun _ _ => 0) ⟨#[], args, []⟩).memory := by
  have e1 : (schemaPaths_ln.filter fun x => (schemaPaths_ln.map (·.1)).contains x.1) = schemaPaths_ln := List.filter_eq_self.2 fun x hx => List.contains_iff_mem.2 (List.mem_map.2 ⟨x, hx, rfl⟩)
  have e2 : (schemaPaths_ln.filter fun x => !(schemaPaths_ln.map (·.1)).contains x.1) = [] := List.filter_eq_nil_iff.2 fun x hx => by rw [List.contains_iff_mem.2 (List.mem_map.2 ⟨x, hx, rfl⟩)]; simp
  have h : laidMet Tryz.prog schemaPaths_ln (schemaPaths_lw os) := laidMet_layVars (w0 := schemaPaths_w0 os) (schemaPaths_ln.map (·.1)) [] (by rw [e1]; rfl) (by rw [e1]; kernel_rfl) (by rw [e1]; kernel_rfl) (by rw [e2]; exact LaidIn.none)
  refine laidMetH_of_parts (h.of_heap (by simp [World.memory, World.forCall, Input.heap])) (by kernel_rfl)
theorem schemaPaths_rt : (Tryz.prog.cutTypes.find? (·.1 == "internal/reflectlite.rtype")).map (·.2) = some 203 := by kernel_rfl
theorem schemaPaths_one : ((List.range 330).filter fun t => Tryz.prog.rowNamed t [101, 114, 114, 111, 114]) = [33] := by kernel_rfl
theorem schemaPaths_nt : Tryz.prog.types.size = 330 := by kernel_rfl
theorem schemaPaths_gn : Tryz.prog.globalNamed "errors.errorType" = some 0 := by kernel_rfl
theorem schemaPaths_et {W : World} (h : laidMetH Tryz.prog Rows.schemaPathsRow.laid W) : W.cell? ⟨0, 0, none⟩ = some (.iface 203 (.agg #[.pointer (some ⟨9, 33, none⟩)])) := by
  have h' : laidMet Tryz.prog (Rows.schemaPathsRow.laid.filter fun x => x.2.handleName?.isNone) W ∧ handlesMet Tryz.prog (Rows.schemaPathsRow.laid.filter fun x => x.2.handleName?.isSome) W := h
  obtain ⟨name, u, ty, e1, e2, e3, e4, e5⟩ := h'.2 ("errors.errorType", Rows.laid_errors_errorType) (List.mem_filter.2 ⟨by simp [Rows.schemaPathsRow], rfl⟩)
  have en : name = [101, 114, 114, 111, 114] := (Option.some.inj e1).symm
  subst en
  obtain rfl := Option.some.inj (schemaPaths_rt.symm.trans e2)
  have hm : ty ∈ (List.range 330).filter fun t => Tryz.prog.rowNamed t [101, 114, 114, 111, 114] := List.mem_filter.2 ⟨List.mem_range.2 (by rw [← schemaPaths_nt]; exact e3), e4⟩
  rw [schemaPaths_one] at hm
  obtain rfl := List.mem_singleton.1 hm
  have hh : typeHandle Tryz.prog 33 = .pointer (some ⟨9, 33, none⟩) := by kernel_rfl
  rw [hh] at e5
  simpa using World.var?_cell schemaPaths_gn e5 0
theorem schemaPaths_lifted (os : Os) (started : os.Started) (H : Type) (enc : TypeId × Value → H) :
    ReturnsInHanded {} Tryz.checked os 4 .any (fun w args => (Rows.schemaPathsSpec.pre enc Tryz.prog Tryz.f4 [] false w args ∧ laidMetH Tryz.prog Rows.schemaPathsRow.laid w) ∧ sizedMet enc Tryz.prog Tryz.f4 (OpenSpec.ofChange Rows.schemaPathsSpec) false w args)
      (Rows.schemaPathsSpec.post enc Tryz.prog Tryz.f4 false true false false) := by
  refine Lg.returns_and_shaped (C := Tryz.checked) (X := fun w _ => laidMetH Tryz.prog Rows.schemaPathsRow.laid w) (fun _ _ _ hh h => h.of_heap hh) own started (by kernel_rfl) Tryz.func4
    (ChangeSpec.witness_shaped (enc := enc) (C := Tryz.checked) (os := os) (X := fun w _ => laidMetH Tryz.prog Rows.schemaPathsRow.laid w) false (schemaPaths_lw os) #[.string ⟨#[]⟩] 8 (schemaPaths_lw_os os)
      (World.shaped_of_ZipB (by kernel_rfl) (by kernel_rfl)) (by kernel_rfl) (by kernel_rfl) (by kernel_rfl) (schemaPaths_mh os _)) ?_
  intro W base args ds gs before hval0 hW hL hS
  have hval : ∀ (j : Nat) t v, Tryz.f4.params[j]? = some t → args[j]? = some v → Value.okWide Tryz.prog W .any base t v := hval0
  have hW' := hW
  obtain ⟨p, q, hA0, hV, rfl, hfz, hnd⟩ := hW
  have hA : DataW.TrodAll enc Tryz.prog W 0 (fun _ => true) true Tryz.f4.params.toList args.toList ds p := hA0
  rw [Tryz.params4] at hA hval
  obtain ⟨v0, vs0, d0, ds0, p0, q0, hargs, rfl, rfl, h0, r0⟩ := trodAll_cons hA
  obtain ⟨rfl, rfl, rfl⟩ := trodAll_nil r0
  obtain rfl : args = #[v0] := by cases args; simp_all
  obtain ⟨rfl, rfl⟩ := trodVars_none hV
  obtain ⟨x0, rfl, rfl, rfl, w0⟩ := open_string Tryz.underlying9 (hval 0 9 v0 rfl rfl) h0
  clear hA0 hval0
  simp only [List.append_nil] at hW'
  have hT_s10 := s10_ofL (l := schemaPaths_ln) (show laidMet Tryz.prog (Rows.schemaPathsRow.laid.filter fun x => x.2.handleName?.isNone) W ∧ handlesMet Tryz.prog (Rows.schemaPathsRow.laid.filter fun x => x.2.handleName?.isSome) W from hL).1 (by kernel_rfl)
  have hcall := Lg.calls_of (P := Tryz.prog) (f := 4) (args := [.str x0]) (cargs := [.string x0]) (W := W)
    (fun st => (.cons (.str _) .nil))
    (fun hg => by haveI := Lg.ML.of hS hg; haveI := Lg.ET.of (schemaPaths_et hL) hg; haveI := Lg.S10.of hT_s10 hg; exact Lg.schemaPaths_c x0 [] )
  refine hcall.mono fun e W' ⟨he, hg⟩ => ?_
  subst he
  refine ⟨_, rfl, _, _, _, [], [], [], hW', trodAll_mk1 (shut_bool Tryz.underlying4 _), ?_, rfl, hg.frame _, fun h => by cases h⟩
  exact (trodAll_cons_mk (shut_string Tryz.underlying9 w0) trodAll_mk0)
theorem schemaPaths_holds : Rows.SchemaPathsSaid :=
  OpenClaim.holds_of_wide 4 Tryz.f4 rfl rfl rfl rfl rfl rfl rfl ⟨rfl, rfl, rfl, rfl, rfl⟩ rfl rfl rfl rfl rfl (by kernel_rfl) Tryz.func4 (by kernel_rfl)
    (of_decide_eq_true (by kernel_rfl)) (by unfold Func.isWrapper; first | (rw [if_pos (by decide +kernel)]; kernel_rfl) | (rw [if_neg (by decide +kernel)]; exact ⟨rfl, rfl⟩))
    (fun os started H enc _ => schemaPaths_lifted os started H enc)
end Go.Proofs.YtpcjccmmeaaeaaaGreatDoor
