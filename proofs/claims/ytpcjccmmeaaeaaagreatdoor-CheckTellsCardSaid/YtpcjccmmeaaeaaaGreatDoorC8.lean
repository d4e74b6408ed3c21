/- A part of the proof of Whatever two texts are handed in: of each node of the first one's schema the program tells just those keywords that the second one's value fails by the document.: Lg51 Lg52 Lg56 Lg58 Lg59 Lc4 Lg54 Lc5 Ld1 Sh7 Ld2 D1 W8 W3 K3 K4 K5 D4 D5 D2. -/
import Derived.Test.YtpcjccmmeaaeaaaGreatDoorC7
import Derived.Test.YtpcjccmmeaaeaaaGreatDoorC3
import Derived.Test.YtpcjccmmeaaeaaaGreatDoorC5
import Derived.Test.YtpcjccmmeaaeaaaGreatDoorC4
import Derived.Test.YtpcjccmmeaaeaaaGreatDoorC6
import Derived.Lib.RuneCount
import Derived.Lib.TrimUEq
import Derived.Shelf.Utf8.RuneCount
import Derived.Test.YtpcjccmmeaaeaaaGreatDoorProg
set_option linter.unusedVariables false
set_option linter.unusedSimpArgs false
set_option linter.unusedSectionVars false
namespace Lg
open Go Go.RowKit
variable [GLay]
section sound
variable {P : Program} {N : Nat} {ops : Array Oper} {tb : Array Nat} {Q : Env → List AO → Prop} {B : AO} {L : Nat}
structure InvG (ops : Array Oper) (N f : Nat) (E : Nat → Env) (H : Bool → Nat → List AO) (val : Nat → AV) (kd : Nat → Kd) (s0 : CS) (listed : Array Bool) (a : Act) (w : World) : Prop where
  size : listed.size = ops.size
  dn : ∀ j o, ops[j]? = some o → listed.getD j false = true → ∀ ed ∈ o.after.toList, Region.binds .any ed = true → listed.getD ed.on false = true
  st : ∃ s q, s.w = w ∧ Good s ∧ Ext s0 s ∧ q ≤ ops.size ∧ (∀ j, j < q → kd j = .eff → listed.getD j false = true) ∧ (q < ops.size → kd q = .eff ∧ listed.getD q false = false) ∧ s.σ = H (listed.getD f false) q ∧
    a.tmps.size = N ∧ DefOK s (E 0).D a.defers ∧ ∀ t, V s (preA ops (E 0) val (fun j => listed.getD j false) ops.size t) (a.eval (.tmp t))
theorem InvG.way {f : Nat} {E : Nat → Env} {H : Bool → Nat → List AO} {val : Nat → AV} {kd : Nat → Kd} {s0 : CS} {listed : Array Bool} {a : Act} {w : World} (c : Chk ops tb) (h : InvG ops N f E H val kd s0 listed a w) :
    ∀ (j : Nat) (o : Oper), ops[j]? = some o → (∀ ed ∈ o.after.toList, Region.binds .any ed = true → listed.getD ed.on false = true) → ∀ i, i < ops.size → befB tb i j = true → listed.getD i false = true := by
  intro j
  induction j using Nat.strongRecOn with
  | _ j ih =>
    intro o ho hdeps i hi hb
    obtain ⟨ed, hed, hbd, h1⟩ := c.way i j o ho hi hb
    have hon := hdeps ed hed hbd
    rcases h1 with h1 | h1
    · rw [← h1]; exact hon
    · have hlt := (c.edge j o ho ed hed hbd).1
      have hjn : ed.on < ops.size := by have := (Array.getElem?_eq_some_iff.1 ho).1; omega
      have ho' := Array.getElem?_eq_getElem hjn
      exact ih ed.on hlt _ ho' (h.dn ed.on _ ho' hon) i hi h1
theorem TrG.step {i0 f : Nat} {E : Nat → Env} {H : Bool → Nat → List AO} {val : Nat → AV} {kd : Nat → Kd} (ht : TrG P N ops tb B L Q i0 f E H val kd) : ∀ i, i0 ≤ i → i < ops.size → ∃ o, ops[i]? = some o ∧ (∀ d, o.dst = some d → d < N) ∧ E (i + 1) = (E i).put o.dst (val i) ∧ GuardA ops N (E i) o true := fun i h0 hi => by
  rcases Nat.lt_trichotomy i f with h | h | h
  · obtain ⟨o, a1, a2, a3, a4, _⟩ := ht.pre i h0 h; exact ⟨o, a1, a2, a3, a4⟩
  · subst h; obtain ⟨o, a1, a2, a3, a4, _⟩ := ht.flt; exact ⟨o, a1, a2, a3, a4⟩
  · obtain ⟨o, a1, a2, a3, a4, _⟩ := ht.tail i h hi; exact ⟨o, a1, a2, a3, a4⟩
theorem TrG.hconst {i0 f : Nat} {E : Nat → Env} {H : Bool → Nat → List AO} {val : Nat → AV} {kd : Nat → Kd} (ht : TrG P N ops tb B L Q i0 f E H val kd) (z : Bool) : ∀ (b a : Nat), i0 ≤ a → a ≤ b → b ≤ ops.size → (∀ j, a ≤ j → j < b → kd j ≠ .eff) → H z a = H z b
  | 0, a, _, h, _, _ => by have : a = 0 := by omega
                           subst this; rfl
  | b + 1, a, h0, h, hb, hk => by
    by_cases e : a = b + 1
    · subst e; rfl
    · have ih := ht.hconst z b a h0 (by omega) (by omega) (fun j h1 h2 => hk j h1 (by omega))
      have hkb := hk b (by omega) (by omega)
      have : H z (b + 1) = H z b := by
        rcases Nat.lt_trichotomy b f with h1 | h1 | h1
        · obtain ⟨o, _, _, _, _, hc⟩ := ht.pre b (by omega) h1
          rcases hc with ⟨_, h2, _⟩ | ⟨h2, _⟩
          · exact (h2 z).2
          · exact absurd h2 hkb
        · subst h1
          obtain ⟨o, _, _, _, _, _, h2, _⟩ := ht.flt
          exact h2 z
        · obtain ⟨o, _, _, _, _, h2, _⟩ := ht.tail b h1 (by omega)
          exact absurd h2 hkb
      rw [ih, this]
end sound
end Lg
namespace Lg
open Go Go.RowKit
variable [GLay]
section
variable {P : Program} {N : Nat} {σ l : List AO} {e : Env} {o : Oper} {Q : QA}
end
section
variable {P : Program} {N : Nat} {ops : Array Oper} {tb : Array Nat} {B : AO} {L : Nat} {QR : Env → List AO → Prop} {i : Nat} {D : List (FuncId × List AV)} {el : List (Nat × AV)} {σ : Bool → List AO} {past : List (Nat × (Bool → List AO))} {held : List (Nat × (List AO → Prop))} {o : Oper} {v : AV} {d : Nat}
end
end Lg
namespace Lg
open Go Go.RowKit
variable [GLay]
section
variable {P : Program} {N : Nat} {e : Env} {σ : List AO} {Q : QA}
end
end Lg
namespace Lg
open Go Go.RowKit
variable [GLay]
section
variable {P : Program} {N : Nat} {σ l : List AO} {e : Env} {Q : QA}
theorem AWp_arrLe {c : Code} (q : Nat) {sz gg : Nat} {bs bs' : List AV} (hq : σ[q]? = some (.arr sz gg bs)) (hb0 : bs ≠ []) (hle : AVleL bs bs') (k : AWp P N c e (σ.set q (.arr sz gg bs')) Q) : AWp P N c e σ Q := fun s0 s a hs g x he => by
  subst hs
  have hrep := g.obj q _ hq
  have hne : (s.μ q).tot ≠ 0 := by
    rcases hrep with ⟨_, h⟩ | ⟨h, _⟩
    · exact absurd h hb0
    · exact h
  have hlive : s.live q := by unfold CS.live; rw [hq]; exact hne
  obtain ⟨_, vs, T, hb, hp⟩ := g.rep hq hlive
  have hnew : RepW s (s.μ q) vs T (.arr sz gg bs') := ⟨hp.1, hp.2.1, by have := hp.2.2.1; rw [← hle.len]; exact this, by have := hle.pw hp.2.2.2; rw [← hle.len]; exact this⟩
  obtain ⟨s2, f1, f2, g2, x2, _⟩ := g.setObj hq hlive (o' := .arr sz gg bs') (.arr _ _ _ _ _ (Nat.le_refl _) (fun _ => hle.len)) rfl (hnew.any rfl)
  have hw : s2.w = s.w := by rw [f2, setRow_self _ _ _ _ _ hb]
  have := k s0 s2 a f1 g2 (x.trans x2) (he.mono g x2)
  rwa [hw] at this
theorem AWp_arrLeO {c : Code} (k : Nat) {sz gg : Nat} {bs bs' : List AV} (hq : l[k]? = some (.arr sz gg bs)) (hb0 : bs ≠ []) (hle : AVleL bs bs') (h : AWp P N c e (σ ++ l.set k (.arr sz gg bs')) Q) : AWp P N c e (σ ++ l) Q :=
  AWp_arrLe (σ.length + k) (by rw [get_ownT rfl]; exact hq) hb0 hle (by rw [set_ownT rfl]; exact h)
theorem op_storeEl1 {o : Oper} {T : TypeId} {x y : Operand} {j g sz off i : Nat} {cs : List AV} {b : AV} (ho : o.op = .store T x y) (hz : ∀ w, (Go.sizeOf T).run P w = Result.ok 1 w) (hy : opO e y = some b) (hbc : b.cells = [b]) (h1 : ones [b] = true) (hx : opO e x = some (.pel (σ.length + j) g off)) (hoff : off = i)
    (hl : l[j]? = some (.arr sz g cs)) (hi : i < cs.length) : AOp P (σ ++ l) e o .any (σ ++ l.set j (.arr sz g (cs.set i b))) := by
  subst hoff
  have e1 := opO_eq hy
  have := op_store (P := P) (σ := σ ++ l) (e := e) (p := σ.length + j) (O := .arr sz g (cs.set off b)) ho hz (by rw [e1, hbc]; rfl) (by rw [e1, hbc]; exact h1) (by
    rw [e1, hbc, opO_eq hx]
    show stv (σ ++ l) [b] (.pel (σ.length + j) g off) = _
    simp only [stv, get_own, hl, if_true, spl_set _ _ _ hi, Option.map_some]) (by decide)
  rw [set_own] at this
  exact this
end
end Lg
namespace Lg
open Go Go.RowKit
variable [GLay]
theorem ResQ_KN {n0 : Nat} {el : List (Nat × AV)} {σ : List AO} {R : Out → List AO → Prop} (m : Nat) (hm : n0 ≤ m) (hc : closed m σ) (hR : R (.ret (.tup [])) (σ.take m)) : ResQ n0 [] R .normal ⟨[], el⟩ σ :=
  ⟨rfl, m, hm, hc, trivial, hR⟩
theorem ResQ_KR {n0 : Nat} {el : List (Nat × AV)} {σ : List AO} {R : Out → List AO → Prop} (m : Nat) (hm : n0 ≤ m) (hc : closed m σ) (hR : R (.ret (.tup [])) (σ.take m)) : ResQ n0 [] R .ret ⟨[], el⟩ σ :=
  ⟨rfl, m, hm, hc, trivial, hR⟩
end Lg
namespace Lg
open Go Go.RowKit
variable [GLay]
section
variable {P : Program} {N : Nat} {σ l : List AO} {e : Env} {o : Oper}
theorem run_makeSlice1 {T E : TypeId} {i : TypeInfo} {n : Nat} {z c : Value} {w : World} (hu : P.underlying T = some (.slice E)) (hi : P.info? E = some i) (hz : i.zero = some z) (hsz : i.size = 1) (hzc : z.cells = #[c]) (hpos : 0 < n) (hn : n ≤ 1000000000) (hby : i.bytes ≤ 100) :
    (Instr.makeSlice T (.int .i64 (n : Int)) (.int .i64 (n : Int))).run P w = .ok (.slice (some ⟨w.heap.size, 0, none⟩) n n) (w.alloc (.cells (List.replicate n c).toArray E (0, 0))) := by
  have hw : (IntKind.i64.wrap (n : Int)) = (n : Int) := wrap64_in (by omega) (by omega)
  have hmul : i.bytes * n ≤ 100 * n := Nat.mul_le_mul_right _ hby
  have h3 : ¬ ((i.bytes : Int) * (n : Int) > 2 ^ 48) := by
    have : ((i.bytes * n : Nat) : Int) ≤ 100 * (n : Int) := by exact_mod_cast hmul
    rw [Int.natCast_mul] at this
    omega
  have h5 : ¬ n = 0 := by omega
  have g1 : ¬ ((n : Int) < 0) := by omega
  simp [Instr.makeSlice, run_underlying hu, asInt, asIntOf, typeInfo, hi, hw, Go.sizeOf, zeroValue, hz, hsz, hzc, askRoom, h5, g1, newRow, newObj, Sem.run]
  rw [if_neg (by omega)]
  have h7 : Array.map (fun x => ([c] : List Value)[x % 1]?.getD default) (Array.range n) = Array.replicate n c := by
    apply Array.ext
    · simp
    · intro j h1 h2; simp [Nat.mod_one]
  rw [h7]
theorem op_makeSlice1 {T E : TypeId} {x y : Operand} {i : TypeInfo} {n : Nat} {z c : Value} {b : AV} (ho : o.op = .makeSlice T x y) (hu : P.underlying T = some (.slice E)) (hi : P.info? E = some i) (hz : i.zero = some z) (hsz : i.size = 1) (hzc : z.cells = #[c]) (hb : ∀ s, V s b c)
    (hx : opv e x = .int .i64 (n : Int)) (hy : opv e y = .int .i64 (n : Int)) (hpos : 0 < n) (hn : n ≤ 1000000000) (hby : i.bytes ≤ 100) : AOp P σ e o (.arr σ.length 0 1 0 n) (σ ++ [.arr 1 0 (List.replicate n b)]) := by
  intro s a hs g hv K Q hk _
  subst hs
  have e1 : a.eval x = .int .i64 (n : Int) := by
    have h := hv x (by simp [ho, Op.operands]); rw [hx] at h; exact h.inv_int
  have e2 : a.eval y = .int .i64 (n : Int) := by
    have h := hv y (by simp [ho, Op.operands]); rw [hy] at h; exact h.inv_int
  have hpw : PW s (List.replicate n b) (List.replicate n c) := by
    refine ⟨by simp, fun i cc v h1 h2 => ?_⟩
    rw [List.getElem?_replicate] at h1 h2
    split at h1
    · cases h1
      rw [if_pos (by assumption)] at h2
      cases h2; exact hb s
    · cases h1
  obtain ⟨s', f1, f2, g', x', hμ⟩ := g.newArr (sz := 1) (cs := List.replicate n b) (vs := List.replicate n c) (by simpa using hpw) (by simp) E (Below.refl _ _) rfl
  have hw : (IntKind.i64.wrap (n : Int)) = (n : Int) := wrap64_in (by omega) (by omega)
  have hmul : i.bytes * n ≤ 100 * n := Nat.mul_le_mul_right _ hby
  refine wp_value (w' := s'.w) ?_ (hk _ (.slice (some ⟨s.w.heap.size, 0, none⟩) n n) s' ⟨rfl, f1⟩ g' x' ?_)
  · rw [f2]
    simp only [execOp, ho, e1, e2]
    rw [Sem.run_bind, run_makeSlice1 hu hi hz hsz hzc hpos hn hby]
    rfl
  · refine V.newArr (cs := List.replicate n b) (by rw [f1]; simp) hμ (Nat.le_refl _) (by simp)
end
end Lg
namespace Lg
open Go
structure BQ (o : List JNode) (i : Nat) (c : Option Nat) (D : List Nat) (T : List Nat) (S : List Bool) : Prop where
  len : S.length = o.length
  tin : ∀ t ∈ T, t < o.length ∧ (t = i ∨ Rch o i t)
  cin : ∀ t, c = some t → t = i ∨ Rch o i t
  snd : ∀ u : Nat, S[u]? = some true → Rch o i u
  cls : ∀ u : Nat, (u = i ∨ S[u]? = some true) → u ∉ T → ¬ c = some u → ∀ n, o[u]? = some n → ∀ v ∈ outs n.keys, S[v]? = some true
  dne : ∀ v ∈ D, S[v]? = some true
theorem BQ_start {o : List JNode} {i : Nat} (hi : i < o.length) : BQ o i none [] [i] (List.replicate o.length false) where
  len := by simp
  tin := by intro t ht; rw [List.mem_singleton.1 ht]; exact ⟨hi, .inl rfl⟩
  cin := by intro t h; cases h
  snd := by intro u h; rw [List.getElem?_replicate] at h; split at h <;> simp at h
  cls := by
    intro u hu hT
    rcases hu with rfl | h
    · exact absurd (List.mem_singleton.2 rfl) hT
    · rw [List.getElem?_replicate] at h; split at h <;> simp at h
  dne := by intro v h; cases h
theorem BQ_pop {o : List JNode} {i t : Nat} {T : List Nat} {S : List Bool} (h : BQ o i none [] (t :: T) S) : BQ o i (some t) [] T S where
  len := h.len
  tin := fun u hu => h.tin u (.tail _ hu)
  cin := by intro u hu; cases hu; exact (h.tin t (.head _)).2
  snd := h.snd
  cls := fun u hu hT hc => h.cls u hu (fun hm => by
    rcases List.mem_cons.1 hm with rfl | hm
    · exact hc rfl
    · exact hT hm) (by simp)
  dne := by intro v h; cases h
theorem BQ_old {o : List JNode} {i : Nat} {c : Option Nat} {D T : List Nat} {S : List Bool} {v : Nat} (h : BQ o i c D T S) (hv : S[v]? = some true) : BQ o i c (D ++ [v]) T S where
  len := h.len
  tin := h.tin
  cin := h.cin
  snd := h.snd
  cls := h.cls
  dne := by
    intro u hu
    rcases List.mem_append.1 hu with hu | hu
    · exact h.dne u hu
    · rw [List.mem_singleton.1 hu]; exact hv
theorem BQ_new {o : List JNode} {i t : Nat} {D T : List Nat} {S : List Bool} {v : Nat} {n : JNode} (h : BQ o i (some t) D T S) (hn : o[t]? = some n) (hv : v ∈ outs n.keys) (hvl : v < o.length) : BQ o i (some t) (D ++ [v]) (T ++ [v]) (S.set v true) := by
  have hl := h.len
  have hself : (S.set v true)[v]? = some true := List.getElem?_set_self (by omega)
  have hmono : ∀ u : Nat, S[u]? = some true → (S.set v true)[u]? = some true := by
    intro u hu
    by_cases e : v = u
    · subst e; exact hself
    · rw [List.getElem?_set_ne e]; exact hu
  have hR : Rch o i v := by
    rcases h.cin t rfl with rfl | hr
    · exact .one hn hv
    · exact .more hr hn hv
  refine ⟨by simp [hl], ?_, h.cin, ?_, ?_, ?_⟩
  · intro u hu
    rcases List.mem_append.1 hu with hu | hu
    · exact h.tin u hu
    · rw [List.mem_singleton.1 hu]; exact ⟨hvl, .inr hR⟩
  · intro u hu
    by_cases e : v = u
    · subst e; exact hR
    · rw [List.getElem?_set_ne e] at hu; exact h.snd u hu
  · intro u hu hT hc x hx w hw
    have hne : ¬ v = u := fun e => hT (List.mem_append_right _ (List.mem_singleton.2 e.symm))
    refine hmono w (h.cls u (hu.imp id fun hu => ?_) (fun hm => hT (List.mem_append_left _ hm)) hc x hx w hw)
    rwa [List.getElem?_set_ne hne] at hu
  · intro u hu
    rcases List.mem_append.1 hu with hu | hu
    · exact hmono u (h.dne u hu)
    · rw [List.mem_singleton.1 hu]; exact hself
theorem BQ_done {o : List JNode} {i t : Nat} {D T : List Nat} {S : List Bool} {n : JNode} (h : BQ o i (some t) D T S) (hn : o[t]? = some n) (hD : D = outs n.keys) : BQ o i none [] T S where
  len := h.len
  tin := h.tin
  cin := by intro u hu; cases hu
  snd := h.snd
  cls := by
    intro u hu hT _ x hx w hw
    by_cases e : t = u
    · subst e; rw [hn] at hx; cases hx; exact h.dne w (hD ▸ hw)
    · exact h.cls u hu hT (fun e2 => e (Option.some.inj e2)) x hx w hw
  dne := by intro v h; cases h
noncomputable def reachL (o : List JNode) (i : Nat) : List Bool := (List.range o.length).map fun u => pb (Rch o i u)
theorem BQ_end {o : List JNode} {i : Nat} {S : List Bool} (h : BQ o i none [] [] S) : S = reachL o i := by
  apply List.ext_getElem?
  intro u
  unfold reachL
  by_cases hu : u < o.length
  · rw [List.getElem?_map, List.getElem?_range hu, Option.map_some]
    have hS : u < S.length := by rw [h.len]; exact hu
    cases hx : S[u] with
    | true =>
      have h1 : S[u]? = some true := by rw [List.getElem?_eq_getElem hS, hx]
      rw [h1, pb_t (h.snd u h1)]
    | false =>
      have h1 : S[u]? = some false := by rw [List.getElem?_eq_getElem hS, hx]
      rw [h1, pb_f]
      intro hR
      have := Rch.closed (fun a => S[a]? = some true) (fun n hn b hb => h.cls i (.inl rfl) (by simp) (by simp) n hn b hb) (fun a n ha hn b hb => h.cls a (.inr ha) (by simp) (by simp) n hn b hb) hR
      rw [h1] at this; cases this
  · rw [List.getElem?_eq_none (by rw [h.len]; omega), List.getElem?_eq_none (by simp; omega)]
theorem outs_take {l : List JKey} {k : Nat} {x : JKey} (hx : l[k]? = some x) : outs (l.take (k + 1)) = outs (l.take k) ++ outK x := by
  rw [List.take_add_one, hx]; simp [outs]
theorem outD_take {l : List JKid} {k : Nat} {x : JKid} (hx : l[k]? = some x) : outD (l.take (k + 1)) = outD (l.take k) ++ [x.node.toNat] := by
  rw [List.take_add_one, hx]; simp [outD]
theorem mem_outs {l : List JKey} {k : Nat} {x : JKey} (hx : l[k]? = some x) (hp : plc x.name = true) {j : Nat} {d : JKid} (hd : x.kids[j]? = some d) : d.node.toNat ∈ outs l := by
  refine List.mem_flatMap.2 ⟨x, List.mem_of_getElem? hx, ?_⟩
  rw [outK, if_pos hp]
  exact List.mem_map.2 ⟨d, List.mem_of_getElem? hd, rfl⟩
def intc (l : List Nat) : List AV := l.map fun (t : Nat) => .int .i64 (t : Int)
def boolc (l : List Bool) : List AV := l.map .bool
theorem intc_len (l : List Nat) : (intc l).length = l.length := by simp [intc]
theorem boolc_len (l : List Bool) : (boolc l).length = l.length := by simp [boolc]
theorem boolc_get {l : List Bool} {i : Nat} {x : Bool} (h : l[i]? = some x) : (boolc l)[i]? = some (.bool x) := by simp [boolc, h]
theorem boolc_set (l : List Bool) (i : Nat) (b : Bool) : (boolc l).set i (.bool b) = boolc (l.set i b) := by simp [boolc, List.map_set]
theorem intc_head (p : List Nat) (t : Nat) (r : List Nat) : (intc (p ++ t :: r))[p.length]? = some (.int .i64 (t : Int)) := by simp [intc]
theorem intc_drop (p r : List Nat) (v : Nat) : (intc (p ++ r)).drop (p.length * 1) ++ [.int .i64 (v : Int)] = intc ([] ++ (r ++ [v])) := by simp [intc]
section
variable [GLay]
@[simp] theorem intc_lt (n : Nat) (l : List Nat) : AV.ltL n (intc l) := by
  rw [AV.ltL_iff]; intro a ha; simp [intc] at ha; obtain ⟨x, _, rfl⟩ := ha; trivial
@[simp] theorem boolc_lt (n : Nat) (l : List Bool) : AV.ltL n (boolc l) := by
  rw [AV.ltL_iff]; intro a ha; simp [boolc] at ha; rcases ha with ⟨_, rfl⟩ | ⟨_, rfl⟩ <;> trivial
end
def boolr (l : List Bool) : List (List AV) := l.map fun b => [.bool b]
theorem boolr_flat (l : List Bool) : (boolr l).flatten = boolc l := by
  induction l with
  | nil => rfl
  | cons a r ih => simp only [boolr, List.map_cons, List.flatten_cons] at ih ⊢; rw [ih]; rfl
end Lg
namespace Lg
open Go
section
variable [GLay]
@[simp] theorem boolr_lt (n : Nat) (l : List Bool) : AV.ltLL n (boolr l) := by
  rw [AV.ltLL_iff]; intro e he; simp only [boolr, List.mem_map] at he; obtain ⟨x, _, rfl⟩ := he; exact ⟨trivial, trivial⟩
theorem boolr_el (l : List Bool) : ∀ r ∈ boolr l, r.length = 1 := by
  intro r hr; simp only [boolr, List.mem_map] at hr; obtain ⟨x, _, rfl⟩ := hr; rfl
theorem boolr_len (l : List Bool) : (boolr l).length = l.length := by simp [boolr]
structure LOK (o : List JNode) : Prop where
  kr : ∀ n ∈ o, KR o.length n
  kz : ∀ n ∈ o, KZ n
  le : o.length ≤ 200
  sz : ∀ n ∈ o, n.path.size ≤ 100000000000
theorem LOK.out {o : List JNode} (h : LOK o) : OR o := by
  intro n hn d hd
  obtain ⟨k, hk, hd⟩ := List.mem_flatMap.1 hd
  unfold outK at hd
  split at hd
  · obtain ⟨x, hx, rfl⟩ := List.mem_map.1 hd
    have := h.kr n hn k hk x hx
    omega
  · cases hd
end
end Lg
namespace Lg
open Go Go.RowKit
variable [GLay]
section
variable {P : Program} {σ : List AO} {e : Env} {o : Oper}
end
end Lg
namespace Lg
open Go Go.RowKit
variable [GLay]
section
variable {P : Program} {σ σ' : List AO} {e : Env} {o : Oper}
theorem AOp.resLe {v w : AV} (h : AOp P σ e o v σ') (hle : AVle v w) : AOp P σ e o w σ' := by
  intro s a hs g hv K Q hk hq
  exact h s a hs g hv K Q (fun v' cv s' ⟨hv', hs'⟩ g' x' hV => hk w cv s' ⟨rfl, hs'⟩ g' x' (hle _ _ (hv' ▸ hV))) hq
end
end Lg
namespace Lg
open Go
section
variable [GLay]
theorem lk1_ref {l : List JNode} {q : JKey} (h : q.name = cREF) (ht : ¬ tgtI q.v.s l < 0) : lk1 l q = some ⟨q.name, q.v, [⟨e0, tgtI q.v.s l⟩]⟩ := by unfold lk1; rw [if_pos h, if_neg ht]
theorem lk1_bad {l : List JNode} {q : JKey} (h : q.name = cREF) (ht : tgtI q.v.s l < 0) : lk1 l q = none := by unfold lk1; rw [if_pos h, if_pos ht]
theorem lk1_no {l : List JNode} {q : JKey} (h : ¬ q.name = cREF) : lk1 l q = some q := by unfold lk1; rw [if_neg h]
theorem lkk_bad {l : List JNode} {q : JKey} {r a : List JKey} (h : lk1 l q = none) : lkk l (q :: r) a = none := by rw [lkk, h]
theorem lkk_go {l : List JNode} {q q2 : JKey} {r a : List JKey} (h : lk1 l q = some q2) : lkk l (q :: r) a = lkk l r (a ++ [q2]) := by rw [lkk, h]
theorem lkn_bad {l r a : List JNode} {n : JNode} (h : lkk l n.keys [] = none) : lkn l (n :: r) a = ([], 12, n.path ++ cREFP) := by rw [lkn, h]
theorem lkn_go {l r a : List JNode} {n : JNode} {ks : List JKey} (h : lkk l n.keys [] = some ks) : lkn l (n :: r) a = lkn l r (a ++ [⟨n.path, n.all, n.pass, ks⟩]) := by rw [lkn, h]
theorem lkc_y {o r : List JNode} {n : JNode} {i : Nat} (h : pb (Rch o i i) = true) : lkc o (n :: r) i = (13, n.path) := by rw [lkc, if_pos h]
theorem lkc_n {o r : List JNode} {n : JNode} {i : Nat} (h : pb (Rch o i i) = false) : lkc o (n :: r) i = lkc o r (i + 1) := by rw [lkc, if_neg (by rw [h]; decide)]
theorem jlink_r {l : List JNode} {p : ByteArray} (h : lkn l l [] = ([], 12, p)) : jlink l = ([], 12, p) := by unfold jlink; simp [h]
theorem jlink_c {l o : List JNode} {p : ByteArray} (h : lkn l l [] = (o, 0, e0)) (h2 : lkc o o 0 = (13, p)) : jlink l = ([], 13, p) := by unfold jlink; simp [h, h2]
theorem jlink_y {l o : List JNode} (h : lkn l l [] = (o, 0, e0)) (h2 : lkc o o 0 = (0, e0)) : jlink l = (o, 0, e0) := by unfold jlink; simp [h, h2]
theorem lk1_ok {l : List JNode} {q q2 : JKey} {N : Nat} (hN : l.length ≤ N) (h : lk1 l q = some q2) (hd : DR N q.kids) (hz : q.name.size ≤ 1000000 ∧ jb q.v ∧ q.kids.length ≤ 1000000) : DR N q2.kids ∧ q2.name.size ≤ 1000000 ∧ jb q2.v ∧ q2.kids.length ≤ 1000000 := by
  unfold lk1 at h
  split at h
  · split at h
    · cases h
    · rename_i ht
      cases h
      refine ⟨fun d hdm => ?_, hz.1, hz.2.1, by simp⟩
      rw [List.mem_singleton.1 hdm]
      have := (tgtI_lt q.v.s l).1
      exact ⟨by simp only; omega, by simp only; omega⟩
  · cases h; exact ⟨hd, hz⟩
theorem lkk_ok {l : List JNode} {N : Nat} (hN : l.length ≤ N) : ∀ (r a ks : List JKey), lkk l r a = some ks → (YR N r ∧ YZ r) → (YR N a ∧ YZ a) → (YR N ks ∧ YZ ks) ∧ ks.length = a.length + r.length
  | [], a, ks, h, _, ha => by cases h; exact ⟨ha, rfl⟩
  | q :: r, a, ks, h, hr, ha => by
    cases h1 : lk1 l q with
    | none => rw [lkk_bad h1] at h; cases h
    | some q2 =>
      rw [lkk_go h1] at h
      have g := lk1_ok hN h1 (hr.1 q (.head _)) (hr.2 q (.head _))
      have ih := lkk_ok hN r (a ++ [q2]) ks h ⟨fun k hk => hr.1 k (.tail _ hk), fun k hk => hr.2 k (.tail _ hk)⟩ ⟨fun k hk => by
        rcases List.mem_append.1 hk with hk | hk
        · exact ha.1 k hk
        · rw [List.mem_singleton.1 hk]; exact g.1, fun k hk => by
        rcases List.mem_append.1 hk with hk | hk
        · exact ha.2 k hk
        · rw [List.mem_singleton.1 hk]; exact g.2⟩
      refine ⟨ih.1, ?_⟩
      rw [ih.2]; simp; omega
def NG (N : Nat) (n : JNode) : Prop := KR N n ∧ KZ n ∧ n.path.size ≤ 100000000000
theorem lkn_ok {l : List JNode} {N : Nat} (hN : l.length ≤ N) : ∀ (r a o : List JNode) (p : ByteArray), lkn l r a = (o, 0, p) → (∀ n ∈ r, NG N n) → (∀ n ∈ a, NG N n) → (∀ n ∈ o, NG N n) ∧ o.length = a.length + r.length
  | [], a, o, p, h, _, ha => by cases h; exact ⟨ha, rfl⟩
  | n :: r, a, o, p, h, hr, ha => by
    cases h1 : lkk l n.keys [] with
    | none => rw [lkn_bad h1] at h; cases h
    | some ks =>
      rw [lkn_go h1] at h
      have hn := hr n (.head _)
      have g := lkk_ok hN n.keys [] ks h1 ⟨hn.1, hn.2.1.2⟩ ⟨fun k hk => (by cases hk), fun k hk => (by cases hk)⟩
      have ih := lkn_ok hN r _ o p h (fun x hx => hr x (.tail _ hx)) (fun x hx => by
        rcases List.mem_append.1 hx with hx | hx
        · exact ha x hx
        · rw [List.mem_singleton.1 hx]
          exact ⟨g.1.1, ⟨by have := hn.2.1.1; have := g.2; simp at this; show ks.length ≤ _; omega, g.1.2⟩, hn.2.2⟩)
      refine ⟨ih.1, ?_⟩
      rw [ih.2]; simp; omega
theorem lkn_LOK {l o : List JNode} {p : ByteArray} (hl : NOK l) (h : lkn l l [] = (o, 0, p)) : LOK o ∧ o.length = l.length := by
  have := lkn_ok (Nat.le_refl _) l [] o p h (fun n hn => ⟨hl.kr n hn, hl.kz n hn, hl.sz n hn⟩) (fun n hn => by cases hn)
  have e : o.length = l.length := by simpa using this.2
  exact ⟨⟨fun n hn => e ▸ (this.1 n hn).1, fun n hn => (this.1 n hn).2.1, by rw [e]; exact hl.le, fun n hn => (this.1 n hn).2.2⟩, e⟩
theorem reachL_get {o : List JNode} {i : Nat} (hi : i < o.length) : (boolr (reachL o i))[i]? = some [.bool (pb (Rch o i i))] := by
  unfold boolr reachL
  rw [List.getElem?_map, List.getElem?_map, List.getElem?_range hi]; rfl
theorem pth_ref : pth cREF = cREFP := by decide +kernel
end
end Lg
namespace Lg
open Go
def wTYPE : ByteArray := ⟨#[116, 121, 112, 101]⟩
def wENUM : ByteArray := ⟨#[101, 110, 117, 109]⟩
def wCONST : ByteArray := ⟨#[99, 111, 110, 115, 116]⟩
def wMIN : ByteArray := ⟨#[109, 105, 110, 105, 109, 117, 109]⟩
def wMAX : ByteArray := ⟨#[109, 97, 120, 105, 109, 117, 109]⟩
def wMINL : ByteArray := ⟨#[109, 105, 110, 76, 101, 110, 103, 116, 104]⟩
def wMAXL : ByteArray := ⟨#[109, 97, 120, 76, 101, 110, 103, 116, 104]⟩
def wMINI : ByteArray := ⟨#[109, 105, 110, 73, 116, 101, 109, 115]⟩
def wMAXI : ByteArray := ⟨#[109, 97, 120, 73, 116, 101, 109, 115]⟩
def wUNIQ : ByteArray := ⟨#[117, 110, 105, 113, 117, 101, 73, 116, 101, 109, 115]⟩
def wREQ : ByteArray := ⟨#[114, 101, 113, 117, 105, 114, 101, 100]⟩
def wFALSE : ByteArray := ⟨#[102, 97, 108, 115, 101]⟩
def tNULL : ByteArray := ⟨#[110, 117, 108, 108]⟩
def tBOOL : ByteArray := ⟨#[98, 111, 111, 108, 101, 97, 110]⟩
def tNUM : ByteArray := ⟨#[110, 117, 109, 98, 101, 114]⟩
def tINT : ByteArray := ⟨#[105, 110, 116, 101, 103, 101, 114]⟩
def tSTR : ByteArray := ⟨#[115, 116, 114, 105, 110, 103]⟩
def tARR : ByteArray := ⟨#[97, 114, 114, 97, 121]⟩
def tOBJ : ByteArray := ⟨#[111, 98, 106, 101, 99, 116]⟩
def tyN (k : Int) : ByteArray := if k = 0 then tNULL else if k = 1 then tBOOL else if k = 2 then tNUM else if k = 3 then tSTR else if k = 4 then tARR else tOBJ
def ris (v : JV) (s : ByteArray) : Bool := if s = tINT then decide (v.kind = 2) && rWhole v.n else decide (tyN v.kind = s)
def pis (v : JV) (s : ByteArray) : Bool := if s = tNULL then decide (v.kind = 0) else if s = tBOOL then decide (v.kind = 1) else if s = tNUM then decide (v.kind = 2) else if s = tINT then decide (v.kind = 2) && decide (0 ≤ v.n.exp) else if s = tSTR then decide (v.kind = 3) else if s = tARR then decide (v.kind = 4) else decide (v.kind = 5)
theorem aD_digs {n : JNum} (h : digs n.digits n.digits.size) : aD n.digits.data.toList := fun b hb => by
  obtain ⟨i, hi⟩ := List.mem_iff_getElem?.1 hb
  have hlt := (List.getElem?_eq_some_iff.1 hi).1
  have hz : n.digits.data.toList.length = n.digits.size := Array.length_toList ..
  have := h i (by omega)
  unfold dig bat at this
  rw [List.getD_eq_getElem?_getD, hi] at this
  simp only [Option.getD_some] at this
  simp [isD]; omega
theorem numMay_J {n : JNum} (h : NumMay n) : JMay n := by
  rcases h with ⟨h1, h2, h3⟩ | ⟨h1, h2, h3, h4, h5, h6, h7⟩
  · left; exact (jnum_ext _ _).2 ⟨h2, h1, h3⟩
  · right
    have hz : n.digits.data.toList.length = n.digits.size := Array.length_toList ..
    have hp := ba_pos h1
    have hne : n.digits.data.toList ≠ [] := fun e => by rw [e] at hz; simp at hz; omega
    have hg : ∀ i, bat n.digits i = (n.digits.data.toList[i]?).getD 0 := fun i => by unfold bat; rw [List.getD_eq_getElem?_getD]
    refine ⟨n.digits.data.toList, (ba_eta _).symm, hne, aD_digs h2, ?_, ?_, by omega, h6, h7⟩
    · intro e
      rw [hg, ← List.head?_eq_getElem?, e] at h4
      exact h4 rfl
    · intro e
      rw [List.getLast?_eq_getElem?] at e
      rw [hg, ← hz, e] at h5
      exact h5 rfl
theorem pis_ris {v : JV} {s : ByteArray} (hs : tyL.any (fun t => decide (s = t)) = true) (h0 : 0 ≤ v.kind) (h5 : v.kind ≤ 5) (hn : NumMay v.n) : pis v s = ris v s := by
  have hw : decide (0 ≤ v.n.exp) = rWhole v.n := whole_ok (numMay_J hn)
  unfold pis ris
  rw [hw]
  have hk : v.kind = 0 ∨ v.kind = 1 ∨ v.kind = 2 ∨ v.kind = 3 ∨ v.kind = 4 ∨ v.kind = 5 := by omega
  have hs2 : s = tNULL ∨ s = tBOOL ∨ s = tNUM ∨ s = tINT ∨ s = tSTR ∨ s = tARR ∨ s = tOBJ := by
    simpa [tyL, tNULL, tBOOL, tNUM, tINT, tSTR, tARR, tOBJ] using hs
  rcases hk with e | e | e | e | e | e <;> rw [e] <;> rcases hs2 with rfl | rfl | rfl | rfl | rfl | rfl | rfl <;> first | rfl | (simp [tNULL, tBOOL, tNUM, tINT, tSTR, tARR, tOBJ, tyN]; done)
def rcnt (s : ByteArray) : Nat := Lib.runeCount s
theorem u8_dec (s : ByteArray) (a : Nat) : max (u8 s a) 1 = (Utf8.decode s a).2 := by
  have h1 := Lib.width_pos s a
  have h2 := decode_bat s a
  rw [Lib.decodeL_drop] at h2
  unfold u8 u8N
  rw [← h2]
  split <;> omega
theorem rcnt_end (s : ByteArray) {b a : Nat} (h : s.size ≤ a) : Lib.runeCountFrom s b a = 0 := Lib.runeCountFrom_end s b a (by omega)
theorem rcnt_step (s : ByteArray) {b a : Nat} (h : a < s.size) (hb : s.size ≤ a + b) : ∃ b', b = b' + 1 ∧ Lib.runeCountFrom s b a = 1 + Lib.runeCountFrom s b' (a + max (u8 s a) 1) ∧ s.size ≤ a + max (u8 s a) 1 + b' := by
  have h1 := Lib.width_pos s a
  cases b with
  | zero => omega
  | succ b =>
    refine ⟨b, rfl, ?_, ?_⟩
    · rw [Lib.runeCountFrom, if_pos h, u8_dec]
    · omega
noncomputable def ofN (k : Int) : JNum := (pNum (Lib.itoa k)).1
theorem ofN_may (k : Int) : JMay (ofN k) := (pNum_may _).1
def UQ (l : List JV) (i : Nat) : Prop := ∀ (a : Nat) x, a < i → l[a]? = some x → ∀ y ∈ l.take a, ¬ y = x
theorem UQ_0 (l : List JV) : UQ l 0 := fun a x h => absurd h (by omega)
theorem UQ_succ {l : List JV} {i : Nat} {x : JV} (hx : l[i]? = some x) : UQ l (i + 1) ↔ UQ l i ∧ ((l.take i).any fun y => pb (y = x)) = false := by
  constructor
  · intro h
    refine ⟨fun a y ha => h a y (by omega), ?_⟩
    rw [List.any_eq_false]
    intro y hy e
    exact h i x (by omega) hx y hy ((pb_iff _).1 e)
  · intro ⟨h1, h2⟩ a y ha hy z hz e
    by_cases hai : a = i
    · subst hai
      rw [hx] at hy; cases hy
      rw [List.any_eq_false] at h2
      exact h2 z hz (pb_t e)
    · exact h1 a y (by omega) hy z hz e
noncomputable def rpass (nm : ByteArray) (k v : JV) : Bool :=
  if nm = wTYPE then (if k.kind = 3 then [k] else k.l).any (fun x => ris v x.s)
  else if nm = wENUM then k.l.any (fun x => pb (x = v))
  else if nm = wCONST then pb (k = v)
  else if nm = wMIN then !(decide (v.kind = 2) && decide (pCmp v.n k.n < 0))
  else if nm = wMAX then !(decide (v.kind = 2) && decide (0 < pCmp v.n k.n))
  else if nm = wMINL then !(decide (v.kind = 3) && decide (pCmp (ofN (rcnt v.s)) k.n < 0))
  else if nm = wMAXL then !(decide (v.kind = 3) && decide (0 < pCmp (ofN (rcnt v.s)) k.n))
  else if nm = wMINI then !(decide (v.kind = 4) && decide (pCmp (ofN v.l.length) k.n < 0))
  else if nm = wMAXI then !(decide (v.kind = 4) && decide (0 < pCmp (ofN v.l.length) k.n))
  else if nm = wUNIQ then !(k.b && !pb (UQ v.l v.l.length))
  else if nm = wREQ then !(k.l.any fun x => decide (v.kind = 5) && !jfB v x.s)
  else true
noncomputable def jown (n : JNode) (v : JV) : List ByteArray := if n.all = true ∧ n.pass = false then [wFALSE] else (n.keys.filter fun k => !rpass k.name k.v v).map JKey.name
def KM (k : JKey) : Prop := rShape k.name k.v = 0 ∧ jmay k.v
def NM (n : JNode) : Prop := ∀ k ∈ n.keys, KM k
def LM (l : List JNode) : Prop := ∀ n ∈ l, NM n
def MayF (f : ByteArray → JV → MS → MS) : Prop := ∀ p x m, jmay x → LM m.l → LM (f p x m).l
theorem mayM_get {v : JV} (h : jmay v) {i : Nat} {q : BJ} (hq : v.m[i]? = some q) : jmay q.2 := (((jmay_eq v).1 h).2.1 i q (List.getElem?_eq_some_iff.1 hq).1 hq).2
theorem mayL_get {v : JV} (h : jmay v) {i : Nat} {x : JV} (hx : v.l[i]? = some x) : jmay x := ((jmay_eq v).1 h).2.2 i x hx
theorem kids_may {n : ByteArray} {v : JV} (h : jmay v) {i : Nat} {q : BJ} (hq : (kidsM n v)[i]? = some q) : jmay q.2 := by
  unfold kidsM at hq
  split at hq
  · have hi := (List.getElem?_eq_some_iff.1 hq).1
    have : i = 0 := by simp at hi; exact hi
    subst this
    cases hq
    exact h
  · split at hq
    · exact mayM_get h hq
    · split at hq
      · exact mayL_get h (kZ_get (l := v.l) hq)
      · simp at hq
theorem rkids_may {f : ByteArray → JV → MS → MS} (hf : MayF f) (u : ByteArray) (sg : Bool) : ∀ (r : List BJ) (m : MS), (∀ q ∈ r, jmay q.2) → LM m.l → LM (rkids f u sg r m).2.l
  | [], m, _, h => h
  | (k, x) :: r, m, hr, h => by
    rw [rkids]
    exact rkids_may hf u sg r _ (fun q hq => hr q (.tail _ hq)) (hf _ _ _ (hr _ (.head _)) h)
theorem rmems_may {f : ByteArray → JV → MS → MS} (hf : MayF f) (p : ByteArray) : ∀ (r : List BJ) (ks : List JKey) (m : MS), (∀ q ∈ r, jmay q.2) → LM m.l → (∀ k ∈ ks, KM k) → LM (rmems f p r ks m).2.2.l ∧ ∀ k ∈ (rmems f p r ks m).2.1, KM k
  | [], ks, m, _, h, hk => ⟨h, hk⟩
  | (nm, x) :: r, ks, m, hr, h, hk => by
    rw [rmems]
    split
    · exact ⟨h, hk⟩
    · split
      · exact ⟨h, hk⟩
      · rename_i h1 h2
        have hx := hr _ (.head _)
        refine rmems_may hf p r _ _ (fun q hq => hr q (.tail _ hq)) (rkids_may hf _ _ _ _ (fun q hq => ?_) h) ?_
        · obtain ⟨i, hi⟩ := List.mem_iff_getElem?.1 hq
          exact kids_may hx hi
        · intro k hk2
          rcases List.mem_append.1 hk2 with h3 | h3
          · exact hk k h3
          · rw [List.mem_singleton.1 h3]; exact ⟨Classical.not_not.1 h2, hx⟩
theorem setk_LM {l : List JNode} (h : LM l) (i : Nat) {ks : List JKey} (hk : ∀ k ∈ ks, KM k) : LM (setk l i ks) := fun n hn => by
  obtain ⟨j, hj⟩ := List.mem_iff_getElem?.1 hn
  unfold setk at hj
  rw [List.getElem?_modify] at hj
  cases hl : l[j]? with
  | none => rw [hl] at hj; simp at hj
  | some y =>
    rw [hl] at hj
    by_cases e : i = j
    · simp [e] at hj; subst hj; exact hk
    · simp [e] at hj; subst hj; exact h y (List.mem_of_getElem? hl)
theorem rnd_may : ∀ n, MayF (rnd n)
  | 0, p, x, m, _, h => h
  | n + 1, p, x, m, hx, h => by
    have h1 : LM (m1 m p x).l := fun a ha => by
      rcases List.mem_append.1 ha with h2 | h2
      · exact h a h2
      · rw [List.mem_singleton.1 h2]; intro k hk; cases hk
    have h2 := rmems_may (rnd_may n) p x.m [] (m1 m p x) (fun q hq => by obtain ⟨i, hi⟩ := List.mem_iff_getElem?.1 hq; exact mayM_get hx hi) h1 (fun k hk => by cases hk)
    by_cases hb : m.bad = 0
    · by_cases hl : m.l.length = 200
      · rw [rnd_m hb hl]; exact h
      · cases hr : rmems (rnd n) p x.m [] (m1 m p x) with
        | mk b q =>
          obtain ⟨ks, m'⟩ := q
          rw [hr] at h2
          cases b with
          | true => rw [rnd_t hb hl hr]; exact h2.1
          | false => rw [rnd_f hb hl hr]; exact setk_LM h2.1 _ h2.2
    · rw [rnd_b hb]; exact h
theorem jcomp_may {v : JV} (h : jmay v) : LM (jcomp v).1 := by
  unfold jcomp
  split
  · intro n hn; cases hn
  · split
    · intro n hn; cases hn
    · exact rnd_may _ _ _ _ h (fun n hn => by cases hn)
theorem lk1_KM {l : List JNode} {q q2 : JKey} (h : lk1 l q = some q2) (hq : KM q) : KM q2 := by
  unfold lk1 at h
  split at h
  · split at h
    · cases h
    · cases h; exact hq
  · cases h; exact hq
theorem lkk_KM {l : List JNode} : ∀ (r a ks : List JKey), lkk l r a = some ks → (∀ k ∈ r, KM k) → (∀ k ∈ a, KM k) → ∀ k ∈ ks, KM k
  | [], a, ks, h, _, ha => by cases h; exact ha
  | q :: r, a, ks, h, hr, ha => by
    cases h1 : lk1 l q with
    | none => rw [lkk, h1] at h; cases h
    | some q2 =>
      rw [lkk, h1] at h
      refine lkk_KM r (a ++ [q2]) ks h (fun k hk => hr k (.tail _ hk)) fun k hk => ?_
      rcases List.mem_append.1 hk with hk | hk
      · exact ha k hk
      · rw [List.mem_singleton.1 hk]; exact lk1_KM h1 (hr q (.head _))
theorem lkn_LM {l : List JNode} : ∀ (r a : List JNode), LM r → LM a → LM (lkn l r a).1
  | [], a, _, ha => ha
  | n :: r, a, hr, ha => by
    cases h1 : lkk l n.keys [] with
    | none => rw [lkn, h1]; intro n hn; cases hn
    | some ks =>
      rw [lkn, h1]
      refine lkn_LM r _ (fun x hx => hr x (.tail _ hx)) fun x hx => ?_
      rcases List.mem_append.1 hx with hx | hx
      · exact ha x hx
      · rw [List.mem_singleton.1 hx]
        exact lkk_KM n.keys [] ks h1 (hr n (.head _)) (fun k hk => by cases hk)
theorem jlink_LM {l : List JNode} (h : LM l) : LM (jlink l).1 := by
  have h1 := lkn_LM (l := l) l [] h (fun n hn => by cases hn)
  unfold jlink
  split
  · intro n hn; cases hn
  · split
    · intro n hn; cases hn
    · exact h1
end Lg
set_option maxRecDepth 20000
set_option maxHeartbeats 4000000
namespace Go.Proofs
open Go.Shelf
def Tryz.lays195_ren : Go.Shelf.Ren := ⟨fun | 195 => 77 | n => n, fun | 9 => 9 | 3 => 3 | 0 => 0 | 4 => 4 | n => n, fun | n => n⟩
theorem Tryz.lays195 : Go.Proofs.Lays.n195 Tryz.prog Tryz.lays195_ren := {
  mixed := by kernel_rfl, f195 := Tryz.func77.trans (congrArg some (by kernel_rfl)), t0 := Tryz.underlying0, a0 := Tryz.isAgg0, z0 := Tryz.sizeOf0, v0 := Tryz.zeroValue0, t3 := Tryz.underlying3, a3 := Tryz.isAgg3, z3 := Tryz.sizeOf3, v3 := Tryz.zeroValue3, t4 := Tryz.underlying4, a4 := Tryz.isAgg4, z4 := Tryz.sizeOf4, v4 := Tryz.zeroValue4, t9 := Tryz.underlying9, a9 := Tryz.isAgg9, z9 := Tryz.sizeOf9, v9 := Tryz.zeroValue9 }
end Go.Proofs
namespace Lg
open Go Go.Proofs Go.RowKit
theorem below_iter (w : World) (s : ByteArray) (pos : Nat) : Below w.heap.size w (w.iter s pos) := (Below.refl _ w).alloc (Nat.le_refl _) _
theorem rcount_c [GLay] (s : ByteArray) (σ : List AO) (hs : s.size ≤ 1000000) : ACalls Tryz.prog 77 [.str s] σ (Ret (.int .i64 (rcnt s)) σ) :=
  ACalls_below fun st cargs g hp => by
    obtain ⟨q, qs, rfl, h1, h2⟩ := hp.inv_cons
    obtain rfl := h2.inv_nil
    obtain rfl := h1.inv_str
    refine ⟨.int .i64 (rcnt s), fun _ => .int _ _, ?_⟩
    exact (Any.utf8_RuneCountInString Tryz.lays195 s st.w (by omega)).mono fun e w' ⟨h1, pos, h2⟩ => ⟨h1, h2 ▸ below_iter _ _ _⟩
end Lg
namespace Lg
open Go
theorem rp_type (k v : JV) : rpass wTYPE k v = (if k.kind = 3 then [k] else k.l).any (fun x => ris v x.s) := by unfold rpass; rw [if_pos rfl]
theorem rp_enum (k v : JV) : rpass wENUM k v = k.l.any (fun x => pb (x = v)) := by unfold rpass; rw [if_neg (by decide), if_pos rfl]
theorem rp_const (k v : JV) : rpass wCONST k v = pb (k = v) := by unfold rpass; rw [if_neg (by decide), if_neg (by decide), if_pos rfl]
theorem rp_min (k v : JV) : rpass wMIN k v = !(decide (v.kind = 2) && decide (pCmp v.n k.n < 0)) := by unfold rpass; rw [if_neg (by decide), if_neg (by decide), if_neg (by decide), if_pos rfl]
theorem rp_max (k v : JV) : rpass wMAX k v = !(decide (v.kind = 2) && decide (0 < pCmp v.n k.n)) := by unfold rpass; rw [if_neg (by decide), if_neg (by decide), if_neg (by decide), if_neg (by decide), if_pos rfl]
theorem rp_minl (k v : JV) : rpass wMINL k v = !(decide (v.kind = 3) && decide (pCmp (ofN (rcnt v.s)) k.n < 0)) := by unfold rpass; rw [if_neg (by decide), if_neg (by decide), if_neg (by decide), if_neg (by decide), if_neg (by decide), if_pos rfl]
theorem rp_maxl (k v : JV) : rpass wMAXL k v = !(decide (v.kind = 3) && decide (0 < pCmp (ofN (rcnt v.s)) k.n)) := by unfold rpass; rw [if_neg (by decide), if_neg (by decide), if_neg (by decide), if_neg (by decide), if_neg (by decide), if_neg (by decide), if_pos rfl]
theorem rp_mini (k v : JV) : rpass wMINI k v = !(decide (v.kind = 4) && decide (pCmp (ofN v.l.length) k.n < 0)) := by unfold rpass; rw [if_neg (by decide), if_neg (by decide), if_neg (by decide), if_neg (by decide), if_neg (by decide), if_neg (by decide), if_neg (by decide), if_pos rfl]
theorem rp_maxi (k v : JV) : rpass wMAXI k v = !(decide (v.kind = 4) && decide (0 < pCmp (ofN v.l.length) k.n)) := by unfold rpass; rw [if_neg (by decide), if_neg (by decide), if_neg (by decide), if_neg (by decide), if_neg (by decide), if_neg (by decide), if_neg (by decide), if_neg (by decide), if_pos rfl]
theorem rp_uniq (k v : JV) : rpass wUNIQ k v = !(k.b && !pb (UQ v.l v.l.length)) := by unfold rpass; rw [if_neg (by decide), if_neg (by decide), if_neg (by decide), if_neg (by decide), if_neg (by decide), if_neg (by decide), if_neg (by decide), if_neg (by decide), if_neg (by decide), if_pos rfl]
theorem rp_req (k v : JV) : rpass wREQ k v = !(k.l.any fun x => decide (v.kind = 5) && !jfB v x.s) := by unfold rpass; rw [if_neg (by decide), if_neg (by decide), if_neg (by decide), if_neg (by decide), if_neg (by decide), if_neg (by decide), if_neg (by decide), if_neg (by decide), if_neg (by decide), if_neg (by decide), if_pos rfl]
theorem rp_none {nm : ByteArray} (k v : JV) (h1 : ¬ nm = wTYPE) (h2 : ¬ nm = wENUM) (h3 : ¬ nm = wCONST) (h4 : ¬ nm = wMIN) (h5 : ¬ nm = wMAX) (h6 : ¬ nm = wMINL) (h7 : ¬ nm = wMAXL) (h8 : ¬ nm = wMINI) (h9 : ¬ nm = wMAXI) (h10 : ¬ nm = wUNIQ) (h11 : ¬ nm = wREQ) : rpass nm k v = true := by
  unfold rpass; rw [if_neg h1, if_neg h2, if_neg h3, if_neg h4, if_neg h5, if_neg h6, if_neg h7, if_neg h8, if_neg h9, if_neg h10, if_neg h11]
theorem kindr {v : JV} (h : jmay v) : 0 ≤ v.kind ∧ v.kind ≤ 5 ∧ NumMay v.n := ⟨((jmay_eq v).1 h).1.1, ((jmay_eq v).1 h).1.2.1, ((jmay_eq v).1 h).1.2.2.2.1⟩
theorem typed_eq {k v : JV} (hk : kOK 1 k = true) (hv : jmay v) : (if k.kind = 3 then [k] else k.l).any (fun x => pis v x.s) = (if k.kind = 3 then [k] else k.l).any (fun x => ris v x.s) := by
  obtain ⟨h0, h5, hn⟩ := kindr hv
  have hall : ∀ x ∈ (if k.kind = 3 then [k] else k.l), tyL.any (fun t => decide (x.s = t)) = true := by
    unfold kOK at hk
    simp only [Bool.or_eq_true, Bool.and_eq_true] at hk
    intro x hx
    rcases hk with h | ⟨⟨h1, h2⟩, h3⟩
    · have ⟨h4, h6⟩ : k.kind = 3 ∧ tyL.any (fun t => decide (k.s = t)) = true := by unfold tyB at h; simpa using h
      rw [if_pos h4] at hx
      rw [List.mem_singleton.1 hx]; exact h6
    · have h4 : k.kind = 4 := by unfold txB at h1; simp at h1; exact h1.2
      rw [if_neg (by omega)] at hx
      have := List.all_eq_true.1 h3 x hx
      unfold tyB at this
      simp only [Bool.and_eq_true] at this
      exact this.2
  rw [Bool.eq_iff_iff, List.any_eq_true, List.any_eq_true]
  constructor
  · rintro ⟨x, hx, h⟩; exact ⟨x, hx, by rw [← pis_ris (hall x hx) h0 h5 hn]; exact h⟩
  · rintro ⟨x, hx, h⟩; exact ⟨x, hx, by rw [pis_ris (hall x hx) h0 h5 hn]; exact h⟩
theorem kok_type {k : JV} (h : rShape wTYPE k = 0) : kOK 1 k = true := by
  have hr : rk wTYPE = 1 := by decide
  unfold rShape at h
  rw [hr, if_neg (by decide)] at h
  by_cases hk : kOK 1 k = true
  · exact hk
  · rw [if_neg hk] at h; exact absurd h (by decide)
theorem no_l {v : JV} (hv : jmay v) (h : ¬ v.kind = 4) : v.l = [] := by
  have hb := ((jmay_eq v).1 hv).1.2.2.1
  unfold jbare at hb
  cases hl : v.l with
  | nil => rfl
  | cons a r => exfalso; simp [h, hl] at hb
noncomputable def jf (v : JV) (ks : List JKey) : List ByteArray := (ks.filter fun k => !rpass k.name k.v v).map JKey.name
theorem jf_n {v : JV} {ks : List JKey} {i : Nat} {q : JKey} (h : ks[i]? = some q) (hp : rpass q.name q.v v = false) : jf v (ks.take (i + 1)) = jf v (ks.take i) ++ [q.name] := by
  unfold jf; rw [List.take_add_one, h]; simp [List.filter_append, hp]
theorem jf_y {v : JV} {ks : List JKey} {i : Nat} {q : JKey} (h : ks[i]? = some q) (hp : rpass q.name q.v v = true) : jf v (ks.take (i + 1)) = jf v (ks.take i) := by
  unfold jf; rw [List.take_add_one, h]; simp [List.filter_append, hp]
theorem jf_len (v : JV) (ks : List JKey) : (jf v ks).length ≤ ks.length := by unfold jf; rw [List.length_map]; exact List.length_filter_le _ _
theorem jown_f {n : JNode} {v : JV} (h1 : n.all = true) (h2 : n.pass = false) : jown n v = [wFALSE] := by unfold jown; rw [if_pos ⟨h1, h2⟩]
theorem jown_k {n : JNode} {v : JV} (h : ¬ (n.all = true ∧ n.pass = false)) : jown n v = jf v n.keys := by unfold jown; rw [if_neg h]; rfl
section
variable [GLay]
def nrow (l : List ByteArray) : List (List AV) := l.map fun x => [AV.str x]
theorem nrow_len (l : List ByteArray) : (nrow l).length = l.length := by simp [nrow]
theorem nrow_el (l : List ByteArray) : ∀ r ∈ nrow l, r.length = 1 := by intro r hr; simp [nrow] at hr; obtain ⟨x, _, rfl⟩ := hr; rfl
theorem nrow_flen (l : List ByteArray) : (nrow l).flatten.length = l.length * 1 := by rw [flatten_len (nrow_el l), nrow_len]
theorem nrow_snoc (l : List ByteArray) (x : ByteArray) : (nrow (l ++ [x])).flatten = (nrow l).flatten ++ [.str x] := by simp [nrow]
theorem nrow_srow (l : List ByteArray) : nrow l = srow (l.map nml) := by
  unfold nrow srow
  rw [List.map_map]
  exact List.map_congr_left fun x _ => by simp only [Function.comp, nml, ← ba_eta]
@[simp] theorem nrow_lt (n : Nat) (l : List ByteArray) : AV.ltLL n (nrow l) := ltLL_str n l
@[simp] theorem nflat1_lt (n : Nat) (l : List ByteArray) : AV.ltL n (nrow l).flatten := fl_lt (nrow_lt n l)
end
theorem uq_step {l : List JV} {i : Nat} {x : JV} (hx : l[i]? = some x) (b : Bool) : (b && !pb (UQ l (i + 1))) = ((b && !pb (UQ l i)) || (((l.take i).any fun y => pb (y = x)) && b)) := by
  have h := UQ_succ hx
  by_cases h1 : UQ l i
  · cases h2 : ((l.take i).any fun y => pb (y = x)) with
    | false => rw [pb_t h1, pb_t (h.2 ⟨h1, h2⟩)]; simp
    | true => rw [pb_t h1, pb_f (fun z => by have := (h.1 z).2; rw [h2] at this; cases this)]; simp
  · rw [pb_f h1, pb_f (fun z => h1 (h.1 z).1)]; cases b <;> simp
theorem rq_step {l : List JV} {i : Nat} {x : JV} (hx : l[i]? = some x) (f : JV → Bool) : (l.take (i + 1)).any f = ((l.take i).any f || f x) := by
  rw [List.take_add_one, hx]; simp
theorem ty_get {v : JV} (h0 : 0 ≤ v.kind) (h5 : v.kind ≤ 5) : ([tNULL, tBOOL, tNUM, tSTR, tARR, tOBJ] : List ByteArray)[v.kind.toNat]? = some (tyN v.kind) := by
  have hk : v.kind = 0 ∨ v.kind = 1 ∨ v.kind = 2 ∨ v.kind = 3 ∨ v.kind = 4 ∨ v.kind = 5 := by omega
  rcases hk with e | e | e | e | e | e <;> rw [e] <;> rfl
theorem rq_e {l : List JV} {i : Nat} {x : JV} (hx : l[i]? = some x) {f : JV → Bool} {y : Bool} (h : (l.take i).any f = false) (hy : f x = y) : y = (l.take (i + 1)).any f := by rw [rq_step hx, h, hy]; rfl
theorem rq_t {l : List JV} {i : Nat} {x : JV} (hx : l[i]? = some x) {f : JV → Bool} (h : (l.take i).any f = true) : true = (l.take (i + 1)).any f := by rw [rq_step hx, h]; rfl
end Lg
set_option maxRecDepth 20000
set_option maxHeartbeats 4000000
namespace Lg
open Go Go.Proofs Go.RowKit
variable [GLay] [S10]
theorem pis_c (v : JV) (s : ByteArray) (cs : List AV) (σ : List AO) (hc : vcells v = cs) : ACalls Tryz.prog 112 [.agg cs, .str s] σ (Ret (.bool (pis v s)) σ) := by
 refine ACalls_body Tryz.func112 rfl Tryz.ntmps112 (res1 Tryz.results112) (Nat.le_of_ble_eq_true rfl) (fun hcl hal => ?_)
 subst hc
 rw [vcells_eq v]
 refine zw2 ?_
 refine AWp_seq ?_
 refine zw1 ?_
 refine AWp_block ?_
 refine zw2 ?_
 refine AWp_cond rfl (fun h1 => ?_) (fun h1 => ?_)
 ·(try rw [h1]); replace h1 := zcl h1
  refine zw4 ?_
  refine zrt ?_
  refine ResQ_1 rfl hcl trivial (Ret_of ?_)
  congr 1
  unfold pis
  rw [if_pos (show s = tNULL from h1)]
 ·(try rw [h1]); replace h1 := zcl h1
  refine zw2 ?_
  refine AWp_cond rfl (fun h2 => ?_) (fun h2 => ?_)
  ·(try rw [h2]); replace h2 := zcl h2
   refine zw4 ?_
   refine zrt ?_
   refine ResQ_1 rfl hcl trivial (Ret_of ?_)
   congr 1
   unfold pis
   rw [if_neg (show ¬ s = tNULL from h1), if_pos (show s = tBOOL from h2)]
  ·(try rw [h2]); replace h2 := zcl h2
   refine zw2 ?_
   refine AWp_cond rfl (fun h3 => ?_) (fun h3 => ?_)
   ·(try rw [h3]); replace h3 := zcl h3
    refine zw4 ?_
    refine zrt ?_
    refine ResQ_1 rfl hcl trivial (Ret_of ?_)
    congr 1
    unfold pis
    rw [if_neg (show ¬ s = tNULL from h1), if_neg (show ¬ s = tBOOL from h2), if_pos (show s = tNUM from h3)]
   ·(try rw [h3]); replace h3 := zcl h3
    refine zw2 ?_
    refine AWp_cond rfl (fun h4 => ?_) (fun h4 => ?_)
    ·(try rw [h4]); replace h4 := zcl h4
     refine zu4 ?_
     refine zsp 26 rfl (fun h5 => ?_) fun h5 => ?_
     ·rw [h5]; replace h5 := zcl h5
      refine zg2 ?_
      refine ztG rfl rfl (zc rfl (pwhole_c v.n _)) ?_
      refine zv2 ?_
      refine zrt ?_
      refine ResQ_1 rfl hcl trivial (Ret_of ?_)
      congr 1
      unfold pis
      rw [if_neg (show ¬ s = tNULL from h1), if_neg (show ¬ s = tBOOL from h2), if_neg (show ¬ s = tNUM from h3), if_pos (show s = tINT from h4)]
      simp [h5]
     ·rw [h5]; replace h5 := zcl h5
      refine zv5 ?_
      refine zrt ?_
      refine ResQ_1 rfl hcl trivial (Ret_of ?_)
      congr 1
      unfold pis
      rw [if_neg (show ¬ s = tNULL from h1), if_neg (show ¬ s = tBOOL from h2), if_neg (show ¬ s = tNUM from h3), if_pos (show s = tINT from h4)]
      simp [h5]
    ·(try rw [h4]); replace h4 := zcl h4
     refine zw2 ?_
     refine AWp_cond rfl (fun h6 => ?_) (fun h6 => ?_)
     ·(try rw [h6]); replace h6 := zcl h6
      refine zw4 ?_
      refine zrt ?_
      refine ResQ_1 rfl hcl trivial (Ret_of ?_)
      congr 1
      unfold pis
      rw [if_neg (show ¬ s = tNULL from h1), if_neg (show ¬ s = tBOOL from h2), if_neg (show ¬ s = tNUM from h3), if_neg (show ¬ s = tINT from h4), if_pos (show s = tSTR from h6)]
     ·(try rw [h6]); replace h6 := zcl h6
      refine zw2 ?_
      refine AWp_cond rfl (fun h7 => ?_) (fun h7 => ?_)
      ·(try rw [h7]); replace h7 := zcl h7
       refine zw4 ?_
       refine zrt ?_
       refine ResQ_1 rfl hcl trivial (Ret_of ?_)
       congr 1
       unfold pis
       rw [if_neg (show ¬ s = tNULL from h1), if_neg (show ¬ s = tBOOL from h2), if_neg (show ¬ s = tNUM from h3), if_neg (show ¬ s = tINT from h4), if_neg (show ¬ s = tSTR from h6), if_pos (show s = tARR from h7)]
      ·(try rw [h7]); replace h7 := zcl h7
       refine AWp_skip ?_
       refine zw4 ?_
       refine zrt ?_
       refine ResQ_1 rfl hcl trivial (Ret_of ?_)
       congr 1
       unfold pis
       rw [if_neg (show ¬ s = tNULL from h1), if_neg (show ¬ s = tBOOL from h2), if_neg (show ¬ s = tNUM from h3), if_neg (show ¬ s = tINT from h4), if_neg (show ¬ s = tSTR from h6), if_neg (show ¬ s = tARR from h7)]

theorem ctyp1_c (x v : JV) (σ : List AO) : ACalls Tryz.prog 114 [.agg (vcells x), .pp (vcells v)] σ (Ret (.bool (pis v x.s)) σ) := by
 refine ACalls_body Tryz.func114 rfl Tryz.ntmps114 (res1 Tryz.results114) (Nat.le_of_ble_eq_true rfl) (fun hcl hal => ?_)
 rw [vcells_eq x, vcells_eq v]
 refine zw2 ?_
 refine zu3 ?_
 refine zt rfl (zc rfl (pis_c v x.s _ _ (vcells_eq v))) ?_
 refine zv1 ?_
 refine zrt ?_
 exact ResQ_1 rfl hcl trivial (Ret_of rfl)

theorem typed_c (k v : JV) (c1 c2 : List AV) (σ : List AO) (h1c : vcells k = c1) (h2c : vcells v = c2) (hl : k.l.length ≤ 1000000000) : ACalls Tryz.prog 72 [.agg c1, .agg c2] σ (Ret (.bool ((if k.kind = 3 then [k] else k.l).any (fun x => pis v x.s))) σ) := by
 refine ACalls_body Tryz.func72 rfl Tryz.ntmps72 (res1 Tryz.results72) (Nat.le_of_ble_eq_true rfl) (fun hcl hal => ?_)
 subst h1c; subst h2c
 rw [vcells_eq k, vcells_eq v]
 refine zw3 ?_
 refine AWp_seq ?_
 refine zw3 ?_
 refine AWp_cond rfl (fun h1 => ?_) (fun h1 => ?_)
 ·(try rw [h1]); replace h1 := zcl h1
  refine zu3 ?_
  refine zt rfl (zc rfl (pis_c v k.s _ _ (vcells_eq v))) ?_
  refine zv1 ?_
  refine zrt ?_
  refine ResQ_1 rfl hcl trivial (Ret_of ?_)
  rw [if_pos h1]; simp
 ·(try rw [h1]); replace h1 := zcl h1
  refine AWp_skip ?_
  refine AWp_seq ?_
  refine AWp_freezeBoxO 3 1 rfl rfl ?_ (by decide)
  refine AWp_regL ?_
  refine zg3 ?_
  refine zt rfl (zc rfl (ctfV_c 114 _ Tryz.func114 rfl rfl [.pp [.int .i64 v.kind, .bool v.b, .bool v.n.neg, .str v.n.digits, .int .i64 v.n.exp, .str v.s, .sl false 8 (lcells v.l), .sl false 9 (mcells v.m)]] (fun n => by simp [AV.ltL, AV.lt]) k.l (fun x => pis v x.s) _ hl (fun i x hx => vcells_eq v ▸ ctyp1_c x v _))) ?_
  refine zv1 ?_
  refine zrt ?_
  refine ResQ_1 rfl hcl trivial (Ret_of ?_)
  rw [if_neg h1]

theorem camo1_c (x v : JV) (σ : List AO) (hx : jb x) (hv : jb v) : ACalls Tryz.prog 115 [.agg (vcells x), .pp (vcells v)] σ (Ret (.bool (pb (x = v))) σ) := by
 refine ACalls_body Tryz.func115 rfl Tryz.ntmps115 (res1 Tryz.results115) (Nat.le_of_ble_eq_true rfl) (fun hcl hal => ?_)
 rw [vcells_eq x, vcells_eq v]
 have hxp := jsize_pos x
 refine zw2 ?_
 refine zu2 ?_
 refine zt rfl (zc rfl (vcells_eq x ▸ vcells_eq v ▸ same_any (jsize x).toNat x v _ (by omega) hx hv)) ?_
 refine zv1 ?_
 refine zrt ?_
 exact ResQ_1 rfl hcl trivial (Ret_of rfl)

theorem among_c (l : List JV) (v : JV) (f : Bool) (es : List (List AV)) (cs : List AV) (σ : List AO) (he : lcells l = es) (hc : vcells v = cs) (hl : l.length ≤ 1000000000) (hb : ∀ x ∈ l, jb x) (hv : jb v) (hf : f = false) : ACalls Tryz.prog 73 [.sl f 8 es, .agg cs] σ (Ret (.bool (l.any (fun x => pb (x = v)))) σ) := by
 refine ACalls_body Tryz.func73 rfl Tryz.ntmps73 (res1 Tryz.results73) (Nat.le_of_ble_eq_true rfl) (fun hcl hal => ?_)
 subst he; subst hc; subst hf
 rw [vcells_eq v]
 refine zw2 ?_
 refine AWp_seq ?_
 refine AWp_freezeBoxO 3 0 rfl rfl ?_ (by decide)
 refine AWp_regL ?_
 refine zg2 ?_
 refine zt rfl (zc rfl (ctfV_c 115 _ Tryz.func115 rfl rfl [.pp [.int .i64 v.kind, .bool v.b, .bool v.n.neg, .str v.n.digits, .int .i64 v.n.exp, .str v.s, .sl false 8 (lcells v.l), .sl false 9 (mcells v.m)]] (fun n => by simp [AV.ltL, AV.lt]) l (fun x => pb (x = v)) _ hl (fun i x hx => vcells_eq v ▸ camo1_c x v _ (hb x (List.mem_of_getElem? hx)) hv))) ?_
 refine zv1 ?_
 refine zrt ?_
 exact ResQ_1 rfl hcl trivial (Ret_of rfl)

theorem unique_c (l : List JV) (σ : List AO) (hl : l.length ≤ 1000000000) (hb : ∀ x ∈ l, jb x) : ACalls Tryz.prog 78 [.sl false 8 (lcells l)] σ (Ret (.bool (pb (UQ l l.length))) σ) := by
 refine ACalls_body Tryz.func78 rfl Tryz.ntmps78 (res1 Tryz.results78) (Nat.le_of_ble_eq_true rfl) (fun hcl hal => ?_)
 have hll := lcells_length l
 refine zw1 ?_
 refine AWp_seq ?_
 refine zw3 ?_
 refine AWp_block ?_
 -- loop 0 LIVE 0:param 2:assign 5:move 6:call 7:move
 refine AWp_loop (ι := Nat) (fun i => i ≤ l.length ∧ UQ l i) (fun i => ⟨[], [(0, .sl false 8 (lcells l)), (2, .bool false), (5, .sl false 8 (lcells l)), (6, .int .i64 (l.length : Int)), (7, .int .i64 (i : Int))]⟩) (fun i => σ) (fun i => l.length - i) (0) (⟨Nat.zero_le _, UQ_0 l⟩) ?_ rfl (fun i hi => ?_)
 ·exact ⟨rfl, rfl, rfl, rfl, congrArg (fun n : Nat => AV.int .i64 (n : Int)) (lcells_length _), rfl, trivial⟩
 obtain ⟨hi1, hi2⟩ := hi
 refine zw1 ?_
 refine AWp_seq ?_
 refine AWp_cond rfl (fun h1 => ?_) (fun h1 => ?_)
 ·(try rw [h1]); replace h1 := zcl h1
  obtain ⟨x, hx⟩ : ∃ x, l[i]? = some x := ⟨_, List.getElem?_eq_getElem (show i < l.length by omega)⟩
  have hxm := List.mem_of_getElem? hx
  refine AWp_skip ?_
  refine AWp_seq ?_
  refine AWp_block ?_
  refine zu2 ?_
  rw [vcells_eq x]
  refine zv4 ?_
  refine AWp_seq ?_
  refine AWp_drawL #[0, 0, 3, 0, 15] Tryz.mixed (by decide +kernel) (by decide +kernel) ?_
  refine zd2 ?_
  refine yA rfl rfl (fun _ => op_sliceSl 0 (i : Int) rfl Tryz.underlying25 Tryz.sizeOf28 rfl (by first | exact ⟨_, rfl⟩ | rfl) (by first | exact ⟨_, rfl⟩ | rfl) (by omega) (by omega) (by omega)) ?_
  refine zp1 ?_
  refine yP rfl rfl (zc rfl (among_c (l.take i) x _ _ _ _ (by simp [lcells_eq, List.map_take]) (vcells_eq x) (by rw [List.length_take]; omega) (fun y hy => hb y (List.mem_of_mem_take hy)) (hb x hxm) rfl)) (trivial) ?_
  refine RP.nil rfl ?_
  refine AWp_cond rfl (fun h2 => ?_) (fun h2 => ?_)
  ·(try rw [h2]); replace h2 := zcl h2
   refine zw1 ?_
   refine zrt ?_
   refine ResQ_1 rfl hcl trivial (Ret_of ?_)
   rw [pb_f]
   intro hu
   exact absurd ((UQ_succ hx).1 (fun a y ha => hu a y (by omega))).2 (by rw [h2]; decide)
  ·(try rw [h2]); replace h2 := zcl h2
   refine AWp_skip ?_
   refine AWp_regL ?_
   refine zv2 ?_
   refine ⟨i + 1, σ.length, ⟨by omega, (UQ_succ hx).2 ⟨hi2, h2⟩⟩, by omega, by simp, ⟨rfl, rfl, rfl, rfl, rfl, rfl, trivial⟩, closed_own 0 hcl (by simp [ownLt]), ?_, (take_own 0).trans (List.append_nil _)⟩
   ·simp [ltE, AV.lt, AV.ltL]
 ·(try rw [h1]); replace h1 := zcl h1
  refine AWp_exit ?_
  refine zw1 ?_
  refine zrt ?_
  refine ResQ_10 rfl hcl trivial (Ret_of ?_)
  rw [pb_t]
  rwa [show l.length = i by omega]

theorem findC_c (v : JV) (key : ByteArray) (cs : List AV) (σ : List AO) (hc : vcells v = cs) (hb : v.m.length ≤ 1000000) : ACalls Tryz.prog 125 [.agg cs, .str key] σ (Ret (.tup [.agg (vcells (jfD v key)), .bool (jfB v key)]) σ) := by
  subst hc; exact FindR.ret (find_c v key σ hb)
theorem rfindC_c (v : JV) (key : ByteArray) (cs : List AV) (σ : List AO) (hc : vcells v = cs) (hb : v.m.length ≤ 1000000) : ACalls Tryz.prog 43 [.agg cs, .str key] σ (Ret (.tup [.agg (vcells (jfD v key)), .bool (jfB v key)]) σ) := by
  subst hc; exact FindR.ret (rfind_c v key σ hb)
theorem chas1_c (x v : JV) (σ : List AO) (hb : v.m.length ≤ 1000000) : ACalls Tryz.prog 124 [.agg (vcells x), .pp (vcells v)] σ (Ret (.bool (!jfB v x.s)) σ) := by
 refine ACalls_body Tryz.func124 rfl Tryz.ntmps124 (res1 Tryz.results124) (Nat.le_of_ble_eq_true rfl) (fun hcl hal => ?_)
 rw [vcells_eq x, vcells_eq v]
 refine zw2 ?_
 refine zu3 ?_
 refine zt rfl (zc rfl (findC_c v x.s _ _ (vcells_eq v) hb)) ?_
 rw [vcells_eq (jfD v x.s)]
 refine zv6 ?_
 refine zw3 ?_
 refine zrt ?_
 exact ResQ_1 rfl hcl trivial (Ret_of rfl)

theorem has_c (k v : JV) (c1 c2 : List AV) (σ : List AO) (h1c : vcells k = c1) (h2c : vcells v = c2) (hl : k.l.length ≤ 1000000000) (hb : v.m.length ≤ 1000000) : ACalls Tryz.prog 79 [.agg c1, .agg c2] σ (Ret (.bool (!k.l.any (fun x => !jfB v x.s))) σ) := by
 refine ACalls_body Tryz.func79 rfl Tryz.ntmps79 (res1 Tryz.results79) (Nat.le_of_ble_eq_true rfl) (fun hcl hal => ?_)
 subst h1c; subst h2c
 rw [vcells_eq k, vcells_eq v]
 refine zw3 ?_
 refine AWp_seq ?_
 refine AWp_freezeBoxO 3 1 rfl rfl ?_ (by decide)
 refine AWp_regL ?_
 refine zg3 ?_
 refine zt rfl (zc rfl (ctfV_c 124 _ Tryz.func124 rfl rfl [.pp [.int .i64 v.kind, .bool v.b, .bool v.n.neg, .str v.n.digits, .int .i64 v.n.exp, .str v.s, .sl false 8 (lcells v.l), .sl false 9 (mcells v.m)]] (fun n => by simp [AV.ltL, AV.lt]) k.l (fun x => !jfB v x.s) _ hl (fun i x hx => vcells_eq v ▸ chas1_c x v _ hb))) ?_
 refine zv2 ?_
 refine zrt ?_
 exact ResQ_1 rfl hcl trivial (Ret_of rfl)

theorem pofN_c (k : Int) (σ : List AO) (h0 : 0 ≤ k) (h1 : k ≤ 1000000000000) : ACalls Tryz.prog 123 [.int .i64 k] σ (Ret (.agg (ncells (ofN k))) σ) := pof_c k σ h0 h1
theorem pcmpJ_c (a b : JNum) (σ : List AO) (ha : JMay a) (hb : JMay b) : ACalls Tryz.prog 75 [.agg (ncells a), .agg (ncells b)] σ (Ret (.int .i64 (pCmp a b)) σ) := pcmp_c a b σ ha.bnd hb.bnd
theorem long_c (n : Int) (k : JV) (cs : List AV) (σ : List AO) (hc : vcells k = cs) (h0 : 0 ≤ n) (h1 : n ≤ 1000000000000) (hk : JMay k.n) : ACalls Tryz.prog 76 [.int .i64 n, .agg cs] σ (Ret (.int .i64 (pCmp (ofN n) k.n)) σ) := by
 refine ACalls_body Tryz.func76 rfl Tryz.ntmps76 (res1 Tryz.results76) (Nat.le_of_ble_eq_true rfl) (fun hcl hal => ?_)
 subst hc
 rw [vcells_eq k]
 refine zw2 ?_
 refine AWp_seq ?_
 refine AWp_drawL #[0, 1, 0, 4, 15, 31] Tryz.mixed (by decide +kernel) (by decide +kernel) ?_
 refine zd1 ?_
 refine yP rfl rfl (zc rfl (pofN_c n _ h0 h1)) (trivial) ?_
 refine zd1 ?_
 refine zp1 ?_
 refine yP rfl rfl (zc rfl (pcmpJ_c (ofN n) k.n _ (ofN_may n) hk)) (trivial) ?_
 refine zd1 ?_
 refine RP.nil rfl ?_
 refine zrt ?_
 exact ResQ_1 rfl hcl trivial (Ret_of rfl)
end Lg
set_option maxRecDepth 20000
set_option maxHeartbeats 4000000
namespace Lg
open Go Go.Proofs Go.RowKit
variable [GLay] 
theorem rsame_any (n : Nat) : ∀ (x y : JV) (σ : List AO), jsize x ≤ n → jb x → jb y → ACalls Tryz.prog 32 [.agg (vcells x), .agg (vcells y)] σ (Ret (.bool (pb (x = y))) σ) := by
 induction n with
 | zero => intro x y σ h; have := jsize_pos x; omega
 | succ n ih =>
 intro x y σ hn hjx hjy
 have hvs := jsize_eq x
 have hl := lsize_nn x.l
 have hm := msize_nn x.m
 obtain ⟨hb1, hb2, hb3, hb4, hb5, hb6⟩ := (jb_eq x).1 hjx
 obtain ⟨hc1, hc2, hc3, hc4, hc5, hc6⟩ := (jb_eq y).1 hjy
 have hxl := lcells_length x.l
 have hyl := lcells_length y.l
 have hxm := mcells_length x.m
 have hym := mcells_length y.m
 refine ACalls_body Tryz.func32 rfl Tryz.ntmps32 (res1 Tryz.results32) (Nat.le_of_ble_eq_true rfl) (fun hcl hal => ?_)
 rw [vcells_eq x, vcells_eq y]
 refine zw3 ?_
 refine AWp_seq ?_
 refine zu6 ?_
 refine zsp 14 rfl (fun h1 => ?_) fun h1 => ?_
 ·rw [h1]; replace h1 := zcl h1
  refine zg30 ?_
  refine zg8 ?_
  refine zon ?_
  refine AWp_condT rfl ?_
  refine zw1 ?_
  refine zrt ?_
  refine ResQ_1 rfl hcl trivial (Ret_of (bool_f ?_))
  rw [jv_ext]; intro hj; obtain ⟨j1, j2, ⟨j3, j4, j5⟩, j6, j7, j8⟩ := hj
  simp_all
 ·rw [h1]; replace h1 := zcl h1
  refine zg7 ?_
  refine zsp 21 rfl (fun h2 => ?_) fun h2 => ?_
  ·rw [h2]; replace h2 := zcl h2
   refine zg30 ?_
   refine zg1 ?_
   refine zon ?_
   refine AWp_condT rfl ?_
   refine zw1 ?_
   refine zrt ?_
   refine ResQ_1 rfl hcl trivial (Ret_of (bool_f ?_))
   rw [jv_ext]; intro hj; obtain ⟨j1, j2, ⟨j3, j4, j5⟩, j6, j7, j8⟩ := hj
   simp_all
  ·rw [h2]; replace h2 := zcl h2
   refine zg4 ?_
   refine ztG rfl rfl (op_neS rfl Tryz.underlying24 (by kernel_rfl) (by kernel_rfl) (.bool _ _ _ _ _ _ _ _ (by decide) rfl Tryz.underlying4 (.str _ _ _ _ _ _ _ _ (by decide) rfl Tryz.underlying9 (.int _ _ _ _ _ _ _ _ _ _ (by decide) rfl Tryz.underlying3 (.nil _)))) rfl rfl) ?_
   refine zg2 ?_
   refine zsp 28 rfl (fun h3 => ?_) fun h3 => ?_
   ·rw [h3]; replace h3 := zcl h3
    refine zg20 ?_
    refine zg4 ?_
    refine zon ?_
    refine AWp_condT rfl ?_
    refine zw1 ?_
    refine zrt ?_
    refine ResQ_1 rfl hcl trivial (Ret_of (bool_f ?_))
    rw [jv_ext]; intro hj; obtain ⟨j1, j2, ⟨j3, j4, j5⟩, j6, j7, j8⟩ := hj
    simp_all
   ·rw [h3]; replace h3 := zcl h3
    refine zg7 ?_
    refine zsp 35 rfl (fun h4 => ?_) fun h4 => ?_
    ·rw [h4]; replace h4 := zcl h4
     refine zg10 ?_
     refine zg7 ?_
     refine zon ?_
     refine AWp_condT rfl ?_
     refine zw1 ?_
     refine zrt ?_
     refine ResQ_1 rfl hcl trivial (Ret_of (bool_f ?_))
     rw [jv_ext]; intro hj; obtain ⟨j1, j2, ⟨j3, j4, j5⟩, j6, j7, j8⟩ := hj
     simp_all
    ·rw [h4]; replace h4 := zcl h4
     refine zg9 ?_
     refine zsp 44 rfl (fun h5 => ?_) fun h5 => ?_
     ·rw [h5]; replace h5 := zcl h5
      refine zv8 ?_
      refine AWp_condT rfl ?_
      refine zw1 ?_
      refine zrt ?_
      refine ResQ_1 rfl hcl trivial (Ret_of (bool_f ?_))
      rw [jv_ext]; intro hj; obtain ⟨j1, j2, ⟨j3, j4, j5⟩, j6, j7, j8⟩ := hj
      simp_all
     ·rw [h5]; replace h5 := zcl h5
      refine zv8 ?_
      refine AWp_cond rfl (fun h6 => ?_) (fun h6 => ?_)
      ·(try rw [h6]); replace h6 := zcl h6
       refine zw1 ?_
       refine zrt ?_
       refine ResQ_1 rfl hcl trivial (Ret_of (bool_f ?_))
       rw [jv_ext]; intro hj; obtain ⟨j1, j2, ⟨j3, j4, j5⟩, j6, j7, j8⟩ := hj
       simp_all
      ·(try rw [h6]); replace h6 := zcl h6
       have hlen1 : x.l.length = y.l.length := by omega
       have hlen2 : x.m.length = y.m.length := by omega
       refine AWp_skip ?_
       refine AWp_seq ?_
       refine zw1 ?_
       refine AWp_block ?_
       -- loop 0 LIVE 2:box 3:box 4:assign 5:assign
       refine AWp_loop (ι := Nat) (fun i => i ≤ x.l.length ∧ ∀ j : Nat, j < i → x.l[j]? = y.l[j]?) (fun i => ⟨[], [(2, .ptr (σ.length + 0) 0), (3, .ptr (σ.length + 1) 0), (5, .int .i64 (i : Int))]⟩) (fun i => σ ++ [_, _]) (fun i => x.l.length - i) (0) (⟨Nat.zero_le _, fun j hj => absurd hj (by omega)⟩) ?_ rfl (fun i hi => ?_)
       ·exact ⟨rfl, rfl, rfl, rfl, trivial⟩
       obtain ⟨hi1, hi2⟩ := hi
       refine AWp_seq ?_
       refine zw5 ?_
       refine AWp_cond rfl (fun h7 => ?_) (fun h7 => ?_)
       ·(try rw [h7]); replace h7 := zcl h7
        obtain ⟨u, hu⟩ : ∃ u, x.l[i]? = some u := ⟨_, List.getElem?_eq_getElem (show i < x.l.length by omega)⟩
        obtain ⟨w, hw⟩ : ∃ w, y.l[i]? = some w := ⟨_, List.getElem?_eq_getElem (show i < y.l.length by omega)⟩
        have hlm := lsize_mem hu
        refine AWp_skip ?_
        refine AWp_seq ?_
        refine AWp_block ?_
        refine AWp_seq ?_
        refine AWp_drawL #[0, 1, 0, 7, 15, 0, 32, 0, 224, 480, 1023, 2047] Tryz.mixed (by decide +kernel) (by decide +kernel) ?_
        refine zd1 ?_
        refine zp1 ?_
        refine zd1 ?_
        refine yA rfl rfl (fun _ => op_indexAddr rfl Tryz.underlying25 Tryz.sizeOf28 rfl rfl (by omega) (lcells_get hu)) ?_
        rw [vcells_eq u]
        refine zp1 ?_
        refine zd1 ?_
        refine zp1 ?_
        refine zd1 ?_
        refine yA rfl rfl (fun _ => op_indexAddr rfl Tryz.underlying25 Tryz.sizeOf28 rfl rfl (by omega) (lcells_get hw)) ?_
        rw [vcells_eq w]
        refine zp1 ?_
        refine yP rfl rfl (zc rfl (AC2 (vcells_eq u) (vcells_eq w) (ih u w _ (by omega) (lb_get hb5 hu) (lb_get hc5 hw)))) (trivial) ?_
        refine zd1 ?_
        refine RP.nil rfl ?_
        refine zw2 ?_
        refine AWp_cond rfl (fun h8 => ?_) (fun h8 => ?_)
        ·(try rw [h8]); replace h8 := zcl h8
         refine zw1 ?_
         refine zrt ?_
         refine ResQ_1 rfl hcl trivial (Ret_of (bool_f fun e => ?_))
         rw [e] at hu; rw [hu] at hw; cases hw; rw [pb_t rfl] at h8; cases h8
        ·(try rw [h8]); replace h8 := zcl h8
         refine AWp_skip ?_
         refine AWp_regL ?_
         refine zv3 ?_
         have huw := (pb_iff _).1 h8
         refine ⟨i + 1, σ.length + 2, ⟨by omega, fun j hj => ?_⟩, by omega, by simp, ⟨rfl, rfl, rfl, rfl, trivial⟩, closed_own 2 hcl ?_, ?_, take_own 2⟩
         ·by_cases e : j = i
          ·subst e; rw [hu, hw, huw]
          ·exact hi2 j (by omega)
         ·simp [ownLt, AO.cells, AV.ltL, AV.lt]
         ·simp [ltE, AV.lt]
       ·(try rw [h7]); replace h7 := zcl h7
        have hL : x.l = y.l := list_eq_of hlen1 fun j hj => hi2 j (by omega)
        clear hi2 hi1 h7
        refine AWp_exit ?_
        refine AWp_seq ?_
        refine zw1 ?_
        refine AWp_block ?_
        -- loop 1 LIVE 2:box 3:box 4:assign 7:assign
        refine AWp_loop (ι := Nat) (fun i => i ≤ x.m.length ∧ ∀ j : Nat, j < i → x.m[j]? = y.m[j]?) (fun i => ⟨[], [(2, .ptr (σ.length + 0) 0), (3, .ptr (σ.length + 1) 0), (7, .int .i64 (i : Int))]⟩) (fun i => σ ++ [_, _]) (fun i => x.m.length - i) (0) (⟨Nat.zero_le _, fun j hj => absurd hj (by omega)⟩) ?_ rfl (fun i hi => ?_)
        ·exact ⟨rfl, rfl, rfl, rfl, trivial⟩
        obtain ⟨hi3, hi4⟩ := hi
        refine AWp_seq ?_
        refine zw5 ?_
        refine AWp_cond rfl (fun h9 => ?_) (fun h9 => ?_)
        ·(try rw [h9]); replace h9 := zcl h9
         obtain ⟨u, hu⟩ : ∃ u, x.m[i]? = some u := ⟨_, List.getElem?_eq_getElem (show i < x.m.length by omega)⟩
         obtain ⟨w, hw⟩ : ∃ w, y.m[i]? = some w := ⟨_, List.getElem?_eq_getElem (show i < y.m.length by omega)⟩
         have hms := msize_mem hu
         refine AWp_skip ?_
         refine AWp_seq ?_
         refine AWp_block ?_
         refine AWp_seq ?_
         refine AWp_drawL #[0, 1, 0, 7, 15, 31, 0, 64, 0, 448, 960, 1984, 4095, 8191] Tryz.mixed (by decide +kernel) (by decide +kernel) ?_
         refine zd1 ?_
         refine zp1 ?_
         refine zd1 ?_
         refine yA rfl rfl (fun _ => op_indexAddr rfl Tryz.underlying26 Tryz.sizeOf122 rfl rfl (by omega) (mcells_get hu)) ?_
         refine zd1 ?_
         rw [vcells_eq u.2]
         refine zp1 ?_
         refine zd1 ?_
         refine zp1 ?_
         refine zd1 ?_
         refine yA rfl rfl (fun _ => op_indexAddr rfl Tryz.underlying26 Tryz.sizeOf122 rfl rfl (by omega) (mcells_get hw)) ?_
         refine zd1 ?_
         rw [vcells_eq w.2]
         refine zp1 ?_
         refine yP rfl rfl (zc rfl (AC2 (vcells_eq u.2) (vcells_eq w.2) (ih u.2 w.2 _ (by omega) (mb_get hb6 hu).2 (mb_get hc6 hw).2))) (trivial) ?_
         refine zd1 ?_
         refine RP.nil rfl ?_
         refine AWp_seq ?_
         refine AWp_drawL #[0, 1, 3, 7, 15, 7, 63, 127, 255, 7, 519, 7, 3591, 7687, 15879, 32767, 65535] Tryz.mixed (by decide +kernel) (by decide +kernel) ?_
         refine zd3 ?_
         refine zspr 95 rfl (fun h10 => ?_) fun h10 => ?_
         ·rw [h10]; replace h10 := zcl h10
          refine zd10 ?_
          refine zd4 ?_
          refine RP.nil rfl ?_
          refine AWp_condT rfl ?_
          refine zw1 ?_
          refine zrt ?_
          refine ResQ_1 rfl hcl trivial (Ret_of (bool_f fun e => ?_))
          rw [e] at hu; rw [hu] at hw; cases hw; rw [pb_t rfl] at h10; cases h10
         ·rw [h10]; replace h10 := zcl h10
          refine zd1 ?_
          refine zp1 ?_
          refine zd1 ?_
          refine yAG rfl rfl rfl (fun _ => op_indexAddr rfl Tryz.underlying26 Tryz.sizeOf122 rfl rfl (by omega) (mcells_get hu)) ?_
          refine zd1 ?_
          refine zp1 ?_
          refine zd1 ?_
          refine zp1 ?_
          refine zd1 ?_
          refine yAG rfl rfl rfl (fun _ => op_indexAddr rfl Tryz.underlying26 Tryz.sizeOf122 rfl rfl (by omega) (mcells_get hw)) ?_
          refine zd1 ?_
          refine zp1 ?_
          refine zd2 ?_
          refine RP.nil rfl ?_
          refine AWp_cond rfl (fun h11 => ?_) (fun h11 => ?_)
          ·(try rw [h11]); replace h11 := zcl h11
           refine zw1 ?_
           refine zrt ?_
           refine ResQ_1 rfl hcl trivial (Ret_of (bool_f fun e => ?_))
           rw [e] at hu; rw [hu] at hw; cases hw; exact h11 rfl
          ·(try rw [h11]); replace h11 := zcl h11
           refine AWp_skip ?_
           refine AWp_regL ?_
           refine zv3 ?_
           have huw := (pb_iff _).1 h10
           refine ⟨i + 1, σ.length + 2, ⟨by omega, fun j hj => ?_⟩, by omega, by simp, ⟨rfl, rfl, rfl, rfl, trivial⟩, closed_own 2 hcl ?_, ?_, take_own 2⟩
           ·by_cases e : j = i
            ·subst e; rw [hu, hw, Prod.ext h11 huw]
            ·exact hi4 j (by omega)
           ·simp [ownLt, AO.cells, AV.ltL, AV.lt]
           ·simp [ltE, AV.lt]
        ·(try rw [h9]); replace h9 := zcl h9
         have hM : x.m = y.m := list_eq_of hlen2 fun j hj => hi4 j (by omega)
         refine AWp_exit ?_
         refine zw1 ?_
         refine zrt ?_
         refine ResQ_1 rfl hcl trivial (Ret_of (bool_t ((jv_ext x y).2 ?_)))
         simp_all
end Lg
set_option maxRecDepth 20000
set_option maxHeartbeats 4000000
namespace Lg
open Go Go.Proofs Go.RowKit
variable [GLay] 
theorem utf8_c (s : ByteArray) (a : Int) (σ : List AO) (hs : s.size ≤ 140737488355328) (h0 : 0 ≤ a) (ha : a < s.size) : ACalls Tryz.prog 69 [.str s, .int .i64 a] σ (Ret (.int .i64 (u8 s a.toNat : Int)) σ) := by
 refine ACalls_body Tryz.func69 rfl Tryz.ntmps69 (res1 Tryz.results69) (Nat.le_of_ble_eq_true rfl) (fun hcl hal => ?_)
 have c0 := bat_lt s a.toNat
 have c1 := bat_lt s (a.toNat + 1)
 have c2 := bat_lt s (a.toNat + 2)
 have c3 := bat_lt s (a.toNat + 3)
 refine zw1 ?_
 refine zw5 ?_
 refine AWp_seq ?_
 refine zw2 ?_
 refine AWp_cond rfl (fun h1 => ?_) (fun h1 => ?_)
 ·(try rw [h1]); replace h1 := zcl h1
  refine zw1 ?_
  refine zrt ?_
  refine ResQ_10 rfl hcl trivial (Ret_of ?_)
  congr 1
  unfold u8
  first | rw [u8N_1 (by omega)] | rw [u8N_2 (by omega) (by omega)] | rw [u8N_3 (by omega) (by omega) rfl] | rw [u8N_4 (by omega) (by omega) rfl] | rw [u8N_0 (by omega) (by omega)]
  all_goals (try split) <;> omega
 ·(try rw [h1]); replace h1 := zcl h1
  refine AWp_skip ?_
  refine zw1 ?_
  refine zw1 ?_
  refine zw1 ?_
  refine AWp_seq ?_
  refine zu3 ?_
  refine zsp 19 rfl (fun h2 => ?_) fun h2 => ?_
  ·rw [h2]; replace h2 := zcl h2
   refine zv3 ?_
   refine AWp_cond rfl (fun h3 => ?_) (fun h3 => ?_)
   ·(try rw [h3]); replace h3 := zcl h3
    refine zw1 ?_
    refine zw1 ?_
    refine AWp_regL ?_
    refine zv3 ?_
    refine AWp_seq ?_
    refine zw6 ?_
    refine AWp_cond rfl (fun h4 => ?_) (fun h4 => ?_)
    ·(try rw [h4]); replace h4 := zcl h4
     refine zw1 ?_
     refine zrt ?_
     refine ResQ_10 rfl hcl trivial (Ret_of ?_)
     congr 1
     unfold u8
     first | rw [u8N_1 (by omega)] | rw [u8N_2 (by omega) (by omega)] | rw [u8N_3 (by omega) (by omega) rfl] | rw [u8N_4 (by omega) (by omega) rfl] | rw [u8N_0 (by omega) (by omega)]
     all_goals (try split) <;> omega
    ·(try rw [h4]); replace h4 := zcl h4
     refine AWp_skip ?_
     refine AWp_seq ?_
     refine zw1 ?_
     refine AWp_block ?_
     -- loop 0 LIVE 0:param 1:param 4:assign 6:assign 7:assign 8:assign 9:assign
     refine AWp_loop (ι := Nat × Int) (fun p => (p.1 = 1 ∧ p.2 = ((bat s a.toNat).toNat : Int) - 192) ∨ (p.1 = 2 ∧ 128 ≤ ((bat s (a.toNat + 1)).toNat : Int) ∧ ((bat s (a.toNat + 1)).toNat : Int) < 192 ∧ p.2 = (64 * (((bat s a.toNat).toNat : Int) - 192) + (((bat s (a.toNat + 1)).toNat : Int) - 128)))) (fun p => ⟨[], [(0, .str s), (1, .int .i64 a), (6, .int .i64 2), (7, .int .i64 128), (8, .int .i64 p.2), (9, .int .i64 (p.1 : Int))]⟩) (fun p => σ) (fun p => 2 - p.1) ((1, ((bat s a.toNat).toNat : Int) - 192)) (.inl ⟨rfl, rfl⟩) ?_ rfl (fun p hp => ?_)
     ·exact ⟨rfl, rfl, rfl, rfl, rfl, rfl, rfl, trivial⟩
     obtain ⟨i, v⟩ := p
     simp only at hp ⊢
     have ci := bat_lt s (a + (i : Int)).toNat
     have k1 : i = 1 → (bat s (a + (i : Int)).toNat).toNat = (bat s (a.toNat + 1)).toNat := fun h => by rw [h]; congr 2; omega
     have k2 : i = 2 → (bat s (a + (i : Int)).toNat).toNat = (bat s (a.toNat + 2)).toNat := fun h => by rw [h]; congr 2; omega
     have k3 : i = 3 → (bat s (a + (i : Int)).toNat).toNat = (bat s (a.toNat + 3)).toNat := fun h => by rw [h]; congr 2; omega
     refine AWp_seq ?_
     refine zw3 ?_
     refine AWp_cond rfl (fun h5 => ?_) (fun h5 => ?_)
     ·(try rw [h5]); replace h5 := zcl h5
      refine AWp_skip ?_
      refine AWp_seq ?_
      refine AWp_block ?_
      refine zw7 ?_
      refine AWp_seq ?_
      refine zu3 ?_
      refine zsp 60 rfl (fun h6 => ?_) fun h6 => ?_
      ·rw [h6]; replace h6 := zcl h6
       refine zv3 ?_
       refine AWp_condT rfl ?_
       refine zw1 ?_
       refine zrt ?_
       refine ResQ_10 rfl hcl trivial (Ret_of ?_)
       congr 1
       unfold u8
       first | rw [u8N_1 (by omega)] | rw [u8N_2 (by omega) (by omega)] | rw [u8N_3 (by omega) (by omega) rfl] | rw [u8N_4 (by omega) (by omega) rfl] | rw [u8N_0 (by omega) (by omega)]
       all_goals (try split) <;> omega
      ·rw [h6]; replace h6 := zcl h6
       refine zv3 ?_
       refine AWp_cond rfl (fun h7 => ?_) (fun h7 => ?_)
       ·(try rw [h7]); replace h7 := zcl h7
        refine zw1 ?_
        refine zrt ?_
        refine ResQ_10 rfl hcl trivial (Ret_of ?_)
        congr 1
        unfold u8
        first | rw [u8N_1 (by omega)] | rw [u8N_2 (by omega) (by omega)] | rw [u8N_3 (by omega) (by omega) rfl] | rw [u8N_4 (by omega) (by omega) rfl] | rw [u8N_0 (by omega) (by omega)]
        all_goals (try split) <;> omega
       ·(try rw [h7]); replace h7 := zcl h7
        refine AWp_skip ?_
        refine AWp_regL ?_
        refine zv6 ?_
        refine AWp_regL ?_
        refine zv3 ?_
        refine ⟨(i + 1, _), σ.length, ?_, ?_, Nat.le_refl _, ⟨rfl, rfl, rfl, rfl, rfl, rfl, rfl, trivial⟩, hcl, ?_, List.take_length⟩
        ·simp only; omega
        ·simp only; omega
        ·simp [ltE, AV.lt]
     ·(try rw [h5]); replace h5 := zcl h5
      refine AWp_exit ?_
      refine AWp_seq ?_
      refine zu4 ?_
      refine zsp 72 rfl (fun h8 => ?_) fun h8 => ?_
      ·rw [h8]; replace h8 := zcl h8
       refine zg10 ?_
       refine zg1 ?_
       refine zon ?_
       refine AWp_condT rfl ?_
       refine zw1 ?_
       refine zrt ?_
       refine ResQ_10 rfl hcl trivial (Ret_of ?_)
       congr 1
       unfold u8
       first | rw [u8N_1 (by omega)] | rw [u8N_2 (by omega) (by omega)] | rw [u8N_3 (by omega) (by omega) rfl] | rw [u8N_4 (by omega) (by omega) rfl] | rw [u8N_0 (by omega) (by omega)]
       all_goals (try split) <;> omega
      ·rw [h8]; replace h8 := zcl h8
       refine zg4 ?_
       refine zsp 76 rfl (fun h9 => ?_) fun h9 => ?_
       ·rw [h9]; replace h9 := zcl h9
        refine zv7 ?_
        refine AWp_condT rfl ?_
        refine zw1 ?_
        refine zrt ?_
        refine ResQ_10 rfl hcl trivial (Ret_of ?_)
        congr 1
        unfold u8
        first | rw [u8N_1 (by omega)] | rw [u8N_2 (by omega) (by omega)] | rw [u8N_3 (by omega) (by omega) rfl] | rw [u8N_4 (by omega) (by omega) rfl] | rw [u8N_0 (by omega) (by omega)]
        all_goals (try split) <;> omega
       ·rw [h9]; replace h9 := zcl h9
        refine zg3 ?_
        refine zsp 79 rfl (fun h10 => ?_) fun h10 => ?_
        ·rw [h10]; replace h10 := zcl h10
         refine zv4 ?_
         refine AWp_cond rfl (fun h11 => ?_) (fun h11 => ?_)
         ·(try rw [h11]); replace h11 := zcl h11
          refine zw1 ?_
          refine zrt ?_
          refine ResQ_10 rfl hcl trivial (Ret_of ?_)
          congr 1
          unfold u8
          first | rw [u8N_1 (by omega)] | rw [u8N_2 (by omega) (by omega)] | rw [u8N_3 (by omega) (by omega) rfl] | rw [u8N_4 (by omega) (by omega) rfl] | rw [u8N_0 (by omega) (by omega)]
          all_goals (try split) <;> omega
         ·(try rw [h11]); replace h11 := zcl h11
          refine AWp_skip ?_
          refine zw2 ?_
          refine zrt ?_
          refine ResQ_10 rfl hcl trivial (Ret_of ?_)
          congr 1
          unfold u8
          first | rw [u8N_1 (by omega)] | rw [u8N_2 (by omega) (by omega)] | rw [u8N_3 (by omega) (by omega) rfl] | rw [u8N_4 (by omega) (by omega) rfl] | rw [u8N_0 (by omega) (by omega)]
          all_goals (try split) <;> omega
        ·rw [h10]; replace h10 := zcl h10
         refine zv4 ?_
         refine AWp_condF rfl ?_
         refine AWp_skip ?_
         refine zw2 ?_
         refine zrt ?_
         refine ResQ_10 rfl hcl trivial (Ret_of ?_)
         congr 1
         unfold u8
         first | rw [u8N_1 (by omega)] | rw [u8N_2 (by omega) (by omega)] | rw [u8N_3 (by omega) (by omega) rfl] | rw [u8N_4 (by omega) (by omega) rfl] | rw [u8N_0 (by omega) (by omega)]
         all_goals (try split) <;> omega
   ·(try rw [h3]); replace h3 := zcl h3
    refine zu3 ?_
    refine zsp 27 rfl (fun h12 => ?_) fun h12 => ?_
    ·rw [h12]; replace h12 := zcl h12
     refine zv3 ?_
     refine AWp_cond rfl (fun h13 => ?_) (fun h13 => ?_)
     ·(try rw [h13]); replace h13 := zcl h13
      refine zw1 ?_
      refine zw1 ?_
      refine AWp_regL ?_
      refine zv3 ?_
      refine AWp_seq ?_
      refine zw6 ?_
      refine AWp_cond rfl (fun h14 => ?_) (fun h14 => ?_)
      ·(try rw [h14]); replace h14 := zcl h14
       refine zw1 ?_
       refine zrt ?_
       refine ResQ_10 rfl hcl trivial (Ret_of ?_)
       congr 1
       unfold u8
       first | rw [u8N_1 (by omega)] | rw [u8N_2 (by omega) (by omega)] | rw [u8N_3 (by omega) (by omega) rfl] | rw [u8N_4 (by omega) (by omega) rfl] | rw [u8N_0 (by omega) (by omega)]
       all_goals (try split) <;> omega
      ·(try rw [h14]); replace h14 := zcl h14
       refine AWp_skip ?_
       refine AWp_seq ?_
       refine zw1 ?_
       refine AWp_block ?_
       -- loop 1 LIVE 0:param 1:param 4:assign 6:assign 7:assign 8:assign 9:assign
       refine AWp_loop (ι := Nat × Int) (fun p => (p.1 = 1 ∧ p.2 = ((bat s a.toNat).toNat : Int) - 224) ∨ (p.1 = 2 ∧ 128 ≤ ((bat s (a.toNat + 1)).toNat : Int) ∧ ((bat s (a.toNat + 1)).toNat : Int) < 192 ∧ p.2 = (64 * (((bat s a.toNat).toNat : Int) - 224) + (((bat s (a.toNat + 1)).toNat : Int) - 128))) ∨ (p.1 = 3 ∧ 128 ≤ ((bat s (a.toNat + 1)).toNat : Int) ∧ ((bat s (a.toNat + 1)).toNat : Int) < 192 ∧ 128 ≤ ((bat s (a.toNat + 2)).toNat : Int) ∧ ((bat s (a.toNat + 2)).toNat : Int) < 192 ∧ p.2 = (64 * (64 * (((bat s a.toNat).toNat : Int) - 224) + (((bat s (a.toNat + 1)).toNat : Int) - 128)) + (((bat s (a.toNat + 2)).toNat : Int) - 128)))) (fun p => ⟨[], [(0, .str s), (1, .int .i64 a), (6, .int .i64 3), (7, .int .i64 2048), (8, .int .i64 p.2), (9, .int .i64 (p.1 : Int))]⟩) (fun p => σ) (fun p => 3 - p.1) ((1, ((bat s a.toNat).toNat : Int) - 224)) (.inl ⟨rfl, rfl⟩) ?_ rfl (fun p hp => ?_)
       ·exact ⟨rfl, rfl, rfl, rfl, rfl, rfl, rfl, trivial⟩
       obtain ⟨i, v⟩ := p
       simp only at hp ⊢
       have ci := bat_lt s (a + (i : Int)).toNat
       have k1 : i = 1 → (bat s (a + (i : Int)).toNat).toNat = (bat s (a.toNat + 1)).toNat := fun h => by rw [h]; congr 2; omega
       have k2 : i = 2 → (bat s (a + (i : Int)).toNat).toNat = (bat s (a.toNat + 2)).toNat := fun h => by rw [h]; congr 2; omega
       have k3 : i = 3 → (bat s (a + (i : Int)).toNat).toNat = (bat s (a.toNat + 3)).toNat := fun h => by rw [h]; congr 2; omega
       refine AWp_seq ?_
       refine zw3 ?_
       refine AWp_cond rfl (fun h15 => ?_) (fun h15 => ?_)
       ·(try rw [h15]); replace h15 := zcl h15
        refine AWp_skip ?_
        refine AWp_seq ?_
        refine AWp_block ?_
        refine zw7 ?_
        refine AWp_seq ?_
        refine zu3 ?_
        refine zsp 60 rfl (fun h16 => ?_) fun h16 => ?_
        ·rw [h16]; replace h16 := zcl h16
         refine zv3 ?_
         refine AWp_condT rfl ?_
         refine zw1 ?_
         refine zrt ?_
         refine ResQ_10 rfl hcl trivial (Ret_of ?_)
         congr 1
         unfold u8
         first | rw [u8N_1 (by omega)] | rw [u8N_2 (by omega) (by omega)] | rw [u8N_3 (by omega) (by omega) rfl] | rw [u8N_4 (by omega) (by omega) rfl] | rw [u8N_0 (by omega) (by omega)]
         all_goals (try split) <;> omega
        ·rw [h16]; replace h16 := zcl h16
         refine zv3 ?_
         refine AWp_cond rfl (fun h17 => ?_) (fun h17 => ?_)
         ·(try rw [h17]); replace h17 := zcl h17
          refine zw1 ?_
          refine zrt ?_
          refine ResQ_10 rfl hcl trivial (Ret_of ?_)
          congr 1
          unfold u8
          first | rw [u8N_1 (by omega)] | rw [u8N_2 (by omega) (by omega)] | rw [u8N_3 (by omega) (by omega) rfl] | rw [u8N_4 (by omega) (by omega) rfl] | rw [u8N_0 (by omega) (by omega)]
          all_goals (try split) <;> omega
         ·(try rw [h17]); replace h17 := zcl h17
          refine AWp_skip ?_
          refine AWp_regL ?_
          refine zv6 ?_
          refine AWp_regL ?_
          refine zv3 ?_
          refine ⟨(i + 1, _), σ.length, ?_, ?_, Nat.le_refl _, ⟨rfl, rfl, rfl, rfl, rfl, rfl, rfl, trivial⟩, hcl, ?_, List.take_length⟩
          ·simp only; omega
          ·simp only; omega
          ·simp [ltE, AV.lt]
       ·(try rw [h15]); replace h15 := zcl h15
        refine AWp_exit ?_
        refine AWp_seq ?_
        refine zu4 ?_
        refine zsp 72 rfl (fun h18 => ?_) fun h18 => ?_
        ·rw [h18]; replace h18 := zcl h18
         refine zg10 ?_
         refine zg1 ?_
         refine zon ?_
         refine AWp_condT rfl ?_
         refine zw1 ?_
         refine zrt ?_
         refine ResQ_10 rfl hcl trivial (Ret_of ?_)
         congr 1
         unfold u8
         first | rw [u8N_1 (by omega)] | rw [u8N_2 (by omega) (by omega)] | rw [u8N_3 (by omega) (by omega) rfl] | rw [u8N_4 (by omega) (by omega) rfl] | rw [u8N_0 (by omega) (by omega)]
         all_goals (try split) <;> omega
        ·rw [h18]; replace h18 := zcl h18
         refine zg4 ?_
         refine zsp 76 rfl (fun h19 => ?_) fun h19 => ?_
         ·rw [h19]; replace h19 := zcl h19
          refine zv7 ?_
          refine AWp_condT rfl ?_
          refine zw1 ?_
          refine zrt ?_
          refine ResQ_10 rfl hcl trivial (Ret_of ?_)
          congr 1
          unfold u8
          first | rw [u8N_1 (by omega)] | rw [u8N_2 (by omega) (by omega)] | rw [u8N_3 (by omega) (by omega) rfl] | rw [u8N_4 (by omega) (by omega) rfl] | rw [u8N_0 (by omega) (by omega)]
          all_goals (try split) <;> omega
         ·rw [h19]; replace h19 := zcl h19
          refine zg3 ?_
          refine zsp 79 rfl (fun h20 => ?_) fun h20 => ?_
          ·rw [h20]; replace h20 := zcl h20
           refine zv4 ?_
           refine AWp_cond rfl (fun h21 => ?_) (fun h21 => ?_)
           ·(try rw [h21]); replace h21 := zcl h21
            refine zw1 ?_
            refine zrt ?_
            refine ResQ_10 rfl hcl trivial (Ret_of ?_)
            congr 1
            unfold u8
            first | rw [u8N_1 (by omega)] | rw [u8N_2 (by omega) (by omega)] | rw [u8N_3 (by omega) (by omega) rfl] | rw [u8N_4 (by omega) (by omega) rfl] | rw [u8N_0 (by omega) (by omega)]
            all_goals (try split) <;> omega
           ·(try rw [h21]); replace h21 := zcl h21
            refine AWp_skip ?_
            refine zw2 ?_
            refine zrt ?_
            refine ResQ_10 rfl hcl trivial (Ret_of ?_)
            congr 1
            unfold u8
            first | rw [u8N_1 (by omega)] | rw [u8N_2 (by omega) (by omega)] | rw [u8N_3 (by omega) (by omega) rfl] | rw [u8N_4 (by omega) (by omega) rfl] | rw [u8N_0 (by omega) (by omega)]
            all_goals (try split) <;> omega
          ·rw [h20]; replace h20 := zcl h20
           refine zv4 ?_
           refine AWp_condF rfl ?_
           refine AWp_skip ?_
           refine zw2 ?_
           refine zrt ?_
           refine ResQ_10 rfl hcl trivial (Ret_of ?_)
           congr 1
           unfold u8
           first | rw [u8N_1 (by omega)] | rw [u8N_2 (by omega) (by omega)] | rw [u8N_3 (by omega) (by omega) rfl] | rw [u8N_4 (by omega) (by omega) rfl] | rw [u8N_0 (by omega) (by omega)]
           all_goals (try split) <;> omega
     ·(try rw [h13]); replace h13 := zcl h13
      refine zu3 ?_
      refine zsp 35 rfl (fun h22 => ?_) fun h22 => ?_
      ·rw [h22]; replace h22 := zcl h22
       refine zv3 ?_
       refine AWp_cond rfl (fun h23 => ?_) (fun h23 => ?_)
       ·(try rw [h23]); replace h23 := zcl h23
        refine zw1 ?_
        refine zw1 ?_
        refine AWp_regL ?_
        refine zv3 ?_
        refine AWp_seq ?_
        refine zw6 ?_
        refine AWp_cond rfl (fun h24 => ?_) (fun h24 => ?_)
        ·(try rw [h24]); replace h24 := zcl h24
         refine zw1 ?_
         refine zrt ?_
         refine ResQ_10 rfl hcl trivial (Ret_of ?_)
         congr 1
         unfold u8
         first | rw [u8N_1 (by omega)] | rw [u8N_2 (by omega) (by omega)] | rw [u8N_3 (by omega) (by omega) rfl] | rw [u8N_4 (by omega) (by omega) rfl] | rw [u8N_0 (by omega) (by omega)]
         all_goals (try split) <;> omega
        ·(try rw [h24]); replace h24 := zcl h24
         refine AWp_skip ?_
         refine AWp_seq ?_
         refine zw1 ?_
         refine AWp_block ?_
         -- loop 2 LIVE 0:param 1:param 4:assign 6:assign 7:assign 8:assign 9:assign
         refine AWp_loop (ι := Nat × Int) (fun p => (p.1 = 1 ∧ p.2 = ((bat s a.toNat).toNat : Int) - 240) ∨ (p.1 = 2 ∧ 128 ≤ ((bat s (a.toNat + 1)).toNat : Int) ∧ ((bat s (a.toNat + 1)).toNat : Int) < 192 ∧ p.2 = (64 * (((bat s a.toNat).toNat : Int) - 240) + (((bat s (a.toNat + 1)).toNat : Int) - 128))) ∨ (p.1 = 3 ∧ 128 ≤ ((bat s (a.toNat + 1)).toNat : Int) ∧ ((bat s (a.toNat + 1)).toNat : Int) < 192 ∧ 128 ≤ ((bat s (a.toNat + 2)).toNat : Int) ∧ ((bat s (a.toNat + 2)).toNat : Int) < 192 ∧ p.2 = (64 * (64 * (((bat s a.toNat).toNat : Int) - 240) + (((bat s (a.toNat + 1)).toNat : Int) - 128)) + (((bat s (a.toNat + 2)).toNat : Int) - 128))) ∨ (p.1 = 4 ∧ 128 ≤ ((bat s (a.toNat + 1)).toNat : Int) ∧ ((bat s (a.toNat + 1)).toNat : Int) < 192 ∧ 128 ≤ ((bat s (a.toNat + 2)).toNat : Int) ∧ ((bat s (a.toNat + 2)).toNat : Int) < 192 ∧ 128 ≤ ((bat s (a.toNat + 3)).toNat : Int) ∧ ((bat s (a.toNat + 3)).toNat : Int) < 192 ∧ p.2 = (64 * (64 * (64 * (((bat s a.toNat).toNat : Int) - 240) + (((bat s (a.toNat + 1)).toNat : Int) - 128)) + (((bat s (a.toNat + 2)).toNat : Int) - 128)) + (((bat s (a.toNat + 3)).toNat : Int) - 128)))) (fun p => ⟨[], [(0, .str s), (1, .int .i64 a), (6, .int .i64 4), (7, .int .i64 65536), (8, .int .i64 p.2), (9, .int .i64 (p.1 : Int))]⟩) (fun p => σ) (fun p => 4 - p.1) ((1, ((bat s a.toNat).toNat : Int) - 240)) (.inl ⟨rfl, rfl⟩) ?_ rfl (fun p hp => ?_)
         ·exact ⟨rfl, rfl, rfl, rfl, rfl, rfl, rfl, trivial⟩
         obtain ⟨i, v⟩ := p
         simp only at hp ⊢
         have ci := bat_lt s (a + (i : Int)).toNat
         have k1 : i = 1 → (bat s (a + (i : Int)).toNat).toNat = (bat s (a.toNat + 1)).toNat := fun h => by rw [h]; congr 2; omega
         have k2 : i = 2 → (bat s (a + (i : Int)).toNat).toNat = (bat s (a.toNat + 2)).toNat := fun h => by rw [h]; congr 2; omega
         have k3 : i = 3 → (bat s (a + (i : Int)).toNat).toNat = (bat s (a.toNat + 3)).toNat := fun h => by rw [h]; congr 2; omega
         refine AWp_seq ?_
         refine zw3 ?_
         refine AWp_cond rfl (fun h25 => ?_) (fun h25 => ?_)
         ·(try rw [h25]); replace h25 := zcl h25
          refine AWp_skip ?_
          refine AWp_seq ?_
          refine AWp_block ?_
          refine zw7 ?_
          refine AWp_seq ?_
          refine zu3 ?_
          refine zsp 60 rfl (fun h26 => ?_) fun h26 => ?_
          ·rw [h26]; replace h26 := zcl h26
           refine zv3 ?_
           refine AWp_condT rfl ?_
           refine zw1 ?_
           refine zrt ?_
           refine ResQ_10 rfl hcl trivial (Ret_of ?_)
           congr 1
           unfold u8
           first | rw [u8N_1 (by omega)] | rw [u8N_2 (by omega) (by omega)] | rw [u8N_3 (by omega) (by omega) rfl] | rw [u8N_4 (by omega) (by omega) rfl] | rw [u8N_0 (by omega) (by omega)]
           all_goals (try split) <;> omega
          ·rw [h26]; replace h26 := zcl h26
           refine zv3 ?_
           refine AWp_cond rfl (fun h27 => ?_) (fun h27 => ?_)
           ·(try rw [h27]); replace h27 := zcl h27
            refine zw1 ?_
            refine zrt ?_
            refine ResQ_10 rfl hcl trivial (Ret_of ?_)
            congr 1
            unfold u8
            first | rw [u8N_1 (by omega)] | rw [u8N_2 (by omega) (by omega)] | rw [u8N_3 (by omega) (by omega) rfl] | rw [u8N_4 (by omega) (by omega) rfl] | rw [u8N_0 (by omega) (by omega)]
            all_goals (try split) <;> omega
           ·(try rw [h27]); replace h27 := zcl h27
            refine AWp_skip ?_
            refine AWp_regL ?_
            refine zv6 ?_
            refine AWp_regL ?_
            refine zv3 ?_
            refine ⟨(i + 1, _), σ.length, ?_, ?_, Nat.le_refl _, ⟨rfl, rfl, rfl, rfl, rfl, rfl, rfl, trivial⟩, hcl, ?_, List.take_length⟩
            ·simp only; omega
            ·simp only; omega
            ·simp [ltE, AV.lt]
         ·(try rw [h25]); replace h25 := zcl h25
          refine AWp_exit ?_
          refine AWp_seq ?_
          refine zu4 ?_
          refine zsp 72 rfl (fun h28 => ?_) fun h28 => ?_
          ·rw [h28]; replace h28 := zcl h28
           refine zg10 ?_
           refine zg1 ?_
           refine zon ?_
           refine AWp_condT rfl ?_
           refine zw1 ?_
           refine zrt ?_
           refine ResQ_10 rfl hcl trivial (Ret_of ?_)
           congr 1
           unfold u8
           first | rw [u8N_1 (by omega)] | rw [u8N_2 (by omega) (by omega)] | rw [u8N_3 (by omega) (by omega) rfl] | rw [u8N_4 (by omega) (by omega) rfl] | rw [u8N_0 (by omega) (by omega)]
           all_goals (try split) <;> omega
          ·rw [h28]; replace h28 := zcl h28
           refine zg4 ?_
           refine zsp 76 rfl (fun h29 => ?_) fun h29 => ?_
           ·rw [h29]; replace h29 := zcl h29
            refine zv7 ?_
            refine AWp_condT rfl ?_
            refine zw1 ?_
            refine zrt ?_
            refine ResQ_10 rfl hcl trivial (Ret_of ?_)
            congr 1
            unfold u8
            first | rw [u8N_1 (by omega)] | rw [u8N_2 (by omega) (by omega)] | rw [u8N_3 (by omega) (by omega) rfl] | rw [u8N_4 (by omega) (by omega) rfl] | rw [u8N_0 (by omega) (by omega)]
            all_goals (try split) <;> omega
           ·rw [h29]; replace h29 := zcl h29
            refine zg3 ?_
            refine zsp 79 rfl (fun h30 => ?_) fun h30 => ?_
            ·rw [h30]; replace h30 := zcl h30
             refine zv4 ?_
             refine AWp_cond rfl (fun h31 => ?_) (fun h31 => ?_)
             ·(try rw [h31]); replace h31 := zcl h31
              refine zw1 ?_
              refine zrt ?_
              refine ResQ_10 rfl hcl trivial (Ret_of ?_)
              congr 1
              unfold u8
              first | rw [u8N_1 (by omega)] | rw [u8N_2 (by omega) (by omega)] | rw [u8N_3 (by omega) (by omega) rfl] | rw [u8N_4 (by omega) (by omega) rfl] | rw [u8N_0 (by omega) (by omega)]
              all_goals (try split) <;> omega
             ·(try rw [h31]); replace h31 := zcl h31
              refine AWp_skip ?_
              refine zw2 ?_
              refine zrt ?_
              refine ResQ_10 rfl hcl trivial (Ret_of ?_)
              congr 1
              unfold u8
              first | rw [u8N_1 (by omega)] | rw [u8N_2 (by omega) (by omega)] | rw [u8N_3 (by omega) (by omega) rfl] | rw [u8N_4 (by omega) (by omega) rfl] | rw [u8N_0 (by omega) (by omega)]
              all_goals (try split) <;> omega
            ·rw [h30]; replace h30 := zcl h30
             refine zv4 ?_
             refine AWp_condF rfl ?_
             refine AWp_skip ?_
             refine zw2 ?_
             refine zrt ?_
             refine ResQ_10 rfl hcl trivial (Ret_of ?_)
             congr 1
             unfold u8
             first | rw [u8N_1 (by omega)] | rw [u8N_2 (by omega) (by omega)] | rw [u8N_3 (by omega) (by omega) rfl] | rw [u8N_4 (by omega) (by omega) rfl] | rw [u8N_0 (by omega) (by omega)]
             all_goals (try split) <;> omega
       ·(try rw [h23]); replace h23 := zcl h23
        refine zw1 ?_
        refine zrt ?_
        refine ResQ_10 rfl hcl trivial (Ret_of ?_)
        congr 1
        unfold u8
        first | rw [u8N_1 (by omega)] | rw [u8N_2 (by omega) (by omega)] | rw [u8N_3 (by omega) (by omega) rfl] | rw [u8N_4 (by omega) (by omega) rfl] | rw [u8N_0 (by omega) (by omega)]
        all_goals (try split) <;> omega
      ·rw [h22]; replace h22 := zcl h22
       exfalso; omega
    ·rw [h12]; replace h12 := zcl h12
     exfalso; omega
  ·rw [h2]; replace h2 := zcl h2
   refine zv3 ?_
   refine AWp_condF rfl ?_
   refine zu3 ?_
   refine zsp 27 rfl (fun h32 => ?_) fun h32 => ?_
   ·rw [h32]; replace h32 := zcl h32
    exfalso; omega
   ·rw [h32]; replace h32 := zcl h32
    refine zv3 ?_
    refine AWp_condF rfl ?_
    refine zu3 ?_
    refine zsp 35 rfl (fun h33 => ?_) fun h33 => ?_
    ·rw [h33]; replace h33 := zcl h33
     exfalso; omega
    ·rw [h33]; replace h33 := zcl h33
     refine zv3 ?_
     refine AWp_condF rfl ?_
     refine zw1 ?_
     refine zrt ?_
     refine ResQ_10 rfl hcl trivial (Ret_of ?_)
     congr 1
     unfold u8
     first | rw [u8N_1 (by omega)] | rw [u8N_2 (by omega) (by omega)] | rw [u8N_3 (by omega) (by omega) rfl] | rw [u8N_4 (by omega) (by omega) rfl] | rw [u8N_0 (by omega) (by omega)]
     all_goals (try split) <;> omega

end Lg
set_option maxRecDepth 20000
set_option maxHeartbeats 4000000
namespace Lg
open Go Go.Proofs Go.RowKit
variable [GLay] 
end Lg
set_option maxRecDepth 20000
set_option maxHeartbeats 4000000
namespace Lg
open Go Go.Proofs Go.RowKit
variable [GLay] 
theorem rk8 {n : ByteArray} (h1 : ¬ n = ⟨#[105, 116, 101, 109, 115]⟩) (h2 : ¬ n = ⟨#[97, 100, 100, 105, 116, 105, 111, 110, 97, 108, 80, 114, 111, 112, 101, 114, 116, 105, 101, 115]⟩) : decide (n = ⟨#[110, 111, 116]⟩) = decide (rk n = 8) := by
  by_cases h3 : n = ⟨#[110, 111, 116]⟩
  · subst h3; decide +kernel
  · rw [decide_eq_false h3]
    symm
    rw [decide_eq_false_iff_not]
    intro hk
    unfold rk at hk
    cases h : kwL.find? fun q => decide (n = q.1) with
    | none => rw [h] at hk; simp at hk
    | some q =>
      rw [h] at hk
      have hm := List.mem_of_find?_eq_some h
      have hq := List.find?_some h
      simp only [decide_eq_true_eq] at hq
      simp only [Option.map_some, Option.getD_some] at hk
      have : ∀ q ∈ kwL, q.2 = 8 → q.1 = ⟨#[105, 116, 101, 109, 115]⟩ ∨ q.1 = ⟨#[97, 100, 100, 105, 116, 105, 111, 110, 97, 108, 80, 114, 111, 112, 101, 114, 116, 105, 101, 115]⟩ ∨ q.1 = ⟨#[110, 111, 116]⟩ := by decide +kernel
      rcases this q hm hk with e | e | e
      · exact h1 (hq.trans e)
      · exact h2 (hq.trans e)
      · exact h3 (hq.trans e)
end Lg
set_option maxRecDepth 20000
set_option maxHeartbeats 4000000
namespace Lg
open Go Go.Proofs Go.RowKit
variable [GLay] 
theorem rtxt_c (v : JV) (σ : List AO) (hl : v.l.length ≤ 1000000000) : ACalls Tryz.prog 106 [.agg (vcells v)] σ (Ret (.bool (txB v)) σ) := by
 refine ACalls_body Tryz.func106 rfl Tryz.ntmps106 (res1 Tryz.results106) (Nat.le_of_ble_eq_true rfl) (fun hcl hal => ?_)
 rw [vcells_eq v]
 have hll := lcells_length v.l
 refine zw2 ?_
 refine AWp_seq ?_
 refine zw1 ?_
 refine AWp_block ?_
 -- loop 0 LIVE 1:box 2:assign 3:assign
 refine AWp_loop (ι := Nat) (fun i => i ≤ v.l.length ∧ txI v.l i) (fun i => ⟨[], [(1, .ptr (σ.length + 0) 0), (3, .int .i64 (i : Int))]⟩) (fun i => σ ++ [_]) (fun i => v.l.length - i) (0) (⟨Nat.zero_le _, fun a x h => absurd h (by omega)⟩) ?_ rfl (fun i hi => ?_)
 ·exact ⟨rfl, rfl, rfl, trivial⟩
 obtain ⟨hi1, hi2⟩ := hi
 refine AWp_seq ?_
 refine zw5 ?_
 refine AWp_cond rfl (fun h1 => ?_) (fun h1 => ?_)
 ·(try rw [h1]); replace h1 := zcl h1
  obtain ⟨x, hx⟩ : ∃ x, v.l[i]? = some x := ⟨_, List.getElem?_eq_getElem (show i < v.l.length by omega)⟩
  refine AWp_skip ?_
  refine AWp_seq ?_
  refine AWp_block ?_
  refine AWp_seq ?_
  refine zw1 ?_
  refine AWp_block ?_
  -- loop 1 LIVE 1:box 2:assign 3:assign 4:assign
  refine AWp_loop (ι := Nat) (fun k => k ≤ i ∧ ∀ (b : Nat) y, b < k → v.l[b]? = some y → ¬ x.s = y.s) (fun k => ⟨[], [(1, .ptr (σ.length + 0) 0), (3, .int .i64 (i : Int)), (4, .int .i64 (k : Int))]⟩) (fun k => σ ++ [_]) (fun k => i - k) (0) (⟨Nat.zero_le _, fun b y h => absurd h (by omega)⟩) ?_ rfl (fun k hk => ?_)
  ·exact ⟨rfl, rfl, rfl, rfl, trivial⟩
  obtain ⟨hk1, hk2⟩ := hk
  refine AWp_seq ?_
  refine zw3 ?_
  refine AWp_cond rfl (fun h2 => ?_) (fun h2 => ?_)
  ·(try rw [h2]); replace h2 := zcl h2
   obtain ⟨y, hy⟩ : ∃ y, v.l[k]? = some y := ⟨_, List.getElem?_eq_getElem (show k < v.l.length by omega)⟩
   refine AWp_skip ?_
   refine AWp_seq ?_
   refine AWp_block ?_
   refine AWp_seq ?_
   refine AWp_drawL #[0, 1, 0, 7, 15, 31, 0, 64, 0, 448, 960, 1984, 4095] Tryz.mixed (by decide +kernel) (by decide +kernel) ?_
   refine zd1 ?_
   refine zp1 ?_
   refine zd2 ?_
   rw [vcells_eq x]
   refine zd1 ?_
   refine zp1 ?_
   refine zd1 ?_
   refine zp1 ?_
   refine zd2 ?_
   rw [vcells_eq y]
   refine zd1 ?_
   refine zp1 ?_
   refine zd1 ?_
   refine RP.nil rfl ?_
   refine AWp_cond rfl (fun h3 => ?_) (fun h3 => ?_)
   ·(try rw [h3]); replace h3 := zcl h3
    refine zw1 ?_
    refine zrt ?_
    refine ResQ_1 rfl hcl trivial (Ret_of ?_)
    congr 1; unfold txB; rw [pb_f (fun h => (h i x (by omega) hx).2 k y (by omega) hy h3)]; rfl
   ·(try rw [h3]); replace h3 := zcl h3
    refine AWp_skip ?_
    refine AWp_regL ?_
    refine zv3 ?_
    refine ⟨k + 1, σ.length + 1, ⟨by omega, fun b z hb hz => ?_⟩, by omega, by simp, ⟨rfl, rfl, rfl, rfl, trivial⟩, closed_own 1 hcl ?_, ?_, take_own 1⟩
    ·by_cases e : b = k
     ·subst e; rw [hy] at hz; cases hz; exact h3
     ·exact hk2 b z (by omega) hz
    ·simp [ownLt, AO.cells, AV.ltL, AV.lt]
    ·simp [ltE, AV.lt]
  ·(try rw [h2]); replace h2 := zcl h2
   refine AWp_exit ?_
   refine zu4 ?_
   rw [vcells_eq x]
   refine zv3 ?_
   refine AWp_cond rfl (fun h4 => ?_) (fun h4 => ?_)
   ·(try rw [h4]); replace h4 := zcl h4
    refine zw1 ?_
    refine zrt ?_
    refine ResQ_1 rfl hcl trivial (Ret_of ?_)
    congr 1; unfold txB; rw [pb_f (fun h => h4 (h i x (by omega) hx).1)]; rfl
   ·(try rw [h4]); replace h4 := zcl h4
    refine AWp_skip ?_
    refine AWp_regL ?_
    refine zv3 ?_
    refine ⟨i + 1, σ.length + 1, ⟨by omega, txI_step hi2 hx h4 (fun b y hb hy => hk2 b y (by omega) hy)⟩, by omega, by simp, ⟨rfl, rfl, rfl, trivial⟩, closed_own 1 hcl ?_, ?_, take_own 1⟩
    ·simp [ownLt, AO.cells, AV.ltL, AV.lt]
    ·simp [ltE, AV.lt]
 ·(try rw [h1]); replace h1 := zcl h1
  refine AWp_exit ?_
  refine zw4 ?_
  refine zrt ?_
  refine ResQ_1 rfl hcl trivial (Ret_of ?_)
  congr 1; unfold txB; rw [pb_t (show txI v.l v.l.length by rw [← show i = v.l.length by omega]; exact hi2)]; rfl

theorem rtyp_c (v : JV) (σ : List AO) : ACalls Tryz.prog 107 [.agg (vcells v)] σ (Ret (.bool (tyB v)) σ) := by
 refine ACalls_body Tryz.func107 rfl Tryz.ntmps107 (res1 Tryz.results107) (Nat.le_of_ble_eq_true rfl) (fun hcl hal => ?_)
 rw [vcells_eq v]
 have h7 : (tyL.map fun x => [AV.str x]).length = 7 := rfl
 have h7l : tyL.length = 7 := rfl
 refine zw2 ?_
 refine zsr ?_
 refine zt rfl (op_buildSlice [[_], [_], [_], [_], [_], [_], [_]] rfl Tryz.underlying48 Tryz.sizeOf9 Tryz.zeroValue9 rfl (by decide) (by decide) rfl rfl rfl rfl rfl) ?_
 refine zv1 ?_
 refine AWp_seq ?_
 refine zw1 ?_
 refine AWp_block ?_
 -- loop 0 LIVE 1:box 2:assign 3:assign 4:assign
 refine AWp_loop (ι := Nat) (fun i => i ≤ 7 ∧ ∀ (j : Nat) t, j < i → tyL[j]? = some t → ¬ (v.kind = 3 ∧ v.s = t)) (fun i => ⟨[], [(1, .ptr (σ.length + 0) 0), (3, .sl true 1 (tyL.map fun x => [AV.str x])), (4, .int .i64 (i : Int))]⟩) (fun i => σ ++ [_]) (fun i => 7 - i) (0) (⟨Nat.zero_le _, fun j t h => absurd h (by omega)⟩) ?_ rfl (fun i hi => ?_)
 ·exact ⟨rfl, rfl, rfl, rfl, trivial⟩
 obtain ⟨hi1, hi2⟩ := hi
 refine AWp_seq ?_
 refine zw4 ?_
 refine AWp_cond rfl (fun h1 => ?_) (fun h1 => ?_)
 ·(try rw [h1]); replace h1 := zcl h1
  obtain ⟨t, ht⟩ : ∃ t, tyL[i]? = some t := ⟨_, List.getElem?_eq_getElem (show i < tyL.length by omega)⟩
  have htr : (tyL.map fun x => [AV.str x])[i]? = some [.str t] := by rw [List.getElem?_map, ht]; rfl
  refine AWp_skip ?_
  refine AWp_seq ?_
  refine AWp_block ?_
  refine AWp_seq ?_
  refine AWp_drawL #[0, 1, 3, 7, 15, 31, 15, 15, 207, 463, 1023, 2047] Tryz.mixed (by decide +kernel) (by decide +kernel) ?_
  refine zd1 ?_
  refine zp1 ?_
  refine zd2 ?_
  refine zspr 15 rfl (fun h2 => ?_) fun h2 => ?_
  ·rw [h2]; replace h2 := zcl h2
   refine zd1 ?_
   refine zp1 ?_
   refine zd2 ?_
   refine yAG rfl rfl rfl (fun _ => op_indexAddr rfl Tryz.underlying48 Tryz.sizeOf9 rfl rfl (by omega) (htr)) ?_
   refine zp1 ?_
   refine zd2 ?_
   refine RP.nil rfl ?_
   refine AWp_cond rfl (fun h3 => ?_) (fun h3 => ?_)
   ·(try rw [h3]); replace h3 := zcl h3
    refine zw1 ?_
    refine zrt ?_
    refine ResQ_1 rfl hcl trivial (Ret_of ?_)
    congr 1; symm; unfold tyB; rw [decide_eq_true h2, Bool.true_and, List.any_eq_true]; exact ⟨t, List.mem_of_getElem? ht, by simpa using h3⟩
   ·(try rw [h3]); replace h3 := zcl h3
    refine AWp_skip ?_
    refine AWp_regL ?_
    refine zv3 ?_
    refine ⟨i + 1, σ.length + 1, ⟨by omega, fun j u hj hu hc => ?_⟩, by omega, by simp, ⟨rfl, rfl, rfl, rfl, trivial⟩, closed_own 1 hcl ?_, ?_, take_own 1⟩
    ·by_cases e : j = i
     ·subst e; rw [ht] at hu; cases hu; first | exact h3 hc.2 | exact h2 hc.1
     ·exact hi2 j u (by omega) hu hc
    ·simp [ownLt, AO.cells, AV.ltL, AV.lt]
    ·simp [ltE, AV.lt, ltLL_str]
  ·rw [h2]; replace h2 := zcl h2
   refine zd8 ?_
   refine RP.nil rfl ?_
   refine AWp_condF rfl ?_
   refine AWp_skip ?_
   refine AWp_regL ?_
   refine zv3 ?_
   refine ⟨i + 1, σ.length + 1, ⟨by omega, fun j u hj hu hc => ?_⟩, by omega, by simp, ⟨rfl, rfl, rfl, rfl, trivial⟩, closed_own 1 hcl ?_, ?_, take_own 1⟩
   ·by_cases e : j = i
    ·subst e; rw [ht] at hu; cases hu; first | exact h3 hc.2 | exact h2 hc.1
    ·exact hi2 j u (by omega) hu hc
   ·simp [ownLt, AO.cells, AV.ltL, AV.lt]
   ·simp [ltE, AV.lt, ltLL_str]
 ·(try rw [h1]); replace h1 := zcl h1
  refine AWp_exit ?_
  refine zw1 ?_
  refine zrt ?_
  refine ResQ_1 rfl hcl trivial (Ret_of ?_)
  congr 1; symm; unfold tyB
  by_cases h : v.kind = 3
  ·rw [decide_eq_true h, Bool.true_and, List.any_eq_false]
   intro t ht
   obtain ⟨j, hj⟩ := List.getElem?_of_mem ht
   have := hi2 j t (by have := (List.getElem?_eq_some_iff.1 hj).1; omega) hj
   simp only [decide_eq_true_eq]; exact fun e => this ⟨h, e⟩
  ·rw [decide_eq_false h]; rfl

theorem rsch_c (v : JV) (σ : List AO) : ACalls Tryz.prog 38 [.agg (vcells v)] σ (Ret (.bool (schB v)) σ) := by
 refine ACalls_body Tryz.func38 rfl Tryz.ntmps38 (res1 Tryz.results38) (Nat.le_of_ble_eq_true rfl) (fun hcl hal => ?_)
 rw [vcells_eq v]
 refine zw2 ?_
 refine zu4 ?_
 refine zsp 6 rfl (fun h1 => ?_) fun h1 => ?_
 ·rw [h1]; replace h1 := zcl h1
  refine zv5 ?_
  refine zrt ?_
  refine ResQ_1 rfl hcl trivial (Ret_of ?_)
  congr 1; simp [schB, *]
 ·rw [h1]; replace h1 := zcl h1
  refine zv5 ?_
  refine zrt ?_
  refine ResQ_1 rfl hcl trivial (Ret_of ?_)
  congr 1; simp [schB, *]

theorem rall_c (m : List (ByteArray × JV)) (σ : List AO) (hm : m.length ≤ 1000000000) : ACalls Tryz.prog 109 [.sl false 9 (mcells m)] σ (Ret (.bool (m.all fun q => schB q.2)) σ) := by
 refine ACalls_body Tryz.func109 rfl Tryz.ntmps109 (res1 Tryz.results109) (Nat.le_of_ble_eq_true rfl) (fun hcl hal => ?_)
 have hml := mcells_length m
 refine zw1 ?_
 refine AWp_seq ?_
 refine zw1 ?_
 refine AWp_block ?_
 -- loop 0 LIVE 0:param 2:assign 3:assign
 refine AWp_loop (ι := Nat) (fun i => i ≤ m.length ∧ ∀ (j : Nat) q, j < i → m[j]? = some q → schB q.2 = true) (fun i => ⟨[], [(0, .sl false 9 (mcells m)), (3, .int .i64 (i : Int))]⟩) (fun i => σ) (fun i => m.length - i) (0) (⟨Nat.zero_le _, fun j q h => absurd h (by omega)⟩) ?_ rfl (fun i hi => ?_)
 ·exact ⟨rfl, rfl, rfl, trivial⟩
 obtain ⟨hi1, hi2⟩ := hi
 refine AWp_seq ?_
 refine zw4 ?_
 refine AWp_cond rfl (fun h1 => ?_) (fun h1 => ?_)
 ·(try rw [h1]); replace h1 := zcl h1
  obtain ⟨q, hq⟩ : ∃ q, m[i]? = some q := ⟨_, List.getElem?_eq_getElem (show i < m.length by omega)⟩
  refine AWp_skip ?_
  refine AWp_seq ?_
  refine AWp_block ?_
  refine zu3 ?_
  rw [vcells_eq q.2]
  refine zg2 ?_
  refine zt rfl (zc rfl (vcells_eq q.2 ▸ rsch_c q.2 _)) ?_
  refine zv1 ?_
  refine zw2 ?_
  refine AWp_cond rfl (fun h2 => ?_) (fun h2 => ?_)
  ·(try rw [h2]); replace h2 := zcl h2
   refine zw1 ?_
   refine zrt ?_
   refine ResQ_10 rfl hcl trivial (Ret_of ?_)
   congr 1; symm; rw [List.all_eq_false]; exact ⟨q, List.mem_of_getElem? hq, by simpa using h2⟩
  ·(try rw [h2]); replace h2 := zcl h2
   refine AWp_skip ?_
   refine AWp_regL ?_
   refine zv3 ?_
   refine ⟨i + 1, σ.length, ⟨by omega, fun j u hj hu => ?_⟩, by omega, Nat.le_refl _, ⟨rfl, rfl, rfl, trivial⟩, hcl, ?_, List.take_length⟩
   ·by_cases e : j = i
    ·subst e; rw [hq] at hu; cases hu; simpa using h2
    ·exact hi2 j u (by omega) hu
   ·simp [ltE, AV.lt]
 ·(try rw [h1]); replace h1 := zcl h1
  refine AWp_exit ?_
  refine zw1 ?_
  refine zrt ?_
  refine ResQ_10 rfl hcl trivial (Ret_of ?_)
  congr 1; symm; rw [List.all_eq_true]; intro q hq; obtain ⟨j, hj⟩ := List.getElem?_of_mem hq; exact hi2 j q (by have := (List.getElem?_eq_some_iff.1 hj).1; omega) hj

theorem rsingle_c (name : ByteArray) (σ : List AO) : ACalls Tryz.prog 68 [.str name] σ (Ret (.bool (decide (rk name = 8))) σ) := by
 refine ACalls_body Tryz.func68 rfl Tryz.ntmps68 (res1 Tryz.results68) (Nat.le_of_ble_eq_true rfl) (fun hcl hal => ?_)
 refine zw1 ?_
 refine zu3 ?_
 refine zsp 5 rfl (fun h1 => ?_) fun h1 => ?_
 ·rw [h1]; replace h1 := zcl h1
  refine zv8 ?_
  refine zrt ?_
  refine ResQ_10 rfl hcl trivial (Ret_of ?_)
  subst h1; first | rfl | (congr 1; decide +kernel)
 ·rw [h1]; replace h1 := zcl h1
  refine zg4 ?_
  refine zsp 9 rfl (fun h2 => ?_) fun h2 => ?_
  ·rw [h2]; replace h2 := zcl h2
   refine zv4 ?_
   refine zrt ?_
   refine ResQ_10 rfl hcl trivial (Ret_of ?_)
   subst h2; first | rfl | (congr 1; decide +kernel)
  ·rw [h2]; replace h2 := zcl h2
   refine zv4 ?_
   refine zrt ?_
   refine ResQ_10 rfl hcl trivial (Ret_of ?_)
   congr 1; exact rk8 h1 h2
end Lg
set_option maxRecDepth 20000
set_option maxHeartbeats 4000000
namespace Lg
open Go Go.Proofs Go.RowKit
variable [GLay] [S10]
theorem rchars_c (s : ByteArray) (σ : List AO) (hs : s.size ≤ 1000000) : ACalls Tryz.prog 82 [.str s] σ (Ret (.int .i64 (rcnt s)) σ) := by
 refine ACalls_body Tryz.func82 rfl Tryz.ntmps82 (res1 Tryz.results82) (Nat.le_of_ble_eq_true rfl) (fun hcl hal => ?_)
 refine zw1 ?_
 refine zw1 ?_
 refine AWp_seq ?_
 refine zw1 ?_
 refine AWp_block ?_
 -- loop 0 LIVE 0:param 2:assign 3:assign 4:assign
 refine AWp_loop (ι := Nat × Nat × Nat) (fun z => z.2.2 + Lib.runeCountFrom s z.2.1 z.1 = rcnt s ∧ s.size ≤ z.1 + z.2.1 ∧ z.1 ≤ s.size ∧ z.2.2 ≤ z.1) (fun z => ⟨[], [(0, .str s), (2, .int .i64 0), (3, .int .i64 (z.2.2 : Int)), (4, .int .i64 (z.1 : Int))]⟩) (fun z => σ) (fun z => s.size - z.1) ((0, s.size, 0)) (⟨by simp [rcnt, Lib.runeCount], by simp, Nat.zero_le _, Nat.le_refl _⟩) ?_ rfl (fun z hz => ?_)
 ·exact ⟨rfl, rfl, rfl, rfl, rfl, trivial⟩
 obtain ⟨a, b, c⟩ := z
 obtain ⟨hz1, hz2, hz3, hz4⟩ := hz
 simp only at hz1 hz2 hz3 hz4 ⊢
 refine AWp_seq ?_
 refine zw4 ?_
 refine AWp_cond rfl (fun h1 => ?_) (fun h1 => ?_)
 ·(try rw [h1]); replace h1 := zcl h1
  have hu8 := u8_le (s := s) (a := a) (by omega)
  obtain ⟨b2, hb2, hb3, hb4⟩ := rcnt_step s (b := b) (a := a) (by omega) hz2
  refine AWp_skip ?_
  refine AWp_block ?_
  refine zu3 ?_
  refine zt rfl (zc rfl (utf8_c s (a : Int) _ (by omega) (by omega) (by omega))) ?_
  rw [Int.toNat_natCast]
  refine zv3 ?_
  refine AWp_regL ?_
  refine zv3 ?_
  refine ⟨(a + max (u8 s a) 1, b2, c + 1), σ.length, ⟨by simp only; omega, by simp only; omega, by simp only; omega, by simp only; omega⟩, by simp only; omega, by simp, ⟨rfl, rfl, rfl, rfl, congrArg (AV.int .i64) (by omega), trivial⟩, hcl, ?_, List.take_length⟩
  ·simp [ltE, AV.lt, AV.ltL]
 ·(try rw [h1]); replace h1 := zcl h1
  refine AWp_exit ?_
  refine zw2 ?_
  refine zrt ?_
  refine ResQ_10 rfl hcl trivial (Ret_of ?_)
  rw [rcnt_end s (by omega : s.size ≤ a)] at hz1
  rw [← hz1]; rfl

theorem risF_c (v : JV) (s : ByteArray) (cs : List AV) (σ : List AO) (hc : vcells v = cs) (h0 : 0 ≤ v.kind) (h5 : v.kind ≤ 5) : ACalls Tryz.prog 83 [.agg cs, .str s] σ (Ret (.bool (ris v s)) σ) := by
 refine ACalls_body Tryz.func83 rfl Tryz.ntmps83 (res1 Tryz.results83) (Nat.le_of_ble_eq_true rfl) (fun hcl hal => ?_)
 subst hc
 rw [vcells_eq v]
 have hty : ([[AV.str tNULL], [AV.str tBOOL], [AV.str tNUM], [AV.str tSTR], [AV.str tARR], [AV.str tOBJ]] : List (List AV))[v.kind.toNat]? = some [AV.str (tyN v.kind)] := by have := congrArg (Option.map fun x => [AV.str x]) (ty_get h0 h5); rw [← List.getElem?_map] at this; exact this
 refine zw2 ?_
 refine zsr ?_
 refine zt rfl (op_buildSlice [[_], [_], [_], [_], [_], [_]] rfl Tryz.underlying48 Tryz.sizeOf9 Tryz.zeroValue9 rfl (by decide) (by decide) rfl rfl rfl rfl rfl) ?_
 refine zv1 ?_
 refine AWp_seq ?_
 refine zw2 ?_
 refine AWp_cond rfl (fun h1 => ?_) (fun h1 => ?_)
 ·(try rw [h1]); replace h1 := zcl h1
  refine zu2 ?_
  refine zt rfl (zc rfl (rwhole_c v.n _)) ?_
  refine zv1 ?_
  refine zu4 ?_
  refine zsp 16 rfl (fun h2 => ?_) fun h2 => ?_
  ·rw [h2]; replace h2 := zcl h2
   refine zv3 ?_
   refine zrt ?_
   refine ResQ_1 rfl hcl trivial (Ret_of ?_)
   unfold ris; rw [if_pos (show s = tINT from h1)]; simp [h2]
  ·rw [h2]; replace h2 := zcl h2
   refine zv3 ?_
   refine zrt ?_
   refine ResQ_1 rfl hcl trivial (Ret_of ?_)
   unfold ris; rw [if_pos (show s = tINT from h1)]; simp [h2]
 ·(try rw [h1]); replace h1 := zcl h1
  refine AWp_skip ?_
  refine zu3 ?_
  refine zt rfl (op_indexAddr rfl Tryz.underlying48 Tryz.sizeOf9 rfl rfl (by omega) (hty)) ?_
  refine zv4 ?_
  refine zrt ?_
  refine ResQ_1 rfl hcl trivial (Ret_of ?_)
  unfold ris; rw [if_neg (show ¬ s = tINT from h1)]

theorem ramong_c (l : List JV) (v : JV) (f : Bool) (es : List (List AV)) (cs : List AV) (σ : List AO) (he : lcells l = es) (hc : vcells v = cs) (hl : l.length ≤ 1000000000) (hb : ∀ x ∈ l, jb x) (hv : jb v) : ACalls Tryz.prog 84 [.sl f 8 es, .agg cs] σ (Ret (.bool (l.any (fun x => pb (x = v)))) σ) := by
 refine ACalls_body Tryz.func84 rfl Tryz.ntmps84 (res1 Tryz.results84) (Nat.le_of_ble_eq_true rfl) (fun hcl hal => ?_)
 subst he; subst hc
 rw [vcells_eq v]
 have hll := lcells_length l
 refine zw2 ?_
 refine AWp_seq ?_
 refine zw1 ?_
 refine AWp_block ?_
 -- loop 0 LIVE 0:param 3:box 4:assign 5:assign
 refine AWp_loop (ι := Nat) (fun i => i ≤ l.length ∧ (l.take i).any (fun x => pb (x = v)) = false) (fun i => ⟨[], [(0, .sl f 8 (lcells l)), (3, .ptr (σ.length + 0) 0), (4, .bool false), (5, .int .i64 (i : Int))]⟩) (fun i => σ ++ [.box [.int .i64 v.kind, .bool v.b, .bool v.n.neg, .str v.n.digits, .int .i64 v.n.exp, .str v.s, .sl false 8 (lcells v.l), .sl false 9 (mcells v.m)]]) (fun i => l.length - i) (0) (⟨Nat.zero_le _, rfl⟩) ?_ rfl (fun i hi => ?_)
 ·exact ⟨rfl, rfl, rfl, rfl, rfl, trivial⟩
 obtain ⟨hi1, hi2⟩ := hi
 refine AWp_seq ?_
 refine zw4 ?_
 refine AWp_cond rfl (fun h1 => ?_) (fun h1 => ?_)
 ·(try rw [h1]); replace h1 := zcl h1
  obtain ⟨x, hx⟩ : ∃ x, l[i]? = some x := ⟨_, List.getElem?_eq_getElem (show i < l.length by omega)⟩
  have hxm := List.mem_of_getElem? hx
  have hxp := jsize_pos x
  refine AWp_skip ?_
  refine AWp_seq ?_
  refine AWp_block ?_
  refine AWp_seq ?_
  refine AWp_drawL #[0, 0, 3, 7, 0, 31, 63] Tryz.mixed (by decide +kernel) (by decide +kernel) ?_
  refine zd3 ?_
  rw [vcells_eq x]
  refine zp2 ?_
  refine yP rfl rfl (zc rfl (vcells_eq x ▸ vcells_eq v ▸ rsame_any (jsize x).toNat x v _ (by omega) (hb x hxm) hv)) (trivial) ?_
  refine zd1 ?_
  refine RP.nil rfl ?_
  refine zw1 ?_
  refine AWp_cond rfl (fun h2 => ?_) (fun h2 => ?_)
  ·(try rw [h2]); replace h2 := zcl h2
   refine zw1 ?_
   refine zrt ?_
   refine ResQ_1 rfl hcl trivial (Ret_of ?_)
   congr 1; symm
   exact List.any_eq_true.2 ⟨x, hxm, h2⟩
  ·(try rw [h2]); replace h2 := zcl h2
   refine AWp_skip ?_
   refine AWp_regL ?_
   refine zv3 ?_
   refine ⟨i + 1, σ.length + 1, ⟨by omega, by rw [rq_step hx, hi2, h2]; rfl⟩, by omega, by simp, ⟨rfl, rfl, rfl, rfl, rfl, trivial⟩, closed_own 1 hcl (by simp [ownLt, AO.cells, AV.ltL, AV.lt]), ?_, take_own 1⟩
   ·simp [ltE, AV.lt, AV.ltL]
 ·(try rw [h1]); replace h1 := zcl h1
  refine AWp_exit ?_
  refine zw1 ?_
  refine zrt ?_
  refine ResQ_1 rfl hcl trivial (Ret_of ?_)
  congr 1; symm
  rwa [show i = l.length by omega, List.take_length] at hi2
end Lg
set_option maxRecDepth 20000
set_option maxHeartbeats 4000000
namespace Lg
open Go Go.Proofs Go.RowKit
variable [GLay] [S10]
theorem rofN_c (k : Int) (σ : List AO) (h0 : 0 ≤ k) (h1 : k ≤ 1000000000000) : ACalls Tryz.prog 81 [.int .i64 k] σ (Ret (.agg (ncells (ofN k))) σ) := by
  have h := rof_c k σ h0 h1
  have hsz := itoa_size (n := k) (by omega) (by omega)
  rw [rNum_pNum _ (by omega)] at h
  have e : (itoaB k).data.toList = Lib.itoa k := ba_toList _
  rw [e] at h; exact h
theorem rcmpJ_c (a b : JNum) (σ : List AO) (ha : JMay a) (hb : JMay b) : ACalls Tryz.prog 80 [.agg (ncells a), .agg (ncells b)] σ (Ret (.int .i64 (pCmp a b)) σ) := by
  have := rcmp_c a b σ ha.bnd hb.bnd; rwa [← cmp_same ha hb] at this
theorem fails_c (nm : ByteArray) (k v : JV) (c1 c2 : List AV) (σ : List AO) (h1c : vcells k = c1) (h2c : vcells v = c2) (hkj : jb k) (hkm : jmay k) (hvj : jb v) (hvm : jmay v) : ACalls Tryz.prog 46 [.str nm, .agg c1, .agg c2] σ (Ret (.bool (!rpass nm k v)) σ) := by
 refine ACalls_body Tryz.func46 rfl Tryz.ntmps46 (res1 Tryz.results46) (Nat.le_of_ble_eq_true rfl) (fun hcl hal => ?_)
 subst h1c; subst h2c
 rw [vcells_eq k, vcells_eq v]
 obtain ⟨ka, kb, kc, kd, ke, kf⟩ := (jb_eq k).1 hkj
 obtain ⟨va, vb, vc, vd, ve, vf⟩ := (jb_eq v).1 hvj
 have hkn := numMay_J (kindr hkm).2.2
 have hvn := numMay_J (kindr hvm).2.2
 have hkp := jsize_pos k
 have hrc := Lib.runeCount_le v.s
 change rcnt v.s ≤ v.s.size at hrc
 have hkel : ∀ x ∈ k.l, jb x := fun x hx => by obtain ⟨i, hi⟩ := List.mem_iff_getElem?.1 hx; exact lb_get ke hi
 have hvel : ∀ x ∈ v.l, jb x := fun x hx => by obtain ⟨i, hi⟩ := List.mem_iff_getElem?.1 hx; exact lb_get ve hi
 obtain ⟨hk0, hk5, _⟩ := kindr hvm
 have hll := lcells_length v.l
 have hkll := lcells_length k.l
 refine zw3 ?_
 refine AWp_seq ?_
 refine AWp_drawL #[0, 1, 3, 7, 0, 16, 63, 127] Tryz.mixed (by decide +kernel) (by decide +kernel) ?_
 refine zd1 ?_
 refine zp1 ?_
 refine yP rfl rfl (zc rfl (rchars_c v.s _ (by omega))) (trivial) ?_
 refine yP rfl rfl (zc rfl (rofN_c (rcnt v.s : Int) _ (by omega) (by omega))) (trivial) ?_
 refine zd1 ?_
 refine zp1 ?_
 refine yP rfl rfl (zc rfl (rcmpJ_c (ofN (rcnt v.s)) k.n _ (ofN_may _) hkn)) (trivial) ?_
 refine zd1 ?_
 refine RP.nil rfl ?_
 refine AWp_seq ?_
 refine AWp_drawL #[0, 1, 3, 7, 0, 16, 63, 127] Tryz.mixed (by decide +kernel) (by decide +kernel) ?_
 refine zd1 ?_
 refine zp1 ?_
 refine zd1 ?_
 rw [lcells_length]
 refine yP rfl rfl (zc rfl (rofN_c (v.l.length : Int) _ (by omega) (by omega))) (trivial) ?_
 refine zd1 ?_
 refine zp1 ?_
 refine yP rfl rfl (zc rfl (rcmpJ_c (ofN v.l.length) k.n _ (ofN_may _) hkn)) (trivial) ?_
 refine zd1 ?_
 refine RP.nil rfl ?_
 refine zu4 ?_
 refine zt rfl (zc rfl (rcmpJ_c v.n k.n _ hvn hkn)) ?_
 refine zv1 ?_
 refine zw1 ?_
 refine AWp_seq ?_
 refine zw1 ?_
 refine AWp_block ?_
 refine zw2 ?_
 refine AWp_cond rfl (fun h1 => ?_) (fun h1 => ?_)
 ·(try rw [h1]); replace h1 := zcl h1
  refine zw1 ?_
  refine zw3 ?_
  refine AWp_join (ι := Unit) (fun b => True) (fun b => ⟨[], [(4, .ptr (σ.length + 0) 0), (5, .ptr (σ.length + 1) 0), (6, .bool false), (10, .bool true), (11, .sl false 8 (lcells (if k.kind = 3 then [k] else k.l)))]⟩) (fun b => σ ++ [.box [.int .i64 k.kind, .bool k.b, .bool k.n.neg, .str k.n.digits, .int .i64 k.n.exp, .str k.s, .sl false 8 (lcells k.l), .sl false 9 (mcells k.m)], .box [.int .i64 v.kind, .bool v.b, .bool v.n.neg, .str v.n.digits, .int .i64 v.n.exp, .str v.s, .sl false 8 (lcells v.l), .sl false 9 (mcells v.m)]]) ?_ (fun b hj => ?_)
  ·skip
   refine zw3 ?_
   refine AWp_cond rfl (fun h2 => ?_) (fun h2 => ?_)
   ·(try rw [h2]); replace h2 := zcl h2
    refine AWp_regL ?_
    refine zg1 ?_
    refine zt rfl (AOp.resLe (op_buildSlice [[_, _, _, _, _, _, _, _]] rfl Tryz.underlying25 Tryz.sizeOf28 Tryz.zeroValue28 rfl (by decide) (by decide) rfl rfl rfl rfl rfl) (sl1 (v := k) (by rw [vcells_eq k]; exact AVleL.refl _))) ?_
    refine zv1 ?_
    exact ⟨(), trivial, ⟨rfl, rfl, rfl, rfl, rfl, by rw [if_pos h2]; rfl, trivial⟩, rfl⟩
   ·(try rw [h2]); replace h2 := zcl h2
    refine AWp_skip ?_
    exact ⟨(), trivial, ⟨rfl, rfl, rfl, rfl, rfl, by rw [if_neg h2]; rfl, trivial⟩, rfl⟩
  ·skip
   have hL1 : (if k.kind = 3 then [k] else k.l).length ≤ 1000000 := by split <;> first | (show 1 ≤ 1000000; decide) | omega
   generalize hL : (if k.kind = 3 then [k] else k.l) = L at hL1 ⊢
   have hLl := lcells_length L
   refine zw1 ?_
   refine AWp_block ?_
   -- loop 0 LIVE 4:box 5:box 6:assign 7:assign 8:assign 9:assign 10:assign 11:assign 12:assign 40:move
   refine AWp_loop (ι := Nat) (fun i => i ≤ L.length) (fun i => ⟨[], [(4, .ptr (σ.length + 0) 0), (5, .ptr (σ.length + 1) 0), (6, .bool false), (10, .bool (!(L.take i).any (fun x => ris v x.s))), (11, .sl false 8 (lcells L)), (12, .int .i64 (i : Int))]⟩) (fun i => σ ++ [.box [.int .i64 k.kind, .bool k.b, .bool k.n.neg, .str k.n.digits, .int .i64 k.n.exp, .str k.s, .sl false 8 (lcells k.l), .sl false 9 (mcells k.m)], .box [.int .i64 v.kind, .bool v.b, .bool v.n.neg, .str v.n.digits, .int .i64 v.n.exp, .str v.s, .sl false 8 (lcells v.l), .sl false 9 (mcells v.m)]]) (fun i => L.length - i) (0) (Nat.zero_le _) ?_ rfl (fun i hi => ?_)
   ·exact ⟨rfl, rfl, rfl, rfl, rfl, rfl, rfl, trivial⟩
   refine AWp_seq ?_
   refine zw4 ?_
   refine AWp_cond rfl (fun h3 => ?_) (fun h3 => ?_)
   ·(try rw [h3]); replace h3 := zcl h3
    obtain ⟨x, hx⟩ : ∃ x, L[i]? = some x := ⟨_, List.getElem?_eq_getElem (show i < L.length by omega)⟩
    refine AWp_skip ?_
    refine AWp_seq ?_
    refine AWp_block ?_
    refine AWp_seq ?_
    refine AWp_drawL #[0, 0, 0, 6, 14, 30, 63, 127] Tryz.mixed (by decide +kernel) (by decide +kernel) ?_
    refine zp1 ?_
    refine zd3 ?_
    rw [vcells_eq x]
    refine zd1 ?_
    refine zp1 ?_
    refine yP rfl rfl (zc rfl (risF_c v x.s _ _ (vcells_eq v) hk0 hk5)) (trivial) ?_
    refine zd1 ?_
    refine RP.nil rfl ?_
    refine AWp_regL ?_
    refine zg2 ?_
    refine zsp 64 rfl (fun h4 => ?_) fun h4 => ?_
    ·rw [h4]; replace h4 := zcl h4
     refine zv4 ?_
     refine AWp_regL ?_
     refine zv3 ?_
     refine ⟨i + 1, σ.length + 2, by omega, by omega, by simp, ⟨rfl, rfl, rfl, rfl, congrArg AV.bool (by rw [rq_step hx]; revert h4; generalize (L.take i).any (fun x => ris v x.s) = A; cases A <;> simp), rfl, rfl, trivial⟩, closed_own 2 hcl (by simp [ownLt, AO.cells, AV.ltL, AV.lt]), ?_, take_own 2⟩
     ·simp [ltE, AV.lt, AV.ltL]
    ·rw [h4]; replace h4 := zcl h4
     refine zv4 ?_
     refine AWp_regL ?_
     refine zv3 ?_
     refine ⟨i + 1, σ.length + 2, by omega, by omega, by simp, ⟨rfl, rfl, rfl, rfl, congrArg AV.bool (by rw [rq_step hx]; revert h4; generalize (L.take i).any (fun x => ris v x.s) = A; cases A <;> simp), rfl, rfl, trivial⟩, closed_own 2 hcl (by simp [ownLt, AO.cells, AV.ltL, AV.lt]), ?_, take_own 2⟩
     ·simp [ltE, AV.lt, AV.ltL]
   ·(try rw [h3]); replace h3 := zcl h3
    refine AWp_exit ?_
    refine zw2 ?_
    refine zrt ?_
    exact ResQ_1 rfl hcl trivial (Ret_of (congrArg AV.bool (by rw [show nm = wTYPE from h1, rp_type, hL, show i = L.length by omega, List.take_length])))
 ·(try rw [h1]); replace h1 := zcl h1
  refine zw2 ?_
  refine AWp_cond rfl (fun h5 => ?_) (fun h5 => ?_)
  ·(try rw [h5]); replace h5 := zcl h5
   refine zu3 ?_
   refine zt rfl (zc rfl (ramong_c k.l v false _ _ _ rfl (vcells_eq v) (by omega) hkel hvj)) ?_
   refine zv1 ?_
   refine AWp_regL ?_
   refine zv3 ?_
   refine zw2 ?_
   refine zrt ?_
   exact ResQ_1 rfl hcl trivial (Ret_of (congrArg AV.bool (by rw [show nm = wENUM from h5, rp_enum]; try rfl)))
  ·(try rw [h5]); replace h5 := zcl h5
   refine zw2 ?_
   refine AWp_cond rfl (fun h6 => ?_) (fun h6 => ?_)
   ·(try rw [h6]); replace h6 := zcl h6
    refine zu2 ?_
    refine zt rfl (zc rfl (vcells_eq k ▸ vcells_eq v ▸ rsame_any (jsize k).toNat k v _ (by omega) hkj hvj)) ?_
    refine zv1 ?_
    refine AWp_regL ?_
    refine zv3 ?_
    refine zw2 ?_
    refine zrt ?_
    exact ResQ_1 rfl hcl trivial (Ret_of (congrArg AV.bool (by rw [show nm = wCONST from h6, rp_const]; try rfl)))
   ·(try rw [h6]); replace h6 := zcl h6
    refine zw2 ?_
    refine AWp_cond rfl (fun h7 => ?_) (fun h7 => ?_)
    ·(try rw [h7]); replace h7 := zcl h7
     refine AWp_regL ?_
     refine zg4 ?_
     refine zsp 88 rfl (fun h8 => ?_) fun h8 => ?_
     ·rw [h8]; replace h8 := zcl h8
      refine zv4 ?_
      refine zw2 ?_
      refine zrt ?_
      exact ResQ_1 rfl hcl trivial (Ret_of (congrArg AV.bool (by rw [show nm = wMIN from h7, rp_min]; simp [h8])))
     ·rw [h8]; replace h8 := zcl h8
      refine zv4 ?_
      refine zw2 ?_
      refine zrt ?_
      exact ResQ_1 rfl hcl trivial (Ret_of (congrArg AV.bool (by rw [show nm = wMIN from h7, rp_min]; simp [h8])))
    ·(try rw [h7]); replace h7 := zcl h7
     refine zw2 ?_
     refine AWp_cond rfl (fun h9 => ?_) (fun h9 => ?_)
     ·(try rw [h9]); replace h9 := zcl h9
      refine AWp_regL ?_
      refine zg4 ?_
      refine zsp 97 rfl (fun h10 => ?_) fun h10 => ?_
      ·rw [h10]; replace h10 := zcl h10
       refine zv4 ?_
       refine zw2 ?_
       refine zrt ?_
       exact ResQ_1 rfl hcl trivial (Ret_of (congrArg AV.bool (by rw [show nm = wMAX from h9, rp_max]; simp [h10])))
      ·rw [h10]; replace h10 := zcl h10
       refine zv4 ?_
       refine zw2 ?_
       refine zrt ?_
       exact ResQ_1 rfl hcl trivial (Ret_of (congrArg AV.bool (by rw [show nm = wMAX from h9, rp_max]; simp [h10])))
     ·(try rw [h9]); replace h9 := zcl h9
      refine zw2 ?_
      refine AWp_cond rfl (fun h11 => ?_) (fun h11 => ?_)
      ·(try rw [h11]); replace h11 := zcl h11
       refine AWp_regL ?_
       refine zg4 ?_
       refine zsp 106 rfl (fun h12 => ?_) fun h12 => ?_
       ·rw [h12]; replace h12 := zcl h12
        refine zv4 ?_
        refine zw2 ?_
        refine zrt ?_
        exact ResQ_1 rfl hcl trivial (Ret_of (congrArg AV.bool (by rw [show nm = wMINL from h11, rp_minl]; simp [h12])))
       ·rw [h12]; replace h12 := zcl h12
        refine zv4 ?_
        refine zw2 ?_
        refine zrt ?_
        exact ResQ_1 rfl hcl trivial (Ret_of (congrArg AV.bool (by rw [show nm = wMINL from h11, rp_minl]; simp [h12])))
      ·(try rw [h11]); replace h11 := zcl h11
       refine zw2 ?_
       refine AWp_cond rfl (fun h13 => ?_) (fun h13 => ?_)
       ·(try rw [h13]); replace h13 := zcl h13
        refine AWp_regL ?_
        refine zg4 ?_
        refine zsp 115 rfl (fun h14 => ?_) fun h14 => ?_
        ·rw [h14]; replace h14 := zcl h14
         refine zv4 ?_
         refine zw2 ?_
         refine zrt ?_
         exact ResQ_1 rfl hcl trivial (Ret_of (congrArg AV.bool (by rw [show nm = wMAXL from h13, rp_maxl]; simp [h14])))
        ·rw [h14]; replace h14 := zcl h14
         refine zv4 ?_
         refine zw2 ?_
         refine zrt ?_
         exact ResQ_1 rfl hcl trivial (Ret_of (congrArg AV.bool (by rw [show nm = wMAXL from h13, rp_maxl]; simp [h14])))
       ·(try rw [h13]); replace h13 := zcl h13
        refine zw2 ?_
        refine AWp_cond rfl (fun h15 => ?_) (fun h15 => ?_)
        ·(try rw [h15]); replace h15 := zcl h15
         refine AWp_regL ?_
         refine zg4 ?_
         refine zsp 124 rfl (fun h16 => ?_) fun h16 => ?_
         ·rw [h16]; replace h16 := zcl h16
          refine zv4 ?_
          refine zw2 ?_
          refine zrt ?_
          exact ResQ_1 rfl hcl trivial (Ret_of (congrArg AV.bool (by rw [show nm = wMINI from h15, rp_mini]; simp [h16])))
         ·rw [h16]; replace h16 := zcl h16
          refine zv4 ?_
          refine zw2 ?_
          refine zrt ?_
          exact ResQ_1 rfl hcl trivial (Ret_of (congrArg AV.bool (by rw [show nm = wMINI from h15, rp_mini]; simp [h16])))
        ·(try rw [h15]); replace h15 := zcl h15
         refine zw2 ?_
         refine AWp_cond rfl (fun h17 => ?_) (fun h17 => ?_)
         ·(try rw [h17]); replace h17 := zcl h17
          refine AWp_regL ?_
          refine zg4 ?_
          refine zsp 133 rfl (fun h18 => ?_) fun h18 => ?_
          ·rw [h18]; replace h18 := zcl h18
           refine zv4 ?_
           refine zw2 ?_
           refine zrt ?_
           exact ResQ_1 rfl hcl trivial (Ret_of (congrArg AV.bool (by rw [show nm = wMAXI from h17, rp_maxi]; simp [h18])))
          ·rw [h18]; replace h18 := zcl h18
           refine zv4 ?_
           refine zw2 ?_
           refine zrt ?_
           exact ResQ_1 rfl hcl trivial (Ret_of (congrArg AV.bool (by rw [show nm = wMAXI from h17, rp_maxi]; simp [h18])))
         ·(try rw [h17]); replace h17 := zcl h17
          refine zw2 ?_
          refine AWp_cond rfl (fun h19 => ?_) (fun h19 => ?_)
          ·(try rw [h19]); replace h19 := zcl h19
           refine zw1 ?_
           refine AWp_block ?_
           -- loop 1 LIVE 4:box 5:box 6:assign 10:assign 16:assign 40:move
           refine AWp_loop (ι := Nat) (fun i => i ≤ v.l.length) (fun i => ⟨[], [(4, .ptr (σ.length + 0) 0), (5, .ptr (σ.length + 1) 0), (6, .bool false), (10, .bool (k.b && !pb (UQ v.l i))), (16, .int .i64 (i : Int))]⟩) (fun i => σ ++ [.box [.int .i64 k.kind, .bool k.b, .bool k.n.neg, .str k.n.digits, .int .i64 k.n.exp, .str k.s, .sl false 8 (lcells k.l), .sl false 9 (mcells k.m)], .box [.int .i64 v.kind, .bool v.b, .bool v.n.neg, .str v.n.digits, .int .i64 v.n.exp, .str v.s, .sl false 8 (lcells v.l), .sl false 9 (mcells v.m)]]) (fun i => v.l.length - i) (0) (Nat.zero_le _) ?_ rfl (fun i hi => ?_)
           ·exact ⟨rfl, rfl, rfl, rfl, congrArg AV.bool (by rw [pb_t (UQ_0 _)]; simp), rfl, trivial⟩
           refine AWp_seq ?_
           refine zw5 ?_
           refine AWp_cond rfl (fun h20 => ?_) (fun h20 => ?_)
           ·(try rw [h20]); replace h20 := zcl h20
            obtain ⟨x, hx⟩ : ∃ x, v.l[i]? = some x := ⟨_, List.getElem?_eq_getElem (show i < v.l.length by omega)⟩
            have hxm := List.mem_of_getElem? hx
            refine AWp_skip ?_
            refine AWp_seq ?_
            refine AWp_block ?_
            refine AWp_seq ?_
            refine AWp_drawL #[0, 1, 0, 7, 0, 16, 0, 112, 240, 511, 1023] Tryz.mixed (by decide +kernel) (by decide +kernel) ?_
            refine zd1 ?_
            refine zp1 ?_
            refine zd1 ?_
            refine yA rfl rfl (fun _ => op_sliceSl 0 (i : Int) rfl Tryz.underlying25 Tryz.sizeOf28 rfl (by first | exact ⟨_, rfl⟩ | rfl) (by first | exact ⟨_, rfl⟩ | rfl) (by omega) (by omega) (by omega)) ?_
            refine zd1 ?_
            refine zp1 ?_
            refine zd2 ?_
            rw [vcells_eq x]
            refine zp1 ?_
            refine yP rfl rfl (zc rfl (ramong_c (v.l.take i) x _ _ _ _ (by simp [lcells_eq, List.map_take]) (vcells_eq x) (by rw [List.length_take]; omega) (fun y hy => hvel y (List.mem_of_mem_take hy)) (hvel x hxm))) (trivial) ?_
            refine zd1 ?_
            refine RP.nil rfl ?_
            refine AWp_regL ?_
            refine zg2 ?_
            refine zsp 157 rfl (fun h21 => ?_) fun h21 => ?_
            ·rw [h21]; replace h21 := zcl h21
             refine zv7 ?_
             refine AWp_regL ?_
             refine zv3 ?_
             refine ⟨i + 1, σ.length + 2, by omega, by omega, by simp, ⟨rfl, rfl, rfl, rfl, congrArg AV.bool (by rw [uq_step hx]; generalize pb (UQ v.l i) = A at *; generalize ((v.l.take i).any fun y => pb (y = x)) = B at *; generalize k.b = C at *; first | (revert h21 h22; cases A <;> cases B <;> cases C <;> simp; done) | (revert h21; cases A <;> cases B <;> cases C <;> simp; done)), rfl, trivial⟩, closed_own 2 hcl (by simp [ownLt, AO.cells, AV.ltL, AV.lt]), ?_, take_own 2⟩
             ·simp [ltE, AV.lt, AV.ltL]
            ·rw [h21]; replace h21 := zcl h21
             refine zg2 ?_
             refine zsp 159 rfl (fun h22 => ?_) fun h22 => ?_
             ·rw [h22]; replace h22 := zcl h22
              refine zv5 ?_
              refine AWp_regL ?_
              refine zv3 ?_
              refine ⟨i + 1, σ.length + 2, by omega, by omega, by simp, ⟨rfl, rfl, rfl, rfl, congrArg AV.bool (by rw [uq_step hx]; generalize pb (UQ v.l i) = A at *; generalize ((v.l.take i).any fun y => pb (y = x)) = B at *; generalize k.b = C at *; first | (revert h21 h22; cases A <;> cases B <;> cases C <;> simp; done) | (revert h21; cases A <;> cases B <;> cases C <;> simp; done)), rfl, trivial⟩, closed_own 2 hcl (by simp [ownLt, AO.cells, AV.ltL, AV.lt]), ?_, take_own 2⟩
              ·simp [ltE, AV.lt, AV.ltL]
             ·rw [h22]; replace h22 := zcl h22
              refine zv5 ?_
              refine AWp_regL ?_
              refine zv3 ?_
              refine ⟨i + 1, σ.length + 2, by omega, by omega, by simp, ⟨rfl, rfl, rfl, rfl, congrArg AV.bool (by rw [uq_step hx]; generalize pb (UQ v.l i) = A at *; generalize ((v.l.take i).any fun y => pb (y = x)) = B at *; generalize k.b = C at *; first | (revert h21 h22; cases A <;> cases B <;> cases C <;> simp; done) | (revert h21; cases A <;> cases B <;> cases C <;> simp; done)), rfl, trivial⟩, closed_own 2 hcl (by simp [ownLt, AO.cells, AV.ltL, AV.lt]), ?_, take_own 2⟩
              ·simp [ltE, AV.lt, AV.ltL]
           ·(try rw [h20]); replace h20 := zcl h20
            refine AWp_exit ?_
            refine zw2 ?_
            refine zrt ?_
            exact ResQ_1 rfl hcl trivial (Ret_of (congrArg AV.bool (by rw [show nm = wUNIQ from h19, rp_uniq, show i = v.l.length by omega]; simp)))
          ·(try rw [h19]); replace h19 := zcl h19
           refine zw2 ?_
           refine AWp_cond rfl (fun h23 => ?_) (fun h23 => ?_)
           ·(try rw [h23]); replace h23 := zcl h23
            refine zw1 ?_
            refine AWp_block ?_
            -- loop 2 LIVE 4:box 5:box 6:assign 10:assign 18:assign
            refine AWp_loop (ι := Nat) (fun i => i ≤ k.l.length) (fun i => ⟨[], [(4, .ptr (σ.length + 0) 0), (5, .ptr (σ.length + 1) 0), (6, .bool false), (10, .bool ((k.l.take i).any (fun x => decide (v.kind = 5) && !jfB v x.s))), (18, .int .i64 (i : Int))]⟩) (fun i => σ ++ [.box [.int .i64 k.kind, .bool k.b, .bool k.n.neg, .str k.n.digits, .int .i64 k.n.exp, .str k.s, .sl false 8 (lcells k.l), .sl false 9 (mcells k.m)], .box [.int .i64 v.kind, .bool v.b, .bool v.n.neg, .str v.n.digits, .int .i64 v.n.exp, .str v.s, .sl false 8 (lcells v.l), .sl false 9 (mcells v.m)]]) (fun i => k.l.length - i) (0) (Nat.zero_le _) ?_ rfl (fun i hi => ?_)
            ·exact ⟨rfl, rfl, rfl, rfl, rfl, rfl, trivial⟩
            refine AWp_seq ?_
            refine zw5 ?_
            refine AWp_cond rfl (fun h24 => ?_) (fun h24 => ?_)
            ·(try rw [h24]); replace h24 := zcl h24
             obtain ⟨x, hx⟩ : ∃ x, k.l[i]? = some x := ⟨_, List.getElem?_eq_getElem (show i < k.l.length by omega)⟩
             refine AWp_skip ?_
             refine AWp_seq ?_
             refine AWp_block ?_
             refine AWp_seq ?_
             refine AWp_drawL #[0, 0, 2, 0, 14, 30, 62, 127, 255, 511, 511, 0, 3071, 8191] Tryz.mixed (by decide +kernel) (by decide +kernel) ?_
             refine zp1 ?_
             refine zd1 ?_
             refine zp1 ?_
             refine zd2 ?_
             rw [vcells_eq x]
             refine zd1 ?_
             refine zp1 ?_
             refine yP rfl rfl (zc rfl (rfindC_c v x.s _ _ (vcells_eq v) (by omega))) (trivial) ?_
             rw [vcells_eq (jfD v x.s)]
             refine zd3 ?_
             refine yE rfl rfl (zoa) (⟨.inr (by rw [← vcells_eq (jfD v x.s)]; exact zc rfl (rfindC_c v x.s _ _ (vcells_eq v) (by omega))), ⟨.inr zoa, ⟨.inr zoa, ⟨.inr zoa, trivial⟩⟩⟩⟩) (trivial) ?_
             refine yEN rfl rfl rfl (zoa) (⟨.inl rfl, ⟨.inl rfl, ⟨.inl rfl, ⟨.inl rfl, trivial⟩⟩⟩⟩) (⟨rfl, trivial⟩) ?_
             refine zd1 ?_
             refine RP.nil rfl ?_
             refine AWp_regL ?_
             refine zg2 ?_
             refine zsp 185 rfl (fun h25 => ?_) fun h25 => ?_
             ·rw [h25]; replace h25 := zcl h25
              refine zv9 ?_
              refine AWp_regL ?_
              refine zv3 ?_
              refine ⟨i + 1, σ.length + 2, by omega, by omega, by simp, ⟨rfl, rfl, rfl, rfl, congrArg AV.bool (by first | exact rq_t hx h25 | (have h9z := h25; rw [decide_eq_true h26] at h9z; exact rq_e hx h9z (by simp)) | (have h9z := h25; rw [decide_eq_false h26] at h9z; exact rq_e hx h9z (by simp))), rfl, trivial⟩, closed_own 2 hcl (by simp [ownLt, AO.cells, AV.ltL, AV.lt]), ?_, take_own 2⟩
              ·simp [ltE, AV.lt, AV.ltL]
             ·rw [h25]; replace h25 := zcl h25
              refine zg4 ?_
              refine zsp 189 rfl (fun h26 => ?_) fun h26 => ?_
              ·rw [h26]; replace h26 := zcl h26
               refine zv5 ?_
               refine AWp_regL ?_
               refine zv3 ?_
               refine ⟨i + 1, σ.length + 2, by omega, by omega, by simp, ⟨rfl, rfl, rfl, rfl, congrArg AV.bool (by first | exact rq_t hx h25 | (have h9z := h25; rw [decide_eq_true h26] at h9z; exact rq_e hx h9z (by simp)) | (have h9z := h25; rw [decide_eq_false h26] at h9z; exact rq_e hx h9z (by simp))), rfl, trivial⟩, closed_own 2 hcl (by simp [ownLt, AO.cells, AV.ltL, AV.lt]), ?_, take_own 2⟩
               ·simp [ltE, AV.lt, AV.ltL]
              ·rw [h26]; replace h26 := zcl h26
               refine zv5 ?_
               refine AWp_regL ?_
               refine zv3 ?_
               refine ⟨i + 1, σ.length + 2, by omega, by omega, by simp, ⟨rfl, rfl, rfl, rfl, congrArg AV.bool (by first | exact rq_t hx h25 | (have h9z := h25; rw [decide_eq_true h26] at h9z; exact rq_e hx h9z (by simp)) | (have h9z := h25; rw [decide_eq_false h26] at h9z; exact rq_e hx h9z (by simp))), rfl, trivial⟩, closed_own 2 hcl (by simp [ownLt, AO.cells, AV.ltL, AV.lt]), ?_, take_own 2⟩
               ·simp [ltE, AV.lt, AV.ltL]
            ·(try rw [h24]); replace h24 := zcl h24
             refine AWp_exit ?_
             refine zw2 ?_
             refine zrt ?_
             exact ResQ_1 rfl hcl trivial (Ret_of (congrArg AV.bool (by rw [show nm = wREQ from h23, rp_req, show i = k.l.length by omega, List.take_length]; simp)))
           ·(try rw [h23]); replace h23 := zcl h23
            refine AWp_skip ?_
            refine zw2 ?_
            refine zrt ?_
            exact ResQ_1 rfl hcl trivial (Ret_of (congrArg AV.bool (by rw [rp_none k v h1 h5 h6 h7 h9 h11 h13 h15 h17 h19 h23]; rfl)))
end Lg
set_option maxRecDepth 20000
set_option maxHeartbeats 4000000
namespace Lg
open Go Go.Proofs Go.RowKit
variable [GLay] [S10]
theorem pass_c (nm : ByteArray) (k v : JV) (c1 c2 : List AV) (σ : List AO) (h1c : vcells k = c1) (h2c : vcells v = c2) (hks : rShape nm k = 0) (hkj : jb k) (hkm : jmay k) (hvj : jb v) (hvm : jmay v) : ACalls Tryz.prog 45 [.str nm, .agg c1, .agg c2] σ (Ret (.bool (rpass nm k v)) σ) := by
 refine ACalls_body Tryz.func45 rfl Tryz.ntmps45 (res1 Tryz.results45) (Nat.le_of_ble_eq_true rfl) (fun hcl hal => ?_)
 subst h1c; subst h2c
 rw [vcells_eq k, vcells_eq v]
 obtain ⟨ka, kb, kc, kd, ke, kf⟩ := (jb_eq k).1 hkj
 obtain ⟨va, vb, vc, vd, ve, vf⟩ := (jb_eq v).1 hvj
 have hkn := numMay_J (kindr hkm).2.2
 have hvn := numMay_J (kindr hvm).2.2
 have hkp := jsize_pos k
 have hrc := Lib.runeCount_le v.s
 change rcnt v.s ≤ v.s.size at hrc
 have hkel : ∀ x ∈ k.l, jb x := fun x hx => by obtain ⟨i, hi⟩ := List.mem_iff_getElem?.1 hx; exact lb_get ke hi
 have hvel : ∀ x ∈ v.l, jb x := fun x hx => by obtain ⟨i, hi⟩ := List.mem_iff_getElem?.1 hx; exact lb_get ve hi
 refine zw3 ?_
 refine AWp_seq ?_
 refine zw1 ?_
 refine AWp_block ?_
 refine zw2 ?_
 refine AWp_cond rfl (fun h1 => ?_) (fun h1 => ?_)
 ·(try rw [h1]); replace h1 := zcl h1
  refine zu2 ?_
  refine zt rfl (zc rfl (typed_c k v _ _ _ (vcells_eq k) (vcells_eq v) (by omega))) ?_
  refine zv1 ?_
  refine zrt ?_
  refine ResQ_1 rfl hcl trivial (Ret_of ?_)
  rw [show nm = wTYPE from h1, rp_type]
  rw [typed_eq (kok_type (by rw [← show nm = wTYPE from h1]; exact hks)) hvm]
 ·(try rw [h1]); replace h1 := zcl h1
  refine zw2 ?_
  refine AWp_cond rfl (fun h2 => ?_) (fun h2 => ?_)
  ·(try rw [h2]); replace h2 := zcl h2
   refine zu3 ?_
   refine zt rfl (zc rfl (among_c k.l v false _ _ _ rfl (vcells_eq v) (by omega) hkel hvj rfl)) ?_
   refine zv1 ?_
   refine zrt ?_
   refine ResQ_1 rfl hcl trivial (Ret_of ?_)
   rw [show nm = wENUM from h2, rp_enum]
  ·(try rw [h2]); replace h2 := zcl h2
   refine zw2 ?_
   refine AWp_cond rfl (fun h3 => ?_) (fun h3 => ?_)
   ·(try rw [h3]); replace h3 := zcl h3
    refine zu2 ?_
    refine zt rfl (zc rfl (vcells_eq k ▸ vcells_eq v ▸ same_any (jsize k).toNat k v _ (by omega) hkj hvj)) ?_
    refine zv1 ?_
    refine zrt ?_
    refine ResQ_1 rfl hcl trivial (Ret_of ?_)
    rw [show nm = wCONST from h3, rp_const]
   ·(try rw [h3]); replace h3 := zcl h3
    refine zw2 ?_
    refine AWp_cond rfl (fun h4 => ?_) (fun h4 => ?_)
    ·(try rw [h4]); replace h4 := zcl h4
     refine zu4 ?_
     refine zsp 29 rfl (fun h5 => ?_) fun h5 => ?_
     ·rw [h5]; replace h5 := zcl h5
      refine zv8 ?_
      refine zrt ?_
      refine ResQ_1 rfl hcl trivial (Ret_of ?_)
      rw [show nm = wMIN from h4, rp_min]
      simp [h5]
     ·rw [h5]; replace h5 := zcl h5
      refine zg4 ?_
      refine ztG rfl rfl (zc rfl (pcmpJ_c v.n k.n _ hvn hkn)) ?_
      refine zv3 ?_
      refine zrt ?_
      refine ResQ_1 rfl hcl trivial (Ret_of ?_)
      rw [show nm = wMIN from h4, rp_min]
      congr 1
      by_cases hc : pCmp v.n k.n < 0 <;> simp [h5, hc] <;> omega
    ·(try rw [h4]); replace h4 := zcl h4
     refine zw2 ?_
     refine AWp_cond rfl (fun h6 => ?_) (fun h6 => ?_)
     ·(try rw [h6]); replace h6 := zcl h6
      refine zu4 ?_
      refine zsp 42 rfl (fun h7 => ?_) fun h7 => ?_
      ·rw [h7]; replace h7 := zcl h7
       refine zv8 ?_
       refine zrt ?_
       refine ResQ_1 rfl hcl trivial (Ret_of ?_)
       rw [show nm = wMAX from h6, rp_max]
       simp [h7]
      ·rw [h7]; replace h7 := zcl h7
       refine zg4 ?_
       refine ztG rfl rfl (zc rfl (pcmpJ_c v.n k.n _ hvn hkn)) ?_
       refine zv3 ?_
       refine zrt ?_
       refine ResQ_1 rfl hcl trivial (Ret_of ?_)
       rw [show nm = wMAX from h6, rp_max]
       congr 1
       by_cases hc : 0 < pCmp v.n k.n <;> simp [h7, hc] <;> omega
     ·(try rw [h6]); replace h6 := zcl h6
      refine zw2 ?_
      refine AWp_cond rfl (fun h8 => ?_) (fun h8 => ?_)
      ·(try rw [h8]); replace h8 := zcl h8
       refine AWp_seq ?_
       refine AWp_drawL #[0, 1, 3, 7, 15, 31, 63, 15, 255, 511, 1023, 2047] Tryz.mixed (by decide +kernel) (by decide +kernel) ?_
       refine zd1 ?_
       refine zp1 ?_
       refine zd2 ?_
       refine zspr 55 rfl (fun h9 => ?_) fun h9 => ?_
       ·rw [h9]; replace h9 := zcl h9
        refine zd8 ?_
        refine RP.nil rfl ?_
        refine zrt ?_
        refine ResQ_1 rfl hcl trivial (Ret_of ?_)
        rw [show nm = wMINL from h8, rp_minl]
        simp [h9]
       ·rw [h9]; replace h9 := zcl h9
        refine zd1 ?_
        refine zp1 ?_
        refine yPG rfl rfl rfl (zc rfl (rcount_c v.s _ (by omega))) (trivial) ?_
        refine zp1 ?_
        refine yPG rfl rfl rfl (zc rfl (long_c ((rcnt v.s) : Int) k _ _ (vcells_eq k) (by omega) (by omega) hkn)) (trivial) ?_
        refine zd3 ?_
        refine RP.nil rfl ?_
        refine zrt ?_
        refine ResQ_1 rfl hcl trivial (Ret_of ?_)
        rw [show nm = wMINL from h8, rp_minl]
        congr 1
        by_cases hc : pCmp (ofN (rcnt v.s)) k.n < 0 <;> simp [h9, hc] <;> omega
      ·(try rw [h8]); replace h8 := zcl h8
       refine zw2 ?_
       refine AWp_cond rfl (fun h10 => ?_) (fun h10 => ?_)
       ·(try rw [h10]); replace h10 := zcl h10
        refine AWp_seq ?_
        refine AWp_drawL #[0, 1, 3, 7, 15, 31, 63, 15, 255, 511, 1023, 2047] Tryz.mixed (by decide +kernel) (by decide +kernel) ?_
        refine zd1 ?_
        refine zp1 ?_
        refine zd2 ?_
        refine zspr 68 rfl (fun h11 => ?_) fun h11 => ?_
        ·rw [h11]; replace h11 := zcl h11
         refine zd8 ?_
         refine RP.nil rfl ?_
         refine zrt ?_
         refine ResQ_1 rfl hcl trivial (Ret_of ?_)
         rw [show nm = wMAXL from h10, rp_maxl]
         simp [h11]
        ·rw [h11]; replace h11 := zcl h11
         refine zd1 ?_
         refine zp1 ?_
         refine yPG rfl rfl rfl (zc rfl (rcount_c v.s _ (by omega))) (trivial) ?_
         refine zp1 ?_
         refine yPG rfl rfl rfl (zc rfl (long_c ((rcnt v.s) : Int) k _ _ (vcells_eq k) (by omega) (by omega) hkn)) (trivial) ?_
         refine zd3 ?_
         refine RP.nil rfl ?_
         refine zrt ?_
         refine ResQ_1 rfl hcl trivial (Ret_of ?_)
         rw [show nm = wMAXL from h10, rp_maxl]
         congr 1
         by_cases hc : 0 < pCmp (ofN (rcnt v.s)) k.n <;> simp [h11, hc] <;> omega
       ·(try rw [h10]); replace h10 := zcl h10
        refine zw2 ?_
        refine AWp_cond rfl (fun h12 => ?_) (fun h12 => ?_)
        ·(try rw [h12]); replace h12 := zcl h12
         refine zu4 ?_
         refine zsp 81 rfl (fun h13 => ?_) fun h13 => ?_
         ·rw [h13]; replace h13 := zcl h13
          refine zv8 ?_
          refine zrt ?_
          refine ResQ_1 rfl hcl trivial (Ret_of ?_)
          rw [show nm = wMINI from h12, rp_mini]
          simp [h13]
         ·rw [h13]; replace h13 := zcl h13
          refine zg3 ?_
          rw [lcells_length]
          refine zg1 ?_
          refine ztG rfl rfl (zc rfl (long_c (v.l.length : Int) k _ _ (vcells_eq k) (by omega) (by omega) hkn)) ?_
          refine zv3 ?_
          refine zrt ?_
          refine ResQ_1 rfl hcl trivial (Ret_of ?_)
          rw [show nm = wMINI from h12, rp_mini]
          congr 1
          by_cases hc : pCmp (ofN v.l.length) k.n < 0 <;> simp [h13, hc] <;> omega
        ·(try rw [h12]); replace h12 := zcl h12
         refine zw2 ?_
         refine AWp_cond rfl (fun h14 => ?_) (fun h14 => ?_)
         ·(try rw [h14]); replace h14 := zcl h14
          refine zu4 ?_
          refine zsp 94 rfl (fun h15 => ?_) fun h15 => ?_
          ·rw [h15]; replace h15 := zcl h15
           refine zv8 ?_
           refine zrt ?_
           refine ResQ_1 rfl hcl trivial (Ret_of ?_)
           rw [show nm = wMAXI from h14, rp_maxi]
           simp [h15]
          ·rw [h15]; replace h15 := zcl h15
           refine zg3 ?_
           rw [lcells_length]
           refine zg1 ?_
           refine ztG rfl rfl (zc rfl (long_c (v.l.length : Int) k _ _ (vcells_eq k) (by omega) (by omega) hkn)) ?_
           refine zv3 ?_
           refine zrt ?_
           refine ResQ_1 rfl hcl trivial (Ret_of ?_)
           rw [show nm = wMAXI from h14, rp_maxi]
           congr 1
           by_cases hc : 0 < pCmp (ofN v.l.length) k.n <;> simp [h15, hc] <;> omega
         ·(try rw [h14]); replace h14 := zcl h14
          refine zw2 ?_
          refine AWp_cond rfl (fun h16 => ?_) (fun h16 => ?_)
          ·(try rw [h16]); replace h16 := zcl h16
           refine zu4 ?_
           refine zsp 107 rfl (fun h17 => ?_) fun h17 => ?_
           ·rw [h17]; replace h17 := zcl h17
            refine zg10 ?_
            refine zon ?_
            refine zrt ?_
            refine ResQ_1 rfl hcl trivial (Ret_of ?_)
            rw [show nm = wUNIQ from h16, rp_uniq]
            rw [no_l hvm h17]
            rw [show UQ [] ([] : List JV).length = UQ [] 0 from rfl, pb_t (UQ_0 _)]; simp
           ·rw [h17]; replace h17 := zcl h17
            refine zg5 ?_
            refine zsp 112 rfl (fun h18 => ?_) fun h18 => ?_
            ·rw [h18]; replace h18 := zcl h18
             refine zv5 ?_
             refine zrt ?_
             refine ResQ_1 rfl hcl trivial (Ret_of ?_)
             rw [show nm = wUNIQ from h16, rp_uniq]
             simp [h18]
            ·rw [h18]; replace h18 := zcl h18
             refine zg2 ?_
             refine ztG rfl rfl (zc rfl (unique_c v.l _ (by omega) hvel)) ?_
             refine zv2 ?_
             refine zrt ?_
             refine ResQ_1 rfl hcl trivial (Ret_of ?_)
             rw [show nm = wUNIQ from h16, rp_uniq]
             simp [h18]
          ·(try rw [h16]); replace h16 := zcl h16
           refine zw2 ?_
           refine AWp_cond rfl (fun h19 => ?_) (fun h19 => ?_)
           ·(try rw [h19]); replace h19 := zcl h19
            refine zu4 ?_
            refine zsp 122 rfl (fun h20 => ?_) fun h20 => ?_
            ·rw [h20]; replace h20 := zcl h20
             refine zv5 ?_
             refine zrt ?_
             refine ResQ_1 rfl hcl trivial (Ret_of ?_)
             rw [show nm = wREQ from h19, rp_req]
             congr 1; symm
             rw [Bool.not_eq_true', List.any_eq_false]
             intro x _; simp [h20]
            ·rw [h20]; replace h20 := zcl h20
             refine zg2 ?_
             refine ztG rfl rfl (zc rfl (has_c k v _ _ _ (vcells_eq k) (vcells_eq v) (by omega) (by omega))) ?_
             refine zv2 ?_
             refine zrt ?_
             refine ResQ_1 rfl hcl trivial (Ret_of ?_)
             rw [show nm = wREQ from h19, rp_req]
             simp [h20]
           ·(try rw [h19]); replace h19 := zcl h19
            refine AWp_skip ?_
            refine zw1 ?_
            refine zrt ?_
            refine ResQ_1 rfl hcl trivial (Ret_of ?_)
            rw [rp_none k v h1 h2 h3 h4 h6 h8 h10 h12 h14 h16 h19]
end Lg
