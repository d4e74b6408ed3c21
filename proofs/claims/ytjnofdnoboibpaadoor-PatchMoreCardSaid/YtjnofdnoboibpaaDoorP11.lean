/- A part of the proof of For all texts and every key the law PatchMore answers true, and they read afterwards as before; the card ties the tables.: Lg47 Lg48 Lg49 Lg50 Lg51 Lg52 M4 VQm. -/
import Derived.Test.YtjnofdnoboibpaaDoorP6
import Derived.Test.YtjnofdnoboibpaaDoorP3
import Derived.Test.YtjnofdnoboibpaaDoorP5
import Derived.Test.YtjnofdnoboibpaaDoorP8
import Derived.Test.YtjnofdnoboibpaaDoorP10
import Derived.Test.YtjnofdnoboibpaaDoorP4
import Derived.Laws.CopyRow
import Derived.SizedLaws
set_option linter.unusedVariables false
set_option linter.unusedSimpArgs false
set_option linter.unusedSectionVars false
namespace Lg
open Go Go.RowKit
variable [GLay]
variable {P : Program} {N : Nat} {e : Env} {σ l : List AO} {Q : QA} {o : Oper}
/-! ### Slices whose capacity is known -/
theorem AVle.capA (p g sz off len cap : Nat) : AVle (.arrC p g sz off len cap) (.arr p g sz off len) := fun s v h => by
  cases h with
  | arrC _ _ _ _ _ _ _ h1 h =>
    refine .arr p g sz off len v h1 ?_
    unfold ArrAt at h ⊢
    cases hσ : s.σ[p]? with
    | none => rw [hσ] at h; exact h.elim
    | some x =>
      rw [hσ] at h
      cases x with
      | arr sz' g0 cs => exact ⟨h.1, fun e => ⟨(h.2 e).1, .inr ⟨cap, (h.2 e).2⟩⟩⟩
      | dead => trivial
      | _ => exact h.elim
theorem PW.anys {s : CS} (vs : List Value) : PW s (List.replicate vs.length .any) vs :=
  ⟨by simp, fun i c v h1 h2 => by
    rw [List.getElem?_replicate] at h1
    split at h1
    · cases h1; exact .any v
    · cases h1⟩
theorem PW.anysN {s : CS} {n : Nat} {vs : List Value} (h : vs.length = n) : PW s (List.replicate n .any) vs := h ▸ PW.anys vs
/-- New cells in a row's middle. -/
theorem splice_list {α : Type} {vs news : List α} {base i L : Nat} (h1 : i + news.length ≤ L) (h2 : base + L ≤ vs.length) :
    ((vs.take (base + i) ++ news ++ vs.drop (base + i + news.length)).drop base).take L = (((vs.drop base).take L).take i ++ news ++ ((vs.drop base).take L).drop (i + news.length)) := by
  apply List.ext_getElem?
  intro j
  simp only [List.getElem?_take, List.getElem?_drop, List.getElem?_append, List.length_append, List.length_take, List.length_drop]
  by_cases c0 : j < L
  · simp only [c0, if_true]
    by_cases c1 : j < i
    · simp only [show base + j < min (base + i) vs.length + news.length by omega, show base + j < min (base + i) vs.length by omega, show base + j < base + i by omega, show j < min i (min L (vs.length - base)) + news.length by omega,
        show j < min i (min L (vs.length - base)) by omega, c1, if_true]
    · by_cases c2 : j < i + news.length
      · simp only [show base + j < min (base + i) vs.length + news.length by omega, show ¬ base + j < min (base + i) vs.length by omega, show j < min i (min L (vs.length - base)) + news.length by omega,
          show ¬ j < min i (min L (vs.length - base)) by omega, if_true, if_false]
        congr 1; omega
      · simp only [show ¬ base + j < min (base + i) vs.length + news.length by omega, show ¬ j < min i (min L (vs.length - base)) + news.length by omega, if_false]
        rw [if_pos (by omega)]
        congr 1; omega
  · simp only [c0, if_false]
    rw [if_neg (by omega), if_neg (by omega)]
theorem PW.splice {s : CS} {cs ds : List AV} {us ws : List Value} (h : PW s cs us) (k : PW s ds ws) (i : Nat) : PW s (cs.take i ++ ds ++ cs.drop (i + ds.length)) (us.take i ++ ws ++ us.drop (i + ws.length)) := by
  rw [k.1]
  exact ((h.take i).append k).append (h.drop _)
/-- A slice of the call's own of all of an array: its capacity is now known, and all its room. -/
theorem AWp_reveal {c : Code} (t p g sz n : Nat) {cs : List AV} (hl : lookO e.l t = some (.arr p g sz 0 n)) (hσ : σ[p]? = some (.arr sz g cs)) (hcs : cs.length = n * sz) (hn : n ≠ 0) (hsz : sz ≠ 0) (ht : t < N)
    (k : ∀ cap, n ≤ cap → AWp P N c (e.put (some t) (.arrC p (g + 1) sz 0 n cap)) (σ.set p (.arr sz (g + 1) (cs ++ List.replicate ((cap - n) * sz) .any))) Q) : AWp P N c e σ Q := fun s0 s a hs gd x he => by
  subst hs
  have hplt : p < s.σ.length := (List.getElem?_eq_some_iff.1 hσ).1
  have hv := he.tmps t
  rw [show e.look t = .arr p g sz 0 n from lookO_eq hl] at hv
  obtain ⟨_, ⟨A, hA, h0⟩ | ⟨cap, hA, hlc, hfit⟩⟩ := hv.inv_arr hσ
  · exact absurd h0 hn
  · rw [Nat.zero_add] at hfit
    have hlive : s.live p := by
      unfold CS.live; rw [hσ]
      show (s.μ p).tot ≠ 0
      have : 0 < cap * sz := Nat.mul_pos (by omega) (Nat.pos_of_ne_zero hsz)
      omega
    obtain ⟨_, vs, T, hb, ht0, h7, h8, hpv⟩ := gd.rep hσ hlive
    have hcn : n * sz + (cap - n) * sz = cap * sz := by rw [← Nat.add_mul]; congr 1; omega
    obtain ⟨s', e1, e2, g', x', hμ⟩ := gd.renew hσ (g' := g + 1) (by omega) (cs' := cs ++ List.replicate ((cap - n) * sz) .any) (s.μ p) (w' := s.w) (Nat.le_refl _) rfl rfl rfl (fun b _ _ => rfl)
      (.inr ⟨.inl ⟨rfl, hlive⟩, vs, T, hb, ht0, h7, by rw [List.length_append, List.length_replicate, hcs]; omega, by
        have h9 := hpv.append (PW.anysN (s := s) (n := (cap - n) * sz) (vs := ((vs.drop (s.μ p).base).drop cs.length).take ((cap - n) * sz)) (by simp; omega))
        rw [List.length_append, List.length_replicate, List.take_add]
        exact h9⟩)
    have hv' : V s' (.arrC p (g + 1) sz 0 n cap) (a.eval (.tmp t)) := by
      rw [hA]
      refine .arrC _ _ _ _ _ _ _ rfl (.mk (cs := cs ++ List.replicate ((cap - n) * sz) .any) (by rw [e1]; simp [hplt]) ⟨rfl, by rw [hμ], hlc, by rw [hμ, Nat.zero_add]; exact hfit⟩)
    have := k cap hlc s0 s' a e1 g' (x.trans x') (by
      have h1 := (he.mono gd x').put (some t) hv' (fun d hd => by cases hd; exact ht)
      rwa [put_self (by rw [he.size]; exact ht)] at h1)
    rwa [e2] at this
theorem op_capC {T E : TypeId} {x : Operand} {p g sz off len cap : Nat} {cs : List AV} {c : Array TypeId} (ho : o.op = .call { callee := .builtin .cap, args := #[x], argTypes := c }) (hc : c[0]? = some T) (hu : P.underlying T = some (.slice E))
    (hx : opO e x = some (.arrC p g sz off len cap)) (hσ : σ[p]? = some (.arr sz g cs)) : AOp P σ e o (.int .i64 cap) σ :=
  .of_run fun s a hs _ hv => by
    subst hs
    have h1 := (opO_eq hx ▸ hv x (by simp [ho, Op.operands, Call.operands])).inv_arrC hσ
    refine ⟨.int .i64 cap, ?_, .int _ _⟩
    simp [execOp, ho, resolve, invoke, builtin, h1.2.1, Builtin.cap_, hc, run_underlying hu, goInt]
/-- 's[l:h]' of a slice whose capacity is known. -/
theorem op_sliceC {T E : TypeId} {x : Operand} {lo hi : Option Operand} {sz p g off len cap : Nat} {cs : List AV} (l h : Int) (ho : o.op = .slice T x lo hi none) (hu : P.underlying T = some (.slice E))
    (hsz : ∀ w, (Go.sizeOf E).run P w = Result.ok sz w) (hx : opO e x = some (.arrC p g sz off len cap)) (hσ : σ[p]? = some (.arr sz g cs))
    (hl : bnd e 0 l lo) (hh : bnd e (len : Nat) h hi) (h0 : 0 ≤ l) (h1 : l ≤ h) (h2 : h ≤ cap) (h3 : l < cap) :
    AOp P σ e o (.arrC p g sz (off + l.toNat) (h.toNat - l.toNat) (cap - l.toNat)) σ :=
  .of_run fun s a hs _ hv => by
    subst hs
    have hxv := (opO_eq hx ▸ hv x (by simp [ho, Op.operands])).inv_arrC hσ
    have hl' := hl.ev (s := s) (a := a) (fun y hy => hv y (by subst hy; simp [ho, Op.operands]))
    have hh' := hh.ev (s := s) (a := a) (fun y hy => hv y (by subst hy; simp [ho, Op.operands]))
    obtain ⟨_, h5, h6, h7⟩ := hxv
    refine ⟨_, by simp only [execOp, ho, h5, Sem.run_bind, Option.map_none]; rw [run_slice_slice (cap := cap) hu hsz hl' hh' h0 h1 h2]; rfl, ?_⟩
    rw [if_neg (by omega)]
    refine .arrC p g sz _ _ _ _ rfl ?_
    unfold ArrAt; rw [hσ]
    refine ⟨Nat.le_refl _, fun _ => ⟨rfl, ?_, by omega, ?_⟩⟩
    · simp only [Option.map_some, add_none]; rw [Nat.add_mul, Nat.add_assoc]
    · rw [show off + l.toNat + (cap - l.toNat) = off + cap by omega]; exact h7
theorem run_copy {w : World} {t u ty E : TypeId} {sz m n dLen cap b off : Nat} {x : Value} {news cur : List Value} {T : TypeId} (ht : P.underlying t = some (.slice E)) (hsz : ∀ w, (Go.sizeOf E).run P w = Result.ok sz w) (hm : (Builtin.lenOf x).run P w = .ok m w) (hn : min m dLen = n)
    (hf : (Builtin.firstCells sz n x).run P w = .ok news.toArray w) (hb : w.heap[b]? = some (.cells cur.toArray T (0, 0))) (hfit : off + news.length ≤ cur.length) (h1 : ∀ v ∈ news, v.oneCell' = true) :
    (Builtin.copy_ #[t, u] ty #[.slice (some ⟨b, off, none⟩) dLen cap, x]).run P w = .ok (.int .i64 n) (w.setRow b (cur.take off ++ news ++ cur.drop (off + news.length)).toArray) := by
  have hst := run_storeCells_at P b off T news 0 cur.toArray w hb (by simpa using hfit) h1
  simp only [Nat.add_zero] at hst
  subst hn
  have e : Nat.min m dLen = min m dLen := rfl
  simp [Builtin.copy_, run_underlying ht, hsz, hm, e, hf, goInt, hst]
/-- What copy reads: n elements. -/
def SrcN (P : Program) (σ : List AO) (y : AV) (sz m n : Nat) (ds : List AV) : Prop :=
  ∀ (s : CS) (c : Value), s.σ = σ → Good s → V s y c → ∃ vs : List Value, PW s ds vs ∧ (Builtin.lenOf c).run P s.w = .ok m s.w ∧ (Builtin.firstCells sz n c).run P s.w = .ok vs.toArray s.w
theorem src_all {y : AV} {sz m : Nat} {ds : List AV} (h : srcv σ y = some (ds, m)) (hz : szv y sz) : SrcN P σ y sz m m ds := fun s c hs g hv => by
  subst hs
  obtain ⟨vs, h1, h2, h3⟩ := hv.src g h hz
  exact ⟨vs, h1, h2, h3 s.w rfl⟩
theorem src_arr {p g sz off len n : Nat} {cs : List AV} (hσ : σ[p]? = some (.arr sz g cs)) (hn : n ≤ len) (hfit : (off + len) * sz ≤ cs.length) : SrcN P σ (.arr p g sz off len) sz len n ((cs.drop (off * sz)).take (n * sz)) := fun s c hs gd hv => by
  subst hs
  have hfl : off * sz + len * sz ≤ cs.length := by rw [← Nat.add_mul]; exact hfit
  have hnl : n * sz ≤ len * sz := Nat.mul_le_mul_right _ hn
  have tk_some : ∀ (k : Nat) (ds : List AV), k ≤ ds.length → tk k ds = some (ds.take k) := by
    intro k
    induction k with
    | zero => intro ds _; simp [tk]
    | succ k ih =>
      intro ds h
      cases ds with
      | nil => simp at h
      | cons d ds => simp only [tk, ih ds (by simpa using h), Option.map_some, List.take_succ_cons]
  have hs1 : srcv s.σ (.arr p g sz off len) = some ((cs.drop (off * sz)).take (len * sz), len) := by
    simp only [srcv, hσ, if_true, tk_some _ _ (show len * sz ≤ (cs.drop (off * sz)).length by rw [List.length_drop]; omega), Option.map_some]
  have hs2 : srcv s.σ (.arr p g sz off n) = some ((cs.drop (off * sz)).take (n * sz), n) := by
    simp only [srcv, hσ, if_true, tk_some _ _ (show n * sz ≤ (cs.drop (off * sz)).length by rw [List.length_drop]; omega), Option.map_some]
  obtain ⟨vs1, _, hl1, _⟩ := V.src (P := P) gd hv hs1 (show szv _ sz from rfl)
  obtain ⟨_, ⟨A, hA, h0⟩ | ⟨cap, hA, hlc, hft⟩⟩ := hv.inv_arr hσ
  · subst h0
    have : n = 0 := by omega
    subst this
    obtain ⟨vs, h1, _, h3⟩ := V.src (P := P) gd hv hs1 (show szv _ sz from rfl)
    exact ⟨vs, h1, hl1, h3 s.w rfl⟩
  · have hv2 : V s (.arr p g sz off n) (.slice (some ⟨(s.μ p).b, (s.μ p).base + off * sz, none⟩) n cap) := by
      refine .arr _ _ _ _ _ _ rfl ?_
      unfold ArrAt; rw [hσ]
      exact ⟨Nat.le_refl _, fun _ => ⟨rfl, .inr ⟨cap, rfl, by omega, hft⟩⟩⟩
    obtain ⟨vs, h1, _, h3⟩ := V.src (P := P) gd hv2 hs2 (show szv _ sz from rfl)
    refine ⟨vs, h1, hl1, ?_⟩
    have h4 := h3 s.w rfl
    rw [hA]
    have e : ∀ q : Nat, Builtin.firstCells sz n (.slice (some ⟨(s.μ p).b, (s.μ p).base + off * sz, none⟩) q cap) = Builtin.firstCells sz n (.slice (some ⟨(s.μ p).b, (s.μ p).base + off * sz, none⟩) n cap) := fun q => rfl
    rw [e]; exact h4
/-- copy into an array of the call's own. -/
theorem op_copyN {x y : Operand} {t u E : TypeId} {sz m n p g off len : Nat} {cs ds : List AV} {yv : AV} (ho : o.op = .call { callee := .builtin .copy, args := #[x, y], argTypes := #[t, u] }) (ht : P.underlying t = some (.slice E)) (hsz : ∀ w, (Go.sizeOf E).run P w = Result.ok sz w)
    (hx : opO e x = some (.arr p g sz off len)) (hσ : σ[p]? = some (.arr sz g cs)) (hlen : 0 < len) (hsz0 : sz ≠ 0) (hfit : (off + len) * sz ≤ cs.length) (hy : opO e y = some yv) (hsrc : SrcN P σ yv sz m n ds) (hn : min m len = n) (hds : ds.length = n * sz) (h1 : ∀ a ∈ ds, a.one = true ∨ a = .any)
    (hone : ∀ (s : CS) vs, PW s ds vs → Good s → s.σ = σ → (∃ c, V s yv c ∧ (Builtin.firstCells sz n c).run P s.w = .ok (List.toArray vs) s.w) → ∀ v ∈ vs, v.oneCell' = true) :
    AOp P σ e o (.int .i64 n) (σ.set p (.arr sz g (cs.take (off * sz) ++ ds ++ cs.drop (off * sz + ds.length)))) := by
  intro s a hs gd hv K Q hk _
  subst hs
  have hxv := (opO_eq hx ▸ hv x (by simp [ho, Op.operands, Call.operands])).inv_arr hσ
  have hyv := opO_eq hy ▸ hv y (by simp [ho, Op.operands, Call.operands])
  obtain ⟨_, ⟨A, hA, h0⟩ | ⟨cap, hA, hlc, hft⟩⟩ := hxv
  · omega
  · have hlive : s.live p := by
      unfold CS.live; rw [hσ]
      show (s.μ p).tot ≠ 0
      have : 0 < (off + cap) * sz := Nat.mul_pos (by omega) (Nat.pos_of_ne_zero hsz0)
      omega
    obtain ⟨_, vs, T, hb, ht0, h7, h8, hpv⟩ := gd.rep hσ hlive
    obtain ⟨ws, hp, hl, hf⟩ := hsrc s _ rfl gd hyv
    have hwl : ws.length = ds.length := hp.1
    have hnl : n * sz ≤ len * sz := Nat.mul_le_mul_right _ (by omega)
    have hfl : off * sz + len * sz ≤ cs.length := by rw [← Nat.add_mul]; exact hfit
    have hrun := run_copy (ty := o.type) (u := u) (dLen := len) (cap := cap) (b := (s.μ p).b) (off := (s.μ p).base + off * sz) (x := a.eval y) (news := ws) (cur := vs) (T := T) ht hsz hl hn hf hb (by omega) (hone s ws hp gd rfl ⟨_, hyv, hf⟩)
    have hsp := splice_list (vs := vs) (news := ws) (base := (s.μ p).base) (i := off * sz) (L := cs.length) (by omega) (by omega)
    have hps := hpv.splice hp (off * sz)
    have hcl : (cs.take (off * sz) ++ ds ++ cs.drop (off * sz + ds.length)).length = cs.length := by
      simp only [List.length_append, List.length_take, List.length_drop]; omega
    obtain ⟨s', e1, e2, g', x', hμ, hok⟩ := gd.setObj hσ hlive (o' := .arr sz g (cs.take (off * sz) ++ ds ++ cs.drop (off * sz + ds.length))) (.arr _ _ _ _ _ (Nat.le_refl _) fun _ => hcl.symm) rfl
      (vs := vs.take ((s.μ p).base + off * sz) ++ ws ++ vs.drop ((s.μ p).base + off * sz + ws.length)) ⟨ht0, by simp only [List.length_append, List.length_take, List.length_drop]; omega, by rw [hcl]; exact h8, by rw [hcl, hsp]; exact hps⟩
    refine wp_value (w' := s'.w) (cv := .int .i64 n) ?_ (hk _ _ s' ⟨rfl, e1⟩ g' x' (.int _ _))
    rw [e2]
    simp only [execOp, ho, resolve, invoke, builtin, Sem.run_bind, Sem.run_pure, Result.andThen_ok, List.map_toArray, List.map_cons, List.map_nil, hA]
    rw [hrun]; rfl
end Lg
namespace Lg
open Go Go.RowKit
variable [GLay]
variable {P : Program} {N : Nat} {e : Env} {σ l : List AO} {Q : QA} {o : Oper}
theorem op_copyA {x y : Operand} {t u E : TypeId} {sz m n p g off len : Nat} {cs ds : List AV} {yv : AV} (ho : o.op = .call { callee := .builtin .copy, args := #[x, y], argTypes := #[t, u] }) (ht : P.underlying t = some (.slice E)) (hsz : ∀ w, (Go.sizeOf E).run P w = Result.ok sz w)
    (hx : opO e x = some (.arr p g sz off len)) (hσ : σ[p]? = some (.arr sz g cs)) (hlen : 0 < len) (hsz0 : sz ≠ 0) (hfit : (off + len) * sz ≤ cs.length) (hy : opO e y = some yv) (hsrc : SrcN P σ yv sz m n ds) (hn : min m len = n) (hds : ds.length = n * sz) (h1 : ones ds = true) :
    AOp P σ e o (.int .i64 n) (σ.set p (.arr sz g (cs.take (off * sz) ++ ds ++ cs.drop (off * sz + ds.length)))) :=
  op_copyN ho ht hsz hx hσ hlen hsz0 hfit hy hsrc hn hds (fun a ha => .inl ((ones_iff _).1 h1 a ha)) (fun s vs hp _ _ _ => one_of_pw hp h1)
/-- append of as many zeros: a slice whose capacity is known, and too small. -/
theorem run_appendZ {w : World} {t u ty E : TypeId} {i : TypeInfo} {z : Value} {A : Option Addr} {sLen sCap k : Nat} {olds : List Value}
    (ht : P.underlying t = some (.slice E)) (hu : P.underlying u = some (.int .i64)) (hi : P.info? E = some i) (hz : i.zero = some z) (hz0 : z.cells.size = i.size)
    (hfo : (Builtin.firstCells i.size sLen (.slice A sLen sCap)).run P w.drew = .ok olds.toArray w.drew)
    (hroom : sCap < sLen + k) (h63 : sLen + k ≤ 9223372036854775807) (hby : (sLen + k) * i.bytes ≤ 140737488355328) :
    ∃ rest : List Value, ∃ cap : Nat, sLen + k ≤ cap ∧ rest.length = (cap - sLen) * z.cells.size ∧ (Builtin.append_ #[t, u] ty #[.slice A sLen sCap, .int .i64 k]).run P w =
      .ok (.slice (some ⟨w.heap.size, 0, none⟩) (sLen + k) cap) (w.drew.alloc (.cells (olds ++ rest).toArray E (0, 0))) := by
  have hn : ¬ (sLen + k ≤ sCap) := by omega
  have hfit := growslice_fits (need := sLen + k) (old := sCap) (bytes := i.bytes) hroom hby
  have hkb : k * i.bytes ≤ 140737488355328 := Nat.le_trans (Nat.mul_le_mul_right _ (by omega)) hby
  have h48' : ¬ (281474976710656 < Builtin.nextslicecap (sLen + k) sCap * i.bytes) := by omega
  have hk63 : k ≤ 9223372036854775807 := by omega
  have hwr : IntKind.i64.wrap (k : Int) = k := wrap64_in (by omega) (by omega)
  have h63' : ¬ (9223372036854775807 < ((sLen : Int) + (k : Int))) := by omega
  have hneg : ¬ ((k : Int) < 0) := by omega
  have hlk : ¬ ((281474976710656 : Int) < (k : Int) * (i.bytes : Int)) := by
    have h0 : ((k * i.bytes : Nat) : Int) ≤ ((140737488355328 : Nat) : Int) := Int.ofNat_le.2 hkb
    rw [Int.natCast_mul] at h0
    generalize (k : Int) * (i.bytes : Int) = q at h0 ⊢
    omega
  have hmax : max (k : Int) 0 = k := by omega
  have hge := grownCap_ge w (sLen + k) sCap E
  refine ⟨((if k * i.size = 0 then #[] else Builtin.zeroCells z.cells k) ++ Builtin.zeroCells z.cells (grownCap w (sLen + k) sCap E - (sLen + k))).toList, grownCap w (sLen + k) sCap E, hge, ?_, ?_⟩
  · rw [Array.length_toList, Array.size_append, size_zeroCells]
    have : (if k * i.size = 0 then (#[] : Array Value) else Builtin.zeroCells z.cells k).size = k * z.cells.size := by
      split
      · rename_i h; rw [hz0, h]; rfl
      · exact size_zeroCells _ _
    rw [this, ← Nat.add_mul]; congr 1; omega
  · simp only [Builtin.append_, List.getElem?_toArray, List.getElem?_cons_zero, List.getElem?_cons_succ]
    by_cases hk0 : k * i.size = 0
    · simp [run_underlying ht, run_underlying hu, Go.sizeOf, typeInfo, zeroValue, hi, hz, hn, h48', asInt, asIntOf, hwr, hmax, hneg, hlk, h63', hk0, Question.forced, hfo, newRow, grownCap]
      congr 2
      apply Array.ext'
      simp
    · simp [run_underlying ht, run_underlying hu, Go.sizeOf, typeInfo, zeroValue, hi, hz, hn, h48', asInt, asIntOf, hwr, hmax, hneg, hlk, h63', hk0, Question.forced, hfo, newRow, grownCap]
      congr 2
      apply Array.ext'
      simp

/-- append of k zeros to a slice of known capacity that is too small: a new array. -/
theorem op_appendZ {x y : Operand} {t u E : TypeId} {i : TypeInfo} {z : Value} {sz p g off len cap k : Nat} {cs : List AV} (ho : o.op = .call { callee := .builtin .append, args := #[x, y], argTypes := #[t, u] })
    (ht : P.underlying t = some (.slice E)) (hu : P.underlying u = some (.int .i64)) (hi : P.info? E = some i) (hz : i.zero = some z) (hsz : i.size = sz) (hzs : z.cells.size = sz)
    (hx : opO e x = some (.arrC p g sz off len cap)) (hσ : σ[p]? = some (.arr sz g cs)) (hsz0 : sz ≠ 0) (hc0 : 0 < cap) (hfit : (off + len) * sz ≤ cs.length) (hy : opO e y = some (.int .i64 k)) (hroom : cap < len + k) (hby : (len + k) * i.bytes ≤ 140737488355328) (h63 : len + k ≤ 9223372036854775807) :
    AOp P σ e o (.arr σ.length 0 sz 0 (len + k)) (σ ++ [.arr sz 0 ((cs.drop (off * sz)).take (len * sz) ++ List.replicate (k * sz) .any)]) := by
  intro s a hs gd hv K Q hk _
  subst hs
  subst hsz
  have hxv := (opO_eq hx ▸ hv x (by simp [ho, Op.operands, Call.operands])).inv_arrC hσ
  have hyv := (opO_eq hy ▸ hv y (by simp [ho, Op.operands, Call.operands])).inv_int
  obtain ⟨_, hA, hlc, hft⟩ := hxv
  have hlive : s.live p := by
    unfold CS.live; rw [hσ]
    show (s.μ p).tot ≠ 0
    have : 0 < (off + cap) * i.size := Nat.mul_pos (by omega) (Nat.pos_of_ne_zero hsz0)
    omega
  obtain ⟨_, vs, T, hb, ht0, h7, h8, hpv⟩ := gd.rep hσ hlive
  have hfl : off * i.size + len * i.size ≤ cs.length := by rw [← Nat.add_mul]; exact hfit
  have hpo := (hpv.drop (off * i.size)).take (len * i.size)
  have hol := hpo.1.trans (show _ = len * i.size by rw [List.length_take, List.length_drop]; omega)
  obtain ⟨rest, cap', hc1, hc2, hrun⟩ := run_appendZ (ty := o.type) (A := some ⟨(s.μ p).b, (s.μ p).base + off * i.size, none⟩) (sLen := len) (sCap := cap) (k := k) (w := s.w) ht hu hi hz (by rw [hzs]) (run_firstCells_some s.w.drew i.size len _ len cap _ hol fun j v hj => by
    rw [add_none]
    rw [List.getElem?_take] at hj
    split at hj
    · rw [List.getElem?_drop, List.getElem?_take] at hj
      split at hj
      · rw [List.getElem?_drop] at hj
        show s.w.cell? _ = _
        rw [cells_get hb, Nat.add_assoc]; exact hj
      · cases hj
    · cases hj) hroom h63 hby
  generalize hol2 : List.take (len * i.size) (List.drop (off * i.size) (List.take cs.length (List.drop (s.μ p).base vs))) = olds at hrun hpo hol
  have hkl : k * i.size ≤ rest.length := by rw [hc2, hzs]; exact Nat.mul_le_mul_right _ (by omega)
  have hL : ((cs.drop (off * i.size)).take (len * i.size) ++ List.replicate (k * i.size) AV.any).length = len * i.size + k * i.size := by simp; omega
  obtain ⟨s', e1, e2, g', x', hμ⟩ := gd.newArr (sz := i.size) (cs := (cs.drop (off * i.size)).take (len * i.size) ++ List.replicate (k * i.size) .any) (vs := olds ++ rest) (by
    rw [hL, ← hol, List.take_length_add_append, hol]
    exact hpo.append (PW.anysN (by rw [List.length_take]; omega))) (by rw [hL, List.length_append, hol]; omega) E (w := s.w.drew) (Below.refl _ _).drew rfl
  refine wp_value (w' := s'.w) (cv := .slice (some ⟨s.w.heap.size, 0, none⟩) (len + k) cap') ?_ (hk _ _ s' ⟨rfl, e1⟩ g' x' ?_)
  · rw [e2]
    simp only [execOp, ho, resolve, invoke, builtin, Sem.run_bind, Sem.run_pure, Result.andThen_ok, List.map_toArray, List.map_cons, List.map_nil, hA, hyv]
    rw [hrun]; rfl
  · refine V.newArr (cs := (cs.drop (off * i.size)).take (len * i.size) ++ List.replicate (k * i.size) .any) (by rw [e1]; simp) hμ hc1 ?_
    rw [List.length_append, hol, hc2, hzs, ← Nat.add_mul]
    exact Nat.mul_le_mul_right _ (by omega)

/-- append in place: a slice of known capacity that has the room. -/
theorem op_appendIn {x y : Operand} {t u E : TypeId} {i : TypeInfo} {z : Value} {d : TypeDesc} {sz p g off len cap m : Nat} {cs ds : List AV} {yv : AV} (ho : o.op = .call { callee := .builtin .append, args := #[x, y], argTypes := #[t, u] })
    (hd : d = .string ∨ ∃ E', d = .slice E') (ht : P.underlying t = some (.slice E)) (hu : P.underlying u = some d) (hi : P.info? E = some i) (hsz : i.size = sz)
    (hx : opO e x = some (.arrC p g sz off len cap)) (hσ : σ[p]? = some (.arr sz g cs)) (hsz0 : sz ≠ 0) (hc0 : 0 < cap) (hy : opO e y = some yv) (hsrc : SrcN P σ yv sz m m ds) (hds : ds.length = m * sz) (h1 : ones ds = true) (hroom : len + m ≤ cap) (hfit : (off + (len + m)) * sz ≤ cs.length) :
    AOp P σ e o (.arrC p g sz off (len + m) cap) (σ.set p (.arr sz g (cs.take (off * sz + len * sz) ++ ds ++ cs.drop (off * sz + len * sz + ds.length)))) := by
  intro s a hs gd hv K Q hk _
  subst hs
  subst hsz
  have hplt : p < s.σ.length := (List.getElem?_eq_some_iff.1 hσ).1
  have hxv := (opO_eq hx ▸ hv x (by simp [ho, Op.operands, Call.operands])).inv_arrC hσ
  have hyv := opO_eq hy ▸ hv y (by simp [ho, Op.operands, Call.operands])
  obtain ⟨_, hA, hlc, hft⟩ := hxv
  have hlive : s.live p := by
    unfold CS.live; rw [hσ]
    show (s.μ p).tot ≠ 0
    have : 0 < (off + cap) * i.size := Nat.mul_pos (by omega) (Nat.pos_of_ne_zero hsz0)
    omega
  obtain ⟨_, vs, T, hb, ht0, h7, h8, hpv⟩ := gd.rep hσ hlive
  obtain ⟨ws, hp, hl, hf⟩ := hsrc s _ rfl gd hyv
  have hwl : ws.length = ds.length := hp.1
  have hfl : off * i.size + len * i.size + m * i.size ≤ cs.length := by rw [Nat.add_assoc, ← Nat.add_mul, ← Nat.add_mul]; exact hfit
  have hrun := run_append_room' (ty := o.type) (b := (s.μ p).b) (off := (s.μ p).base + off * i.size) (sLen := len) (sCap := cap) (x := a.eval y) (news := ws) (cur := vs) (T := T) hd ht hu hi hl hf hroom hb (by omega) (one_of_pw hp h1)
  rw [show (s.μ p).base + off * i.size + len * i.size = (s.μ p).base + (off * i.size + len * i.size) by omega] at hrun
  have hsp := splice_list (vs := vs) (news := ws) (base := (s.μ p).base) (i := off * i.size + len * i.size) (L := cs.length) (by omega) (by omega)
  have hps := hpv.splice hp (off * i.size + len * i.size)
  have hcl : (cs.take (off * i.size + len * i.size) ++ ds ++ cs.drop (off * i.size + len * i.size + ds.length)).length = cs.length := by
    simp only [List.length_append, List.length_take, List.length_drop]; omega
  obtain ⟨s', e1, e2, g', x', hμ, hok⟩ := gd.setObj hσ hlive (o' := .arr i.size g (cs.take (off * i.size + len * i.size) ++ ds ++ cs.drop (off * i.size + len * i.size + ds.length))) (.arr _ _ _ _ _ (Nat.le_refl _) fun _ => hcl.symm) rfl
    (vs := vs.take ((s.μ p).base + (off * i.size + len * i.size)) ++ ws ++ vs.drop ((s.μ p).base + (off * i.size + len * i.size) + ws.length)) ⟨ht0, by simp only [List.length_append, List.length_take, List.length_drop]; omega, by rw [hcl]; exact h8, by rw [hcl, hsp]; exact hps⟩
  refine wp_value (w' := s'.w) (cv := .slice (some ⟨(s.μ p).b, (s.μ p).base + off * i.size, none⟩) (len + m) cap) ?_ (hk _ _ s' ⟨rfl, e1⟩ g' x' ?_)
  · rw [e2]
    simp only [execOp, ho, resolve, invoke, builtin, Sem.run_bind, Sem.run_pure, Result.andThen_ok, List.map_toArray, List.map_cons, List.map_nil, hA]
    rw [hrun]; rfl
  · refine .arrC _ _ _ _ _ _ _ rfl (.mk (cs := cs.take (off * i.size + len * i.size) ++ ds ++ cs.drop (off * i.size + len * i.size + ds.length)) (by rw [e1]; simp [hplt]) ⟨rfl, by rw [hμ], hroom, by rw [hμ]; exact hft⟩)
/-- clear: nothing is known of what is there. -/
theorem op_clearA {x : Operand} {t E : TypeId} {z : Value} {sz p g off len : Nat} {cs : List AV} {c : Array TypeId} (ho : o.op = .call { callee := .builtin .clear, args := #[x], argTypes := c }) (hc : c[0]? = some t) (ht : P.underlying t = some (.slice E)) (hz : ∀ w, (zeroValue E).run P w = Result.ok z w) (hzs : z.cells.size = sz) (hz1 : ∀ v ∈ z.cells.toList, v.oneCell' = true)
    (hx : opO e x = some (.arr p g sz off len)) (hσ : σ[p]? = some (.arr sz g cs)) (hlen : 0 < len) (hsz0 : sz ≠ 0) (hfit : (off + len) * sz ≤ cs.length) :
    AOp P σ e o (.tup []) (σ.set p (.arr sz g (cs.take (off * sz) ++ List.replicate (len * sz) .any ++ cs.drop (off * sz + len * sz)))) := by
  intro s a hs gd hv K Q hk _
  subst hs
  have hxv := (opO_eq hx ▸ hv x (by simp [ho, Op.operands, Call.operands])).inv_arr hσ
  obtain ⟨_, ⟨A, hA, h0⟩ | ⟨cap, hA, hlc, hft⟩⟩ := hxv
  · omega
  · have hlive : s.live p := by
      unfold CS.live; rw [hσ]
      show (s.μ p).tot ≠ 0
      have : 0 < (off + cap) * sz := Nat.mul_pos (by omega) (Nat.pos_of_ne_zero hsz0)
      omega
    obtain ⟨_, vs, T, hb, ht0, h7, h8, hpv⟩ := gd.rep hσ hlive
    have hfl : off * sz + len * sz ≤ cs.length := by rw [← Nat.add_mul]; exact hfit
    have hwl : (Builtin.zeroCells z.cells len).toList.length = len * sz := by rw [Array.length_toList, size_zeroCells, hzs]
    have hw1 : ∀ v ∈ (Builtin.zeroCells z.cells len).toList, v.oneCell' = true := by
      intro v hv
      simp only [Builtin.zeroCells, Array.toList_map, List.mem_map, Array.toList_range, List.mem_range] at hv
      obtain ⟨j, hj, rfl⟩ := hv
      have hj2 : j % z.cells.size < z.cells.size := Nat.mod_lt _ (by rw [hzs]; omega)
      rw [getElem!_pos z.cells (j % z.cells.size) hj2]
      exact hz1 _ (by simp)
    generalize hws : (Builtin.zeroCells z.cells len).toList = ws at hwl hw1
    obtain ⟨q, rfl⟩ : ∃ q, len = q + 1 := ⟨len - 1, by omega⟩
    have hst := run_storeCells_at P (s.μ p).b ((s.μ p).base + off * sz) T ws 0 vs.toArray s.w hb (by simp; omega) hw1
    simp only [Nat.add_zero] at hst
    have hrun : (Builtin.clear_ c o.type #[.slice (some ⟨(s.μ p).b, (s.μ p).base + off * sz, none⟩) (q + 1) cap]).run P s.w = .ok (.tuple #[]) (s.w.setRow (s.μ p).b (vs.take ((s.μ p).base + off * sz) ++ ws ++ vs.drop ((s.μ p).base + off * sz + ws.length)).toArray) := by
      simp [Builtin.clear_, hc, run_underlying ht, hz, hws, hst]
    have hsp := splice_list (vs := vs) (news := ws) (base := (s.μ p).base) (i := off * sz) (L := cs.length) (by omega) (by omega)
    have hps := hpv.splice (PW.anysN (s := s) hwl) (off * sz)
    rw [List.length_replicate] at hps
    have hcl : (cs.take (off * sz) ++ List.replicate ((q + 1) * sz) AV.any ++ cs.drop (off * sz + (q + 1) * sz)).length = cs.length := by
      simp only [List.length_append, List.length_take, List.length_drop, List.length_replicate]; omega
    obtain ⟨s', e1, e2, g', x', hμ, hok⟩ := gd.setObj hσ hlive (o' := .arr sz g (cs.take (off * sz) ++ List.replicate ((q + 1) * sz) AV.any ++ cs.drop (off * sz + (q + 1) * sz))) (.arr _ _ _ _ _ (Nat.le_refl _) fun _ => hcl.symm) rfl
      (vs := vs.take ((s.μ p).base + off * sz) ++ ws ++ vs.drop ((s.μ p).base + off * sz + ws.length)) ⟨ht0, by simp only [List.length_append, List.length_take, List.length_drop]; omega, by rw [hcl]; exact h8, by rw [hcl, hsp]; exact hps⟩
    refine wp_value (w' := s'.w) (cv := .tuple #[]) ?_ (hk _ _ s' ⟨rfl, e1⟩ g' x' (V.tup (s := s') [] [] rfl (fun i c v h _ => by simp at h)))
    rw [e2]
    simp only [execOp, ho, resolve, invoke, builtin, Sem.run_bind, Sem.run_pure, Result.andThen_ok, List.map_toArray, List.map_cons, List.map_nil, hA]
    rw [hrun]; rfl
end Lg
namespace Lg
open Go Go.RowKit
variable [GLay]
variable {P : Program} {N : Nat} {e : Env} {σ l : List AO} {Q : QA} {o : Oper} {p : Nat} {x y z : AO} {f : FuncId} {args : List AV} {v : AV}
/-- A call that answers a pointer to a new box of its own, and writes the caller's object p. -/
theorem callFA {n : Nat} (hn : l.length = n) (hp : p < σ.length) (h : ACalls P f args (σ.set p x ++ l) (Ret (.ptr (σ.set p x ++ l).length 0) ((σ.set p x ++ l).set p y ++ [z]))) :
    ACalls P f args (σ.set p x ++ l) (Ret (.ptr (σ.length + n) 0) (σ.set p y ++ (l ++ [z]))) := by
  rw [List.set_append_left _ _ (by simpa using hp), List.set_set, List.length_append, List.length_set, hn, List.append_assoc] at h
  exact h
theorem AWp_freezeBoxS {c : Code} (t k : Nat) {cs : List AV} (hl : lookO e.l t = some (.ptr (σ.length + k) 0)) (hk : l[k]? = some (.box cs)) (h : AWp P N c (e.put (some t) (.pp cs)) (σ.set p x ++ l.set k .gone) Q) (ht : t < N) : AWp P N c e (σ.set p x ++ l) Q :=
  AWp_freeze t (σ.length + k) 0 hl (by rw [get_ownS]; exact hk) (by rw [set_ownS]; exact h) ht
section
variable {T K E : TypeId} {a b c : Operand} {m : List (Int × AV)} {k : Int} {zv : Value}
theorem op_lookupI2N {q : Nat} (ho : o.op = .lookup T a b true) (hu : P.underlying T = some (.map K E)) (hK : P.underlying K = some (.int .i64)) (hz : ∀ w, (zeroValue E).run P w = Result.ok zv w) (hx : opO e a = some (.mapv q)) (hy : opO e b = some (.int .i64 k))
    (hσ : σ[q]? = some (.map (imap m))) (hn : iget m k = none) : AOp P σ e o (.tup [ofConst zv, .bool false]) σ := by
  have h := op_lookupI2 ho hu hK hz hx hy hσ
  rw [hn] at h; exact h
theorem op_lookupIS {q : Nat} {w : AV} (ho : o.op = .lookup T a b false) (hu : P.underlying T = some (.map K E)) (hK : P.underlying K = some (.int .i64)) (hz : ∀ w, (zeroValue E).run P w = Result.ok zv w) (hx : opO e a = some (.mapv q)) (hy : opO e b = some (.int .i64 k))
    (hσ : σ[q]? = some (.map (imap m))) (hn : (iget m k).map (·.2) = some w) : AOp P σ e o w σ := by
  have h := op_lookupI ho hu hK hz hx hy hσ
  rw [hn] at h; exact h
end
end Lg
namespace Lg
open Go Go.RowKit
variable [GLay]
/-! ### A drawn region with one allocation that isn't ordered with the other effects -/
def PastG (P : Program) (tb : Array Nat) (i : Nat) (e : Env) (o : Oper) (v : AV) : List (Nat × (Bool → List AO)) → Prop
  | [] => True
  | (j, σ) :: r => (befB tb j i = true ∨ ∀ b, AOp P (σ b) e o v (σ b)) ∧ PastG P tb i e o v r
def HeldG (tb : Array Nat) (i : Nat) (σ : Bool → List AO) : List (Nat × (List AO → Prop)) → Prop
  | [] => True
  | (k, p) :: r => (befB tb k i = true ∨ ∀ b, p (σ b)) ∧ HeldG tb i σ r
def ChainG (tb : Array Nat) (i : Nat) : List (Nat × (Bool → List AO)) → Prop
  | [] => True
  | (j, _) :: r => befB tb j i = true ∧ ChainG tb i r
/-- What comes behind all else, in its order. -/
inductive RT (P : Program) (N : Nat) (ops : Array Oper) (tb : Array Nat) (Q : Env → List AO → Prop) : Nat → Env → List AO → Prop
  | nil {i e σ} (hi : i = ops.size) (h : Q e σ) : RT P N ops tb Q i e σ
  | op {i e σ} (o : Oper) (v : AV) (σ' : List AO) (ho : ops[i]? = some o) (hg : GuardA ops N e o true) (hd : ∀ d, o.dst = some d → d < N) (h : AOp P σ e o v σ') (hall : ((List.range i).all fun j => befB tb j i) = true)
      (k : RT P N ops tb Q (i + 1) (e.put o.dst v) σ') : RT P N ops tb Q i e σ
/-- The two heaps: without the new object, and with it, behind. -/
def Twin (B : AO) (L : Nat) (σ : Bool → List AO) : Prop := (σ false).length = L ∧ σ true = σ false ++ [B]
inductive RG (P : Program) (N : Nat) (ops : Array Oper) (tb : Array Nat) (B : AO) (L : Nat) (Q : Env → List AO → Prop) : Nat → Env → (Bool → List AO) → List (Nat × (Bool → List AO)) → List (Nat × (List AO → Prop)) → Prop
  | pure {i e σ past held} (o : Oper) (v : AV) (ho : ops[i]? = some o) (hg : GuardA ops N e o true) (hd : ∀ d, o.dst = some d → d < N) (h : ∀ b, AOp P (σ b) e o v (σ b)) (hp : PastG P tb i e o v past)
      (k : RG P N ops tb B L Q (i + 1) (e.put o.dst v) σ past ((i, fun σ' => AOp P σ' e o v σ') :: held)) : RG P N ops tb B L Q i e σ past held
  | eff {i e σ past held} (o : Oper) (v : AV) (σ' : Bool → List AO) (ho : ops[i]? = some o) (hg : GuardA ops N e o true) (hd : ∀ d, o.dst = some d → d < N) (h : ∀ b, AOp P (σ b) e o v (σ' b)) (ht : Twin B L σ') (hh : HeldG tb i σ' held) (hc : ChainG tb i past)
      (k : RG P N ops tb B L Q (i + 1) (e.put o.dst v) σ' ((i, σ) :: past) held) : RG P N ops tb B L Q i e σ past held
  | flt {i e σ past held} (o : Oper) (ho : ops[i]? = some o) (hg : GuardA ops N e o true) (hd : ∀ d, o.dst = some d → d < N) (h : ∀ τ : List AO, τ.length = L → AOp P τ e o (.ptr L 0) (τ ++ [B]))
      (k : RT P N ops tb Q (i + 1) (e.put o.dst (.ptr L 0)) (σ true)) : RG P N ops tb B L Q i e σ past held
structure TrG (P : Program) (N : Nat) (ops : Array Oper) (tb : Array Nat) (B : AO) (L : Nat) (Q : Env → List AO → Prop) (i0 f : Nat) (E : Nat → Env) (H : Bool → Nat → List AO) (val : Nat → AV) (kd : Nat → Kd) : Prop where
  le : i0 ≤ f
  fl : f < ops.size
  twin : ∀ i, i0 ≤ i → i ≤ f → Twin B L fun b => H b i
  pre : ∀ i, i0 ≤ i → i < f → ∃ o, ops[i]? = some o ∧ (∀ d, o.dst = some d → d < N) ∧ E (i + 1) = (E i).put o.dst (val i) ∧ GuardA ops N (E i) o true ∧
    ((kd i = .pure ∧ (∀ b, AOp P (H b i) (E i) o (val i) (H b i) ∧ H b (i + 1) = H b i) ∧
      (∀ j, i0 ≤ j → j < i → kd j = .eff → befB tb j i = true ∨ ∀ b, AOp P (H b j) (E i) o (val i) (H b j)) ∧
      (∀ j, i < j → j < f → kd j = .eff → befB tb i j = true ∨ ∀ b, AOp P (H b (j + 1)) (E i) o (val i) (H b (j + 1)))) ∨
    (kd i = .eff ∧ (∀ b, AOp P (H b i) (E i) o (val i) (H b (i + 1))) ∧ (∀ j, i0 ≤ j → j < i → kd j = .eff → befB tb j i = true)))
  flt : ∃ o, ops[f]? = some o ∧ (∀ d, o.dst = some d → d < N) ∧ E (f + 1) = (E f).put o.dst (val f) ∧ GuardA ops N (E f) o true ∧ kd f = .skip ∧ (∀ b, H b (f + 1) = H b f) ∧
    ∀ τ : List AO, τ.length = L → AOp P τ (E f) o (val f) (τ ++ [B])
  tail : ∀ i, f < i → i < ops.size → ∃ o, ops[i]? = some o ∧ (∀ d, o.dst = some d → d < N) ∧ E (i + 1) = (E i).put o.dst (val i) ∧ GuardA ops N (E i) o true ∧ kd i = .eff ∧
    AOp P (H true i) (E i) o (val i) (H true (i + 1)) ∧ ∀ j, j < i → befB tb j i = true
  fin : Q (E ops.size) (H true ops.size)
section rp
variable {P : Program} {N : Nat} {ops : Array Oper} {tb : Array Nat} {Q : Env → List AO → Prop} {B : AO} {L : Nat}
theorem PastG.mem {i : Nat} {e : Env} {o : Oper} {v : AV} : ∀ {past : List (Nat × (Bool → List AO))}, PastG P tb i e o v past → ∀ q ∈ past, befB tb q.1 i = true ∨ ∀ b, AOp P (q.2 b) e o v (q.2 b)
  | [], _, q, h => by simp at h
  | (j, σ) :: r, ⟨h1, h2⟩, q, h => by
    rcases List.mem_cons.1 h with rfl | h
    · exact h1
    · exact PastG.mem h2 q h
theorem HeldG.mem {i : Nat} {σ : Bool → List AO} : ∀ {held : List (Nat × (List AO → Prop))}, HeldG tb i σ held → ∀ q ∈ held, befB tb q.1 i = true ∨ ∀ b, q.2 (σ b)
  | [], _, q, h => by simp at h
  | (j, p) :: r, ⟨h1, h2⟩, q, h => by
    rcases List.mem_cons.1 h with rfl | h
    · exact h1
    · exact HeldG.mem h2 q h
theorem ChainG.mem {i : Nat} : ∀ {past : List (Nat × (Bool → List AO))}, ChainG tb i past → ∀ q ∈ past, befB tb q.1 i = true
  | [], _, q, h => by simp at h
  | (j, σ) :: r, ⟨h1, h2⟩, q, h => by
    rcases List.mem_cons.1 h with rfl | h
    · exact h1
    · exact ChainG.mem h2 q h
theorem RT.trace {i : Nat} {e : Env} {σ : List AO} (h : RT P N ops tb Q i e σ) (hi : i ≤ ops.size) :
    ∃ (E : Nat → Env) (H : Nat → List AO) (val : Nat → AV), E i = e ∧ H i = σ ∧ (∀ j, i ≤ j → j < ops.size → ∃ o, ops[j]? = some o ∧ (∀ d, o.dst = some d → d < N) ∧ E (j + 1) = (E j).put o.dst (val j) ∧ GuardA ops N (E j) o true ∧
      AOp P (H j) (E j) o (val j) (H (j + 1)) ∧ ∀ k, k < j → befB tb k j = true) ∧ Q (E ops.size) (H ops.size) := by
  induction h with
  | nil hi' h =>
    rename_i i e σ
    exact ⟨fun _ => e, fun _ => σ, fun _ => .any, rfl, rfl, fun j h1 h2 => by omega, h⟩
  | op o v σ' ho hg hd h hall k ih =>
    rename_i i e σ
    have hlt : i < ops.size := (Array.getElem?_eq_some_iff.1 ho).1
    obtain ⟨E, H, val, hE, hH, hs, hQ⟩ := ih (by omega)
    refine ⟨fun j => if j = i then e else E j, fun j => if j = i then σ else H j, fun j => if j = i then v else val j, if_pos rfl, if_pos rfl, fun j h1 h2 => ?_, ?_⟩
    · by_cases hji : j = i
      · subst hji
        refine ⟨o, ho, hd, ?_, by simpa using hg, ?_, fun k hk => List.all_eq_true.1 hall k (List.mem_range.2 hk)⟩
        · simp [hE]
        · simp only [if_true, if_neg (show j + 1 ≠ j by omega), hH]; exact h
      · simp only [if_neg hji, if_neg (show j + 1 ≠ i by omega)]; exact hs j (by omega) h2
    · simp only [if_neg (show ops.size ≠ i by omega)]; exact hQ
theorem RG.trace {i : Nat} {e : Env} {σ : Bool → List AO} {past : List (Nat × (Bool → List AO))} {held : List (Nat × (List AO → Prop))} (h : RG P N ops tb B L Q i e σ past held) (htw : Twin B L σ) :
    ∃ f E H val kd, E i = e ∧ (∀ b, H b i = σ b) ∧ TrG P N ops tb B L Q i f E H val kd ∧
      (∀ j, i ≤ j → j < f → kd j = .pure → ∀ q ∈ past, ∃ o, ops[j]? = some o ∧ (befB tb q.1 j = true ∨ ∀ b, AOp P (q.2 b) (E j) o (val j) (q.2 b))) ∧
      (∀ j, i ≤ j → j < f → kd j = .eff → (∀ q ∈ held, befB tb q.1 j = true ∨ ∀ b, q.2 (H b (j + 1))) ∧ ∀ q ∈ past, befB tb q.1 j = true) := by
  induction h with
  | flt o ho hg hd h k =>
    rename_i i e σ past held
    have hlt : i < ops.size := (Array.getElem?_eq_some_iff.1 ho).1
    obtain ⟨E, H, val, hE, hH, hs, hQ⟩ := k.trace (by omega)
    refine ⟨i, fun j => if j = i then e else E j, fun b j => if j ≤ i + 1 then σ b else H j, fun j => if j = i then .ptr L 0 else val j, fun j => if j = i then .skip else .eff, if_pos rfl, fun b => if_pos (by omega), ⟨Nat.le_refl _, hlt, fun j h1 h2 => ?_, fun j h1 h2 => by omega, ⟨o, ho, hd, ?_, by simpa using hg, if_pos rfl, fun b => ?_, fun τ hτ => ?_⟩, fun j h1 h2 => ?_, ?_⟩, fun j h1 h2 => by omega, fun j h1 h2 => by omega⟩
    · simp only [if_pos (show j ≤ i + 1 by omega)]; exact htw
    · simp [hE]
    · simp
    · simp only [if_true]; exact h τ hτ
    · obtain ⟨o', a1, a2, a3, a4, a5, a6⟩ := hs j (by omega) h2
      refine ⟨o', a1, a2, ?_, ?_, ?_, ?_, a6⟩
      · simp only [if_neg (show j ≠ i by omega), if_neg (show j + 1 ≠ i by omega)]; exact a3
      · simp only [if_neg (show j ≠ i by omega)]; exact a4
      · simp only [if_neg (show j ≠ i by omega)]
      · simp only [if_neg (show j ≠ i by omega), if_neg (show ¬ j + 1 ≤ i + 1 by omega)]
        by_cases hj : j ≤ i + 1
        · have : j = i + 1 := by omega
          subst this
          simp only [Nat.le_refl, if_true]; rw [← hH]; exact a5
        · simp only [if_neg hj]; exact a5
    · simp only [if_neg (show ops.size ≠ i by omega)]
      by_cases hj : ops.size ≤ i + 1
      · simp only [if_pos hj]; have : ops.size = i + 1 := by omega
        rw [this] at hQ ⊢; rw [← hH]; exact hQ
      · simp only [if_neg hj]; exact hQ
  | pure o v ho hg hd h hp k ih =>
    rename_i i e σ past held
    obtain ⟨f, E, H, val, kd, hE, hH, ht, h1, h2⟩ := ih htw
    have hif := ht.le
    refine ⟨f, fun j => if j = i then e else E j, fun b j => if j = i then σ b else H b j, fun j => if j = i then v else val j, fun j => if j = i then .pure else kd j, if_pos rfl, fun b => if_pos rfl, ⟨by omega, ht.fl, fun j h3 h4 => ?_, fun j hj1 hj2 => ?_, ?_, fun j h3 h4 => ?_, ?_⟩, fun j hj1 hj2 hk q hq => ?_, fun j hj1 hj2 hk => ?_⟩
    · by_cases hji : j = i
      · simp only [if_pos hji]; exact htw
      · simp only [if_neg hji]; exact ht.twin j (by omega) h4
    · by_cases hji : j = i
      · subst hji
        refine ⟨o, ho, hd, by simp [hE], by simpa using hg, .inl ⟨by simp, fun b => ⟨by simpa using h b, by simp [hH]⟩, fun j' h4 h5 => by omega, fun j' h4 h5 hk => ?_⟩⟩
        simp only [if_neg (show j' ≠ j by omega), if_neg (show j' + 1 ≠ j by omega)] at hk ⊢
        simp only [if_true]
        exact (h2 j' (by omega) h5 hk).1 (j, fun σ' => AOp P σ' e o v σ') (by simp)
      · obtain ⟨o', ho', hd', hE', hg', hc⟩ := ht.pre j (by omega) hj2
        simp only [if_neg hji, if_neg (show j + 1 ≠ i by omega)]
        refine ⟨o', ho', hd', hE', hg', ?_⟩
        rcases hc with ⟨a0, a1, a4, a5⟩ | ⟨a0, a1, a3⟩
        · refine .inl ⟨a0, a1, fun j' h4 h5 hk' => ?_, fun j' h4 h5 hk' => ?_⟩
          · by_cases hj' : j' = i
            · subst hj'; simp at hk'
            · simp only [if_neg hj'] at hk' ⊢; exact a4 j' (by omega) h5 hk'
          · simp only [if_neg (show j' ≠ i by omega), if_neg (show j' + 1 ≠ i by omega)] at hk' ⊢; exact a5 j' h4 h5 hk'
        · refine .inr ⟨a0, a1, fun j' h4 h5 hk' => ?_⟩
          by_cases hj' : j' = i
          · subst hj'; simp at hk'
          · simp only [if_neg hj'] at hk'; exact a3 j' (by omega) h5 hk'
    · have := ht.flt; simpa only [if_neg (show f ≠ i by omega), if_neg (show f + 1 ≠ i by omega)] using this
    · have := ht.tail j h3 h4; simpa only [if_neg (show j ≠ i by omega), if_neg (show j + 1 ≠ i by omega)] using this
    · have := ht.fin; have h9 := ht.fl; simpa only [if_neg (show ops.size ≠ i by omega)] using this
    · by_cases hji : j = i
      · subst hji; exact ⟨o, ho, by simp only [if_true]; exact hp.mem q hq⟩
      · simp only [if_neg hji] at hk ⊢; exact h1 j (by omega) hj2 hk q hq
    · by_cases hji : j = i
      · subst hji; simp at hk
      · simp only [if_neg hji, if_neg (show j + 1 ≠ i by omega)] at hk ⊢
        obtain ⟨b1, b2⟩ := h2 j (by omega) hj2 hk
        exact ⟨fun q hq => b1 q (List.mem_cons_of_mem _ hq), b2⟩
  | eff o v σ' ho hg hd h htw' hh hc k ih =>
    rename_i i e σ past held
    obtain ⟨f, E, H, val, kd, hE, hH, ht, h1, h2⟩ := ih htw'
    have hif := ht.le
    refine ⟨f, fun j => if j = i then e else E j, fun b j => if j = i then σ b else H b j, fun j => if j = i then v else val j, fun j => if j = i then .eff else kd j, if_pos rfl, fun b => if_pos rfl, ⟨by omega, ht.fl, fun j h3 h4 => ?_, fun j hj1 hj2 => ?_, ?_, fun j h3 h4 => ?_, ?_⟩, fun j hj1 hj2 hk q hq => ?_, fun j hj1 hj2 hk => ?_⟩
    · by_cases hji : j = i
      · simp only [if_pos hji]; exact htw
      · simp only [if_neg hji]; exact ht.twin j (by omega) h4
    · by_cases hji : j = i
      · subst hji
        refine ⟨o, ho, hd, by simp [hE], by simpa using hg, .inr ⟨by simp, fun b => ?_, fun j' h4 h5 => by omega⟩⟩
        simp only [if_true, if_neg (show j + 1 ≠ j by omega), hH]; exact h b
      · obtain ⟨o', ho', hd', hE', hg', hc'⟩ := ht.pre j (by omega) hj2
        simp only [if_neg hji, if_neg (show j + 1 ≠ i by omega)]
        refine ⟨o', ho', hd', hE', hg', ?_⟩
        rcases hc' with ⟨a0, a1, a4, a5⟩ | ⟨a0, a1, a3⟩
        · refine .inl ⟨a0, a1, fun j' h4 h5 hk' => ?_, fun j' h4 h5 hk' => ?_⟩
          · by_cases hj' : j' = i
            · subst hj'
              obtain ⟨o2, ho2, hx⟩ := h1 j (by omega) hj2 a0 (j', σ) (by simp)
              rw [ho'] at ho2; cases ho2
              simp only [if_true]; exact hx
            · simp only [if_neg hj'] at hk' ⊢; exact a4 j' (by omega) h5 hk'
          · simp only [if_neg (show j' ≠ i by omega), if_neg (show j' + 1 ≠ i by omega)] at hk' ⊢; exact a5 j' h4 h5 hk'
        · refine .inr ⟨a0, a1, fun j' h4 h5 hk' => ?_⟩
          by_cases hj' : j' = i
          · subst hj'; exact (h2 j (by omega) hj2 a0).2 (j', σ) (by simp)
          · simp only [if_neg hj'] at hk'; exact a3 j' (by omega) h5 hk'
    · have := ht.flt; simpa only [if_neg (show f ≠ i by omega), if_neg (show f + 1 ≠ i by omega)] using this
    · have := ht.tail j h3 h4; simpa only [if_neg (show j ≠ i by omega), if_neg (show j + 1 ≠ i by omega)] using this
    · have := ht.fin; have h9 := ht.fl; simpa only [if_neg (show ops.size ≠ i by omega)] using this
    · by_cases hji : j = i
      · subst hji; simp at hk
      · simp only [if_neg hji] at hk ⊢; exact h1 j (by omega) hj2 hk q (List.mem_cons_of_mem _ hq)
    · by_cases hji : j = i
      · subst hji
        exact ⟨fun q hq => by simp only [if_neg (show j + 1 ≠ j by omega), hH]; exact hh.mem q hq, hc.mem⟩
      · simp only [if_neg hji, if_neg (show j + 1 ≠ i by omega)] at hk ⊢
        obtain ⟨b1, b2⟩ := h2 j (by omega) hj2 hk
        exact ⟨b1, fun q hq => b2 q (List.mem_cons_of_mem _ hq)⟩
end rp
end Lg
namespace Lg
open Go Go.RowKit
variable [GLay]
section sound
variable {P : Program} {N : Nat} {ops : Array Oper} {tb : Array Nat} {Q : Env → List AO → Prop} {B : AO} {L : Nat}
structure InvG (ops : Array Oper) (N f : Nat) (E : Nat → Env) (H : Bool → Nat → List AO) (val : Nat → AV) (kd : Nat → Kd) (s0 : CS) (listed : Array Bool) (a : Act) (w : World) : Prop where
  size : listed.size = ops.size
  dn : ∀ j o, ops[j]? = some o → listed.getD j false = true → ∀ ed ∈ o.after.toList, Region.binds .any ed = true → listed.getD ed.on false = true
  st : ∃ s q, s.w = w ∧ Good s ∧ Ext s0 s ∧ q ≤ ops.size ∧ (∀ j, j < q → kd j = .eff → listed.getD j false = true) ∧ (q < ops.size → kd q = .eff ∧ listed.getD q false = false) ∧ s.σ = H (listed.getD f false) q ∧
    a.tmps.size = N ∧ DefOK s (E 0).D a.defers ∧ ∀ t, V s (preA ops (E 0) val (fun j => listed.getD j false) ops.size t) (a.eval (.tmp t))
theorem InvG.way {f : Nat} {E : Nat → Env} {H : Bool → Nat → List AO} {val : Nat → AV} {kd : Nat → Kd} {s0 : CS} {listed : Array Bool} {a : Act} {w : World} (c : Chk ops tb) (h : InvG ops N f E H val kd s0 listed a w) :
    ∀ (j : Nat) (o : Oper), ops[j]? = some o → (∀ ed ∈ o.after.toList, Region.binds .any ed = true → listed.getD ed.on false = true) → ∀ i, i < ops.size → befB tb i j = true → listed.getD i false = true := by
  intro j
  induction j using Nat.strongRecOn with
  | _ j ih =>
    intro o ho hdeps i hi hb
    obtain ⟨ed, hed, hbd, h1⟩ := c.way i j o ho hi hb
    have hon := hdeps ed hed hbd
    rcases h1 with h1 | h1
    · rw [← h1]; exact hon
    · have hlt := (c.edge j o ho ed hed hbd).1
      have hjn : ed.on < ops.size := by have := (Array.getElem?_eq_some_iff.1 ho).1; omega
      have ho' := Array.getElem?_eq_getElem hjn
      exact ih ed.on hlt _ ho' (h.dn ed.on _ ho' hon) i hi h1
/-- The plan at one place: what all steps have. -/
theorem TrG.step {i0 f : Nat} {E : Nat → Env} {H : Bool → Nat → List AO} {val : Nat → AV} {kd : Nat → Kd} (ht : TrG P N ops tb B L Q i0 f E H val kd) : ∀ i, i0 ≤ i → i < ops.size → ∃ o, ops[i]? = some o ∧ (∀ d, o.dst = some d → d < N) ∧ E (i + 1) = (E i).put o.dst (val i) ∧ GuardA ops N (E i) o true := fun i h0 hi => by
  rcases Nat.lt_trichotomy i f with h | h | h
  · obtain ⟨o, a1, a2, a3, a4, _⟩ := ht.pre i h0 h; exact ⟨o, a1, a2, a3, a4⟩
  · subst h; obtain ⟨o, a1, a2, a3, a4, _⟩ := ht.flt; exact ⟨o, a1, a2, a3, a4⟩
  · obtain ⟨o, a1, a2, a3, a4, _⟩ := ht.tail i h hi; exact ⟨o, a1, a2, a3, a4⟩
theorem TrG.hconst {i0 f : Nat} {E : Nat → Env} {H : Bool → Nat → List AO} {val : Nat → AV} {kd : Nat → Kd} (ht : TrG P N ops tb B L Q i0 f E H val kd) (z : Bool) : ∀ (b a : Nat), i0 ≤ a → a ≤ b → b ≤ ops.size → (∀ j, a ≤ j → j < b → kd j ≠ .eff) → H z a = H z b
  | 0, a, _, h, _, _ => by have : a = 0 := by omega
                           subst this; rfl
  | b + 1, a, h0, h, hb, hk => by
    by_cases e : a = b + 1
    · subst e; rfl
    · have ih := ht.hconst z b a h0 (by omega) (by omega) (fun j h1 h2 => hk j h1 (by omega))
      have hkb := hk b (by omega) (by omega)
      have : H z (b + 1) = H z b := by
        rcases Nat.lt_trichotomy b f with h1 | h1 | h1
        · obtain ⟨o, _, _, _, _, hc⟩ := ht.pre b (by omega) h1
          rcases hc with ⟨_, h2, _⟩ | ⟨h2, _⟩
          · exact (h2 z).2
          · exact absurd h2 hkb
        · subst h1
          obtain ⟨o, _, _, _, _, _, h2, _⟩ := ht.flt
          exact h2 z
        · obtain ⟨o, _, _, _, _, h2, _⟩ := ht.tail b h1 (by omega)
          exact absurd h2 hkb
      rw [ih, this]
theorem rg_sound {f : Nat} {E : Nat → Env} {H : Bool → Nat → List AO} {val : Nat → AV} {kd : Nat → Kd} {s0 : CS} {QA' : QA} (c : Chk ops tb) (ht : TrG P N ops tb B L Q 0 f E H val kd)
    (hQ : ∀ e σ, Q e σ → QA' .normal e σ) :
    ∀ (fuel : Nat) (listed : Array Bool) (a : Act) (w : World), InvG ops N f E H val kd s0 listed a w → (List.range ops.size).countP (fun i => !listed.getD i false) ≤ fuel →
      wpAny P .any ops (Post s0 N QA') fuel listed a w := by
  -- what the plan says of the slots
  have hlook : ∀ i, i ≤ ops.size → ∀ t, (E i).look t = preA ops (E 0) val (fun _ => true) i t := by
    intro i
    induction i with
    | zero => intro _ t; simp [preA, lw]
    | succ i ih =>
      intro hi t
      obtain ⟨o, ho, _, hE, _⟩ := ht.step i (Nat.zero_le _) (by omega)
      rw [hE, put_look, ih (by omega) t]
      have hd : dstOf ops i = o.dst := by simp [dstOf, ho]
      simp only [preA, lw, hd, true_and]
      by_cases e : o.dst = some t
      · simp [e]
      · simp [e]
  have hD : ∀ i, i ≤ ops.size → (E i).D = (E 0).D := by
    intro i
    induction i with
    | zero => intro _; rfl
    | succ i ih =>
      intro hi
      obtain ⟨o, ho, _, hE, _⟩ := ht.step i (Nat.zero_le _) (by omega)
      rw [hE, put_D, ih (by omega)]
  have hend : ∀ {listed : Array Bool} {a : Act} {w : World}, InvG ops N f E H val kd s0 listed a w → (∀ i, i < ops.size → listed.getD i false = true) → Post s0 N QA' .normal a w := by
    intro listed a w inv hall
    obtain ⟨s, q, hw, g, x, hq, hq1, hq2, hσ, hN, hdf, hV⟩ := inv.st
    have hqm : q = ops.size := by
      rcases Nat.lt_or_ge q ops.size with h | h
      · have h1 := (hq2 h).2
        rw [hall q (by omega)] at h1; cases h1
      · omega
    subst hqm
    rw [hall f ht.fl] at hσ
    refine ⟨s, hw, g, x, E ops.size, ⟨hN, by rw [hD ops.size (Nat.le_refl _)]; exact hdf, fun t => ?_⟩, hQ _ _ (by rw [hσ]; exact ht.fin)⟩
    rw [hlook ops.size (Nat.le_refl _) t]
    have h1 := hV t
    have h2 : lw ops (fun j => listed.getD j false) t ops.size = lw ops (fun _ => true) t ops.size := lw_congr fun j hj _ => hall j hj
    unfold preA at h1 ⊢
    rw [h2] at h1
    exact h1
  have hallOf : ∀ {listed : Array Bool} {a : Act} {w : World}, InvG ops N f E H val kd s0 listed a w → Region.ready .any ops listed = [] → ∀ i, i < ops.size → listed.getD i false = true := by
    intro listed a w inv hr i
    induction i using Nat.strongRecOn with
    | _ i ih =>
      intro hi
      cases hl : listed.getD i false with
      | true => rfl
      | false =>
        have ho := Array.getElem?_eq_getElem hi
        have : i ∈ Region.ready .any ops listed := (ready_iff inv.size).2 ⟨_, ho, hl, fun ed hed hb => by
          have h1 := (c.edge i _ ho ed hed hb).1
          exact ih ed.on h1 (by omega)⟩
        rw [hr] at this; cases this
  intro fuel
  induction fuel with
  | zero =>
    intro listed a w inv hc
    have hall : ∀ i, i < ops.size → listed.getD i false = true := fun i hi => by
      have h0 : (List.range ops.size).countP (fun i => !listed.getD i false) = 0 := by omega
      have := List.countP_eq_zero.1 h0 i (List.mem_range.2 hi)
      simpa using this
    refine ⟨?_, hend inv hall⟩
    cases hr : Region.ready .any ops listed with
    | nil => rfl
    | cons i r =>
      have : i ∈ Region.ready .any ops listed := by rw [hr]; simp
      obtain ⟨o, ho, h1, _⟩ := (ready_iff inv.size).1 this
      rw [hall i (Array.getElem?_eq_some_iff.1 ho).1] at h1; cases h1
  | succ fuel ih =>
    intro listed a w inv hc
    refine ⟨fun hr => hend inv (hallOf inv hr), fun i hi => ?_⟩
    obtain ⟨o, ho, hnl, hdeps⟩ := (ready_iff inv.size).1 hi
    have hin : i < ops.size := (Array.getElem?_eq_some_iff.1 ho).1
    have hway := inv.way c i o ho hdeps
    obtain ⟨s, q, hw, g, x, hq, hq1, hq2, hσ, hN, hdf, hV⟩ := inv.st
    subst hw
    have hdsti : dstOf ops i = o.dst := by simp [dstOf, ho]
    have him : i ≤ ops.size := Nat.le_of_lt hin
    -- what i looks at is as the plan has it
    have hpre : ∀ t, (t ∈ readsOf ops o) → V s ((E i).look t) (a.eval (.tmp t)) := fun t hmem => by
      rw [hlook i him t]
      have h1 := hV t
      have h2 : lw ops (fun j => listed.getD j false) t ops.size = lw ops (fun _ => true) t i := by
        rw [lw_cut (i := i) (by omega) fun j h3 h4 hd => ?_]
        · refine lw_congr fun j hj hd => ?_
          exact hway j (by omega) ((c.rd i j t o ho hd (by omega) hmem).1 hj)
        · cases hl : listed.getD j false with
          | false => rfl
          | true =>
            by_cases e : j = i
            · subst e; rw [hnl] at hl; cases hl
            · have hb := (c.rd i j t o ho hd e hmem).2 (by omega)
              have hoj := Array.getElem?_eq_getElem h4
              have := inv.way c j _ hoj (inv.dn j _ hoj hl) i hin hb
              rw [hnl] at this; cases this
      unfold preA at h1 ⊢
      rw [h2] at h1
      exact h1
    have hops : ∀ y ∈ o.op.operands, V s (opv (E i) y) (a.eval y) := fun y hy => by
      cases y with
      | tmp t =>
        refine hpre t ?_
        unfold readsOf
        refine List.mem_append_left _ (List.mem_filterMap.2 ⟨.tmp t, Array.mem_toList_iff.2 hy, rfl⟩)
      | const v => exact V_ofConst s v
      | global gg => exact .any _
      | func f => exact V.func (s := s) (.func f) [] [] [] [] rfl rfl (fun i a v h => by simp at h) (fun i a v h => by simp at h)
    have hguard : ∀ t, GuardA ops N (E i) o t → Region.wanted o (yielded ops a.tmps) = t := fun t hg => by
      unfold GuardA at hg
      unfold Region.wanted
      cases hgd : o.guard with
      | none => rw [hgd] at hg; simp [hg]
      | some jw =>
        obtain ⟨j, want⟩ := jw
        rw [hgd] at hg
        obtain ⟨d, hd1, hd2, hd3⟩ := hg
        have hmem : d ∈ readsOf ops o := by
          unfold readsOf
          refine List.mem_append_right _ ?_
          rw [hgd]
          simp [hd1]
        have hlt : d < a.tmps.size := by rw [hN]; exact hd2
        rcases hd3 with hd3 | ⟨ht, hd3⟩
        rotate_left
        · subst ht
          have h1 := (hd3 ▸ hpre d hmem).inv_undef
          simp only [Act.eval] at h1
          have h3 : a.tmps[d]? = some undef := by
            rw [Array.getD_eq_getD_getElem?, Array.getElem?_eq_getElem hlt] at h1
            rw [Array.getElem?_eq_getElem hlt]
            simpa using h1
          simp only [yielded, hd1, Option.bind_some, h3]
          simp [undef]
        have h1 := (hd3 ▸ hpre d hmem).inv_bool
        simp only [Act.eval] at h1
        have h3 : a.tmps[d]? = some (.bool (if t = true then want else !want)) := by
          rw [Array.getD_eq_getD_getElem?, Array.getElem?_eq_getElem hlt] at h1
          rw [Array.getElem?_eq_getElem hlt]
          simpa using h1
        simp only [yielded, hd1, Option.bind_some, h3]
        cases t <;> cases want <;> simp
    have hcount : (List.range ops.size).countP (fun j => !(listed.setIfInBounds i true).getD j false) ≤ fuel := by
      have hsz : i < listed.size := by rw [inv.size]; exact hin
      have := count_drop (p := fun j => !listed.getD j false) (q := fun j => !(listed.setIfInBounds i true).getD j false) (i := i) (l := List.range ops.size) List.nodup_range (List.mem_range.2 hin)
        (by simp only [hnl]; rfl) (by simp only [set_get _ _ hsz]; simp) (fun j hj => by simp only [set_get _ _ hsz]; simp [hj])
      omega
    have hsz : i < listed.size := by rw [inv.size]; exact hin
    -- behind the step
    have hnext : ∀ {s' : CS} {cv : Value} {q' : Nat}, (∀ d, o.dst = some d → d < N) → Good s' → Ext s s' → V s' (val i) cv → q' ≤ ops.size → (∀ j, j < q' → kd j = .eff → j = i ∨ listed.getD j false = true) →
        (q' < ops.size → kd q' = .eff ∧ q' ≠ i ∧ listed.getD q' false = false) → s'.σ = H ((listed.setIfInBounds i true).getD f false) q' → InvG ops N f E H val kd s0 (listed.setIfInBounds i true) (a.put o.dst cv) s'.w := by
      intro s' cv q' hdN g' x' hv hq' hb1 hb2 hσ'
      refine ⟨by simp [inv.size], fun j oj hoj hl ed hed hb => ?_, s', q', rfl, g', x.trans x', hq', fun j h1 h2 => ?_, fun h1 => ?_, hσ', ?_, ?_, fun t => ?_⟩
      · rw [set_get _ _ hsz] at hl ⊢
        by_cases e : ed.on = i
        · simp [e]
        · rw [if_neg e]
          by_cases e' : j = i
          · subst e'; rw [ho] at hoj; cases hoj; exact hdeps ed hed hb
          · rw [if_neg e'] at hl; exact inv.dn j oj hoj hl ed hed hb
      · rw [set_get _ _ hsz]
        rcases hb1 j h1 h2 with e | e
        · simp [e]
        · by_cases e' : j = i
          · simp [e']
          · rw [if_neg e']; exact e
      · obtain ⟨b1, b2, b3⟩ := hb2 h1
        exact ⟨b1, by rw [set_get _ _ hsz, if_neg b2]; exact b3⟩
      · cases hd : o.dst <;> simp [Act.put, hN]
      · have := hdf.mono g x'
        cases hd : o.dst <;> simpa [Act.put] using this
      · by_cases hd : o.dst = some t
        · have h1 : lw ops (fun j => (listed.setIfInBounds i true).getD j false) t ops.size = some i := by
            refine lw_hit hin (by simp only [set_get _ _ hsz]; simp) (by rw [hdsti]; exact hd) fun j h1 h2 h3 => ?_
            simp only [set_get _ _ hsz]
            rw [if_neg (by omega)]
            cases hl : listed.getD j false with
            | false => rfl
            | true =>
              have hb := (c.wr i j t o ho h3 (by omega) hd).2 h1
              have hoj := Array.getElem?_eq_getElem h2
              have := inv.way c j _ hoj (inv.dn j _ hoj hl) i hin hb
              rw [hnl] at this; cases this
          unfold preA
          rw [h1]
          have hlt2 : t < a.tmps.size := by rw [hN]; exact hdN t hd
          have : (a.put o.dst cv).eval (.tmp t) = cv := by simp [hd, Act.put, Act.eval, hlt2]
          rw [this]; exact hv
        · have h1 : lw ops (fun j => (listed.setIfInBounds i true).getD j false) t ops.size = lw ops (fun j => listed.getD j false) t ops.size := by
            refine lw_congr fun j hj h3 => ?_
            simp only [set_get _ _ hsz]
            rw [if_neg (fun e => by subst e; rw [hdsti] at h3; exact hd h3)]
          have h2 : (a.put o.dst cv).eval (.tmp t) = a.eval (.tmp t) := by
            cases hd' : o.dst with
            | none => rfl
            | some d =>
              have : ¬ d = t := fun e => hd (by rw [hd', e])
              simp [Act.put, Act.eval, Array.getD_eq_getD_getElem?, this]
          rw [h2]
          unfold preA
          rw [h1]
          exact (hV t).mono g x'
    unfold wpOp
    rw [ho]
    simp only
    rcases Nat.lt_trichotomy i f with hif | hif | hif
    · obtain ⟨o', ho', hdN, hE, hg, hcase⟩ := ht.pre i (Nat.zero_le _) hif
      rw [ho] at ho'; cases ho'
      rw [if_pos (by rw [hguard true hg])]
      have hfl : (listed.setIfInBounds i true).getD f false = listed.getD f false := by rw [set_get _ _ hsz, if_neg (by omega)]
      rcases hcase with ⟨hk, h12, h3, h4⟩ | ⟨hk, h1, h2⟩
      · have hop : AOp P (H (listed.getD f false) q) (E i) o (val i) (H (listed.getD f false) q) := by
          rcases Nat.lt_or_ge q i with hqi | hqi
          · obtain ⟨b1, b2⟩ := hq2 (by omega)
            refine (h3 q (Nat.zero_le _) hqi b1).resolve_left (fun hb => ?_) _
            rw [hway q (by omega) hb] at b2; cases b2
          · rcases exists_last (fun j => decide (kd j = .eff)) (i + 1) q (by
              have hne : q ≠ i := fun e => by
                rcases Nat.lt_or_ge q ops.size with h | h
                · have := (hq2 h).1
                  rw [e, hk] at this; cases this
                · omega
              omega) with hn | ⟨j, j1, j2, j3, j4⟩
            · have e1 := ht.hconst (listed.getD f false) q (i + 1) (Nat.zero_le _) (by
                have hne : q ≠ i := fun e => by
                  rcases Nat.lt_or_ge q ops.size with h | h
                  · have := (hq2 h).1
                    rw [e, hk] at this; cases this
                  · omega
                omega) hq (fun j h5 h6 => by have := hn j h5 h6; simpa using this)
              rw [← e1, (h12 _).2]; exact (h12 _).1
            · have hje : kd j = .eff := by simpa using j3
              have hjl := hq1 j j2 hje
              have hjn : j < ops.size := by omega
              have hoj := Array.getElem?_eq_getElem hjn
              have hnb : ¬ befB tb i j = true := fun hb => by
                have := inv.way c j _ hoj (inv.dn j _ hoj hjl) i hin hb
                rw [hnl] at this; cases this
              rcases Nat.lt_trichotomy j f with hjf | hjf | hjf
              · have e1 := ht.hconst (listed.getD f false) q (j + 1) (Nat.zero_le _) (by omega) hq (fun k h5 h6 => by have := j4 k (by omega) h6; simpa using this)
                rw [← e1]
                exact (h4 j (by omega) hjf hje).resolve_left hnb _
              · subst hjf
                obtain ⟨_, _, _, _, _, h6, _⟩ := ht.flt
                rw [h6] at hje; cases hje
              · obtain ⟨_, _, _, _, _, _, _, h6⟩ := ht.tail j hjf hjn
                exact absurd (h6 i (by omega)) hnb
        refine .inl (hop s a hσ g hops _ _ (fun v cv s' hN' g' x' hv => ?_) (fun _ _ _ hx => hx.elim))
        obtain ⟨rfl, hσ'⟩ := hN'
        refine ih _ _ _ (hnext hdN g' x' hv hq (fun j h5 h6 => .inr (hq1 j h5 h6)) (fun h5 => ?_) (by rw [hfl]; exact hσ')) hcount
        obtain ⟨b1, b2⟩ := hq2 h5
        exact ⟨b1, (fun e => by rw [e, hk] at b1; cases b1), b2⟩
      · have hqi : q = i := by
          rcases Nat.lt_trichotomy q i with h | h | h
          · obtain ⟨b1, b2⟩ := hq2 (by omega)
            rw [hway q (by omega) (h2 q (Nat.zero_le _) h b1)] at b2; cases b2
          · exact h
          · rw [hq1 i h hk] at hnl; cases hnl
        subst hqi
        obtain ⟨q', n1, n2, n3, n4⟩ := exists_next (fun j => decide (kd j = .eff)) ops.size (ops.size - (q + 1)) (q + 1) rfl (by omega)
        have e1 := ht.hconst (listed.getD f false) q' (q + 1) (Nat.zero_le _) n1 n2 (fun j h5 h6 => by have := n3 j h5 h6; simpa using this)
        refine .inl (h1 _ s a hσ g hops _ _ (fun v cv s' hN' g' x' hv => ?_) (fun _ _ _ hx => hx.elim))
        obtain ⟨rfl, hσ'⟩ := hN'
        refine ih _ _ _ (hnext hdN g' x' hv n2 (fun j h5 h6 => ?_) (fun h5 => ?_) (by rw [hfl, hσ', e1])) hcount
        · rcases Nat.lt_trichotomy j q with h | h | h
          · exact .inr (hq1 j h h6)
          · exact .inl h
          · have := n3 j (by omega) h5
            simp [h6] at this
        · have hke : kd q' = .eff := by simpa using n4 h5
          refine ⟨hke, by omega, ?_⟩
          cases hl : listed.getD q' false with
          | false => rfl
          | true =>
            have hoj := Array.getElem?_eq_getElem h5
            have hb : befB tb q q' = true := by
              rcases Nat.lt_trichotomy q' f with hjf | hjf | hjf
              · obtain ⟨_, _, _, _, _, hc'⟩ := ht.pre q' (Nat.zero_le _) hjf
                rcases hc' with ⟨h6, _⟩ | ⟨_, _, h7⟩
                · rw [h6] at hke; cases hke
                · exact h7 q (Nat.zero_le _) (by omega) hk
              · subst hjf
                obtain ⟨_, _, _, _, _, h6, _⟩ := ht.flt
                rw [h6] at hke; cases hke
              · obtain ⟨_, _, _, _, _, _, _, h6⟩ := ht.tail q' hjf h5
                exact h6 q (by omega)
            have := inv.way c q' _ hoj (inv.dn q' _ hoj hl) q hin hb
            rw [hnl] at this; cases this
    · subst hif
      obtain ⟨o', ho', hdN, hE, hg, hk, hHc, hal⟩ := ht.flt
      rw [ho] at ho'; cases ho'
      rw [if_pos (by rw [hguard true hg])]
      rw [hnl] at hσ
      have hfl : (listed.setIfInBounds i true).getD i false = true := by rw [set_get _ _ hsz, if_pos rfl]
      have hqf : q ≤ i + 1 := by
        refine Nat.le_of_not_lt fun h => ?_
        obtain ⟨_, _, _, _, _, h6, _, h7⟩ := ht.tail (i + 1) (by omega) (by omega)
        have hl := hq1 (i + 1) h h6
        have hoj := Array.getElem?_eq_getElem (show i + 1 < ops.size by omega)
        have := inv.way c (i + 1) _ hoj (inv.dn (i + 1) _ hoj hl) i hin (h7 i (by omega))
        rw [hnl] at this; cases this
      have htw : (H false q).length = L ∧ H true q = H false q ++ [B] := by
        by_cases hq' : q = i + 1
        · rw [hq', hHc, hHc]; exact ht.twin i (Nat.zero_le _) (Nat.le_refl _)
        · exact ht.twin q (Nat.zero_le _) (by omega)
      refine .inl (hal (H false q) htw.1 s a hσ g hops _ _ (fun v cv s' hN' g' x' hv => ?_) (fun _ _ _ hx => hx.elim))
      obtain ⟨rfl, hσ'⟩ := hN'
      refine ih _ _ _ (hnext hdN g' x' hv hq (fun j h5 h6 => .inr (hq1 j h5 h6)) (fun h5 => ?_) (by rw [hfl, hσ', htw.2])) hcount
      obtain ⟨b1, b2⟩ := hq2 h5
      exact ⟨b1, (fun e => by rw [e, hk] at b1; cases b1), b2⟩
    · obtain ⟨o', ho', hdN, hE, hg, hk, h1, h2⟩ := ht.tail i hif hin
      rw [ho] at ho'; cases ho'
      rw [if_pos (by rw [hguard true hg])]
      have hlf : listed.getD f false = true := hway f ht.fl (h2 f hif)
      have hfl : (listed.setIfInBounds i true).getD f false = true := by rw [set_get _ _ hsz, if_neg (by omega)]; exact hlf
      have hqi : q = i := by
        rcases Nat.lt_trichotomy q i with h | h | h
        · obtain ⟨b1, b2⟩ := hq2 (by omega)
          rw [hway q (by omega) (h2 q h)] at b2; cases b2
        · exact h
        · rw [hq1 i h hk] at hnl; cases hnl
      subst hqi
      rw [hlf] at hσ
      obtain ⟨q', n1, n2, n3, n4⟩ := exists_next (fun j => decide (kd j = .eff)) ops.size (ops.size - (q + 1)) (q + 1) rfl (by omega)
      have e1 := ht.hconst true q' (q + 1) (Nat.zero_le _) n1 n2 (fun j h5 h6 => by have := n3 j h5 h6; simpa using this)
      refine .inl (h1 s a hσ g hops _ _ (fun v cv s' hN' g' x' hv => ?_) (fun _ _ _ hx => hx.elim))
      obtain ⟨rfl, hσ'⟩ := hN'
      refine ih _ _ _ (hnext hdN g' x' hv n2 (fun j h5 h6 => ?_) (fun h5 => ?_) (by rw [hfl, hσ', e1])) hcount
      · rcases Nat.lt_trichotomy j q with h | h | h
        · exact .inr (hq1 j h h6)
        · exact .inl h
        · have := n3 j (by omega) h5
          simp [h6] at this
      · have hke : kd q' = .eff := by simpa using n4 h5
        refine ⟨hke, by omega, ?_⟩
        cases hl : listed.getD q' false with
        | false => rfl
        | true =>
          have hoj := Array.getElem?_eq_getElem h5
          obtain ⟨_, _, _, _, _, _, _, h6⟩ := ht.tail q' (by omega) h5
          have := inv.way c q' _ hoj (inv.dn q' _ hoj hl) q hin (h6 q (by omega))
          rw [hnl] at this; cases this
/-- A drawn region with one allocation that stands in no order with the other effects: its object is the last one, whenever it is made. -/
theorem AWp_drawG {id : Nat} {e : Env} {ol : List Oper} {QA' : QA} {σ : List AO} (tb : Array Nat) (B : AO) (hm : P.follows .mixedOrders = true) (h1 : rchk ol.toArray tb = true) (h2 : tbOK ol.toArray tb = true)
    (h : RG P N ol.toArray tb B σ.length (fun e σ => QA' .normal e σ) 0 e (fun b => σ ++ bif b then [B] else []) [] []) : AWp P N (.region id ol.toArray true) e σ QA' := by
  intro s0 s a hs g x he
  obtain ⟨f, E, H, val, kd, hE, hH, ht, _⟩ := h.trace ⟨by simp, by simp⟩
  have c := Chk.of h1 h2
  generalize ol.toArray = ops at *
  refine wp_region_any hm ?_
  obtain ⟨g', x'⟩ := g.grow (w' := { s.w with drawn := s.w.drawn + 1 }) (Below.refl _ _).drew
  refine rg_sound c ht (fun _ _ h => h) ops.size _ a _ ?_ ?_
  · obtain ⟨q, n1, n2, n3, n4⟩ := exists_next (fun j => decide (kd j = .eff)) ops.size (ops.size - 0) 0 rfl (Nat.zero_le _)
    have hrep : ∀ j : Nat, (Array.replicate ops.size false).getD j false = false := fun j => by
      simp only [Array.getD_eq_getD_getElem?, Array.getElem?_replicate]
      split <;> rfl
    refine ⟨by simp, (fun j o _ hl => by rw [hrep] at hl; cases hl), _, q, rfl, g', x.trans x', n2, (fun j h3 h4 => by have := n3 j (Nat.zero_le _) h3; simp [h4] at this), (fun h3 => ⟨by simpa using n4 h3, hrep q⟩), ?_, he.size, (by rw [hE]; exact he.defers.mono g x'), fun t => ?_⟩
    · have e1 := ht.hconst false q 0 (Nat.zero_le _) (Nat.zero_le _) n2 (fun j h5 h6 => by have := n3 j h5 h6; simpa using this)
      rw [hrep, ← e1, hH]; simpa using hs
    · have h3 : lw ops (fun j => (Array.replicate ops.size false).getD j false) t ops.size = none := by
        rw [lw_cut (i := 0) (Nat.zero_le _) fun j _ _ _ => hrep j]; rfl
      unfold preA
      rw [h3, hE]
      exact (he.tmps t).mono g x'
  · have h3 := List.countP_le_length (l := List.range ops.size) (p := fun i => !(Array.replicate ops.size false).getD i false)
    rwa [List.length_range] at h3
end sound
end Lg
namespace Lg
open Go Go.RowKit
variable [GLay]
section
variable {P : Program} {N : Nat} {σ l : List AO} {e : Env} {o : Oper} {Q : QA}
/-- An array of no block, made ahead of its need. -/
theorem AWp_ghostHO {c : Code} (sz : Nat) (k : AWp P N c e (σ ++ (l ++ [AO.arr sz 0 []])) Q) : AWp P N c e (σ ++ l) Q := fun s0 s a hs g x he => by
  obtain ⟨s1, e1, e2, g1, x1⟩ := g.ghost sz
  have := k s0 s1 a (by rw [e1, hs, List.append_assoc]) g1 (x.trans x1) (he.mono g x1)
  rw [e2] at this; exact this
theorem op_buildSlice0GT {T E : TypeId} {sz g : Nat} (k : Nat) (ho : o.op = .buildSlice T 0 #[]) (hu : P.underlying T = some (.slice E)) (hsz : ∀ w, (Go.sizeOf E).run P w = Result.ok sz w) (hk : l[k]? = some (.arr sz g [])) : AOp P (σ ++ l) e o (.arr (σ.length + k) g sz 0 0) (σ ++ l) := by
  intro s a hs gd hv K Q hK _
  have hσ : s.σ[σ.length + k]? = some (.arr sz g []) := by rw [hs, get_own]; exact hk
  obtain ⟨s', e1, e2, g', x', hok⟩ := gd.row [] E
  refine wp_value (w' := s'.w) ?_ (hK _ (.slice (some ⟨s.w.heap.size, 0, none⟩) 0 0) s' ⟨rfl, by rw [e1, hs]⟩ g' x' (.arr _ _ _ _ _ _ rfl (.mk (cs := []) (by rw [e1]; exact hσ) ⟨rfl, .inl ⟨_, rfl, rfl⟩⟩)))
  rw [e2]
  simp only [execOp, ho, Instr.buildSlice, Sem.run_bind, run_underlying hu, hsz, Result.andThen_ok, Sem.run_ite, Nat.zero_mul, if_true, Sem.run_pure]
  rw [if_neg (by omega)]
  simp [newRow, newObj, Sem.run, Instr.fill]
  congr 2
  exact Array.eq_empty_of_size_eq_zero (by simp)
theorem AWp_drawGO {id : Nat} {ol : List Oper} (n : Nat) (hn : l.length = n) (tb : Array Nat) (B : AO) (hm : P.follows .mixedOrders = true) (h1 : rchk ol.toArray tb = true) (h2 : tbOK ol.toArray tb = true)
    (h : RG P N ol.toArray tb B (σ.length + n) (fun e σ => Q .normal e σ) 0 e (fun b => σ ++ (l ++ bif b then [B] else [])) [] []) : AWp P N (.region id ol.toArray true) e (σ ++ l) Q := by
  refine AWp_drawG tb B hm h1 h2 ?_
  have e1 : (σ ++ l).length = σ.length + n := by simp [hn]
  rw [e1]
  simpa only [List.append_assoc] using h
theorem twin_lit {B : AO} {n : Nat} (hn : l.length = n) : Twin B (σ.length + n) fun b => σ ++ (l ++ bif b then [B] else []) := ⟨by simp [hn], by simp⟩
end
section
variable {P : Program} {N : Nat} {ops : Array Oper} {tb : Array Nat} {B : AO} {L : Nat} {QR : Env → List AO → Prop} {i : Nat} {D : List (FuncId × List AV)} {el : List (Nat × AV)} {σ : Bool → List AO} {past : List (Nat × (Bool → List AO))} {held : List (Nat × (List AO → Prop))} {o : Oper} {v : AV} {d : Nat}
theorem gP (ho : nthO ops.toList i = some o) (h0 : stO N o = some d) (h : ∀ b, AOp P (σ b) ⟨D, el⟩ o v (σ b)) (hp : PastG P tb i ⟨D, el⟩ o v past) (k : RG P N ops tb B L QR (i + 1) ⟨D, (d, v) :: el⟩ σ past ((i, fun σ' => AOp P σ' ⟨D, el⟩ o v σ') :: held)) : RG P N ops tb B L QR i ⟨D, el⟩ σ past held := by
  have ⟨h1, h2, h3⟩ := stO_eq h0
  exact .pure o v (nthA ho) (GuardA_none h1 rfl) (fun t ht => by rw [h2] at ht; cases ht; rwa [Nat.blt_eq] at h3) h hp (by rw [h2]; exact k)
theorem gE {σ' : Bool → List AO} (ho : nthO ops.toList i = some o) (h0 : stO N o = some d) (h : ∀ b, AOp P (σ b) ⟨D, el⟩ o v (σ' b)) (ht : Twin B L σ') (hh : HeldG tb i σ' held) (hc : ChainG tb i past) (k : RG P N ops tb B L QR (i + 1) ⟨D, (d, v) :: el⟩ σ' ((i, σ) :: past) held) : RG P N ops tb B L QR i ⟨D, el⟩ σ past held := by
  have ⟨h1, h2, h3⟩ := stO_eq h0
  exact .eff o v σ' (nthA ho) (GuardA_none h1 rfl) (fun t ht => by rw [h2] at ht; cases ht; rwa [Nat.blt_eq] at h3) h ht hh hc (by rw [h2]; exact k)
theorem gF {T : TypeId} {z : Value} {cs : List AV} {τ : List AO} (ho : nthO ops.toList i = some o) (h0 : stO N o = some d) (ha : o.op = .alloc T) (hz : ∀ w, (zeroValue T).run P w = Result.ok z w) (hx : z.cells.toList.map ofConst1 = cs) (hB : B = .box cs) (hτ : σ true = τ)
    (k : RT P N ops tb QR (i + 1) ⟨D, (d, .ptr L 0) :: el⟩ τ) : RG P N ops tb B L QR i ⟨D, el⟩ σ past held := by
  have ⟨h1, h2, h3⟩ := stO_eq h0
  subst hB
  subst hτ
  exact .flt o (nthA ho) (GuardA_none h1 rfl) (fun t ht => by rw [h2] at ht; cases ht; rwa [Nat.blt_eq] at h3) (fun τ hτ => by rw [← hτ]; exact op_alloc ha hz hx) (by rw [h2]; exact k)
theorem tT {τ τ' : List AO} (ho : nthO ops.toList i = some o) (h0 : stO N o = some d) (h : AOp P τ ⟨D, el⟩ o v τ') (hall : ((List.range i).all fun j => befB tb j i) = true) (k : RT P N ops tb QR (i + 1) ⟨D, (d, v) :: el⟩ τ') : RT P N ops tb QR i ⟨D, el⟩ τ := by
  have ⟨h1, h2, h3⟩ := stO_eq h0
  exact .op o v τ' (nthA ho) (GuardA_none h1 rfl) (fun t ht => by rw [h2] at ht; cases ht; rwa [Nat.blt_eq] at h3) h hall (by rw [h2]; exact k)
theorem tN {τ τ' : List AO} {e : Env} (ho : nthO ops.toList i = some o) (hg : o.guard = none) (hd : o.dst = none) (h : AOp P τ e o v τ') (hall : ((List.range i).all fun j => befB tb j i) = true) (k : RT P N ops tb QR (i + 1) e τ') : RT P N ops tb QR i e τ :=
  .op o v τ' (nthA ho) (GuardA_none hg rfl) (fun t ht => by rw [hd] at ht; cases ht) h hall (by rw [hd]; exact k)
end
end Lg
set_option maxRecDepth 20000
set_option maxHeartbeats 4000000
namespace Lg
open Go Go.Proofs Go.RowKit
variable [GLay] [ML]
theorem redit_c (op : Int) (x : JV) (xs : List AV) (hxs : vcells x = xs) (hop : 1 ≤ op ∧ op ≤ 3) : ∀ (l : List BL) (f : Bool) (v : JV) (cs : List AV) (σ : List AO), (∀ nm ∈ l, nm.length ≤ 1000000) → vcells v = cs → jb v → ACalls Tryd.prog 24 [.int .i64 op, .agg cs, .sl f 1 (srow l), .agg xs] σ (Ret (.tup [.agg (vcells (jed op x l v).1), .int .i64 (jed op x l v).2]) σ)
  | [], f, v, cs, σ, _, hc, _ => redit_0 op x xs hxs f v cs σ hc
  | nm :: r, f, v, cs, σ, hl, hc, hb => by
    have ih : ∀ (v : JV) (cs : List AV) (es : List (List AV)) (σ : List AO), vcells v = cs → es = srow r → jb v → ACalls Tryd.prog 24 [.int .i64 op, .agg cs, .sl false 1 es, .agg xs] σ (Ret (.tup [.agg (vcells (jed op x r v).1), .int .i64 (jed op x r v).2]) σ) := by
      rintro v cs es σ hc rfl hb
      exact redit_c op x xs hxs hop r false v cs σ (fun n hn => hl n (List.mem_cons_of_mem _ hn)) hc hb
    by_cases h4 : v.kind = 4
    · exact redit_4 op x xs hxs r ih f nm v cs σ hc hb hop (hl nm (List.mem_cons_self ..)) h4
    · exact redit_5 op x xs hxs r ih f nm v cs σ hc hb hop h4
theorem edV_c (key : ByteArray) (v : JV) (cs : List AV) (σ : List AO) (hk : key.size ≤ 100) (hc : vcells v = cs) (hb : jb v) (h5 : v.kind = 5) : ACalls Tryd.prog 24 [.int .i64 1, .agg cs, .sl true 1 [[.str (⟨#[122]⟩ ++ key)]], .agg [.int .i64 1, .bool false, .bool false, .str ⟨#[]⟩, .int .i64 0, .str ⟨#[]⟩, .nils, .nils]] σ (Ret (.tup [.agg (vcells (edV key v)), .int .i64 0]) σ) := by
  have h := redit_c 1 jv1 _ rfl ⟨by decide, by decide⟩ [zkey key] true v cs σ (fun n hn => by
    rw [List.mem_singleton] at hn; subst hn
    have : key.data.toList.length = key.size := Array.length_toList ..
    rw [zkey, List.length_cons]; omega) hc hb
  rw [edV_0 h5, show srow [zkey key] = [[.str (⟨#[122]⟩ ++ key)]] by rw [← zkey_ba]; rfl] at h
  exact ACalls.conv (args' := [.int .i64 1, .agg cs, .sl true 1 [[.str (⟨#[122]⟩ ++ key)]], .agg (vcells jv1)]) ⟨AVle.refl _, AVle.refl _, AVle.refl _, AVle.agg (vle8 nilL nilM), trivial⟩ h
theorem readB_c (l : List JV) (σ : List AO) (hl : l.length ≤ 1000000) (hb : lb l) : ACalls Tryd.prog 19 [.agg [.int .i64 4, .bool false, .bool false, .str ⟨#[]⟩, .int .i64 0, .str ⟨#[]⟩, .sl false 8 (lcells l), .sl false 9 (mcells [])]] σ (Ret (.tup [.sl false 11 (orows (jrd (jv4 l))), errV (jrdE (jv4 l))]) σ) := read_c (jv4 l) _ σ (vcells_eq _) (jb4 hb hl)
theorem patchMore_c (s t key : ByteArray) (σ : List AO) (hks : key.size ≤ 140737488355328) : ACalls Tryd.prog 6 [.str s, .str t, .str key] σ (Ret (.bool true) σ) := by
 refine ACalls_body Tryd.func6 rfl Tryd.ntmps6 (res1 Tryd.results6) (Nat.le_of_ble_eq_true rfl) (fun hcl hal => ?_)
 have hva := rValue_ok s
 have hvb := rValue_ok t
 refine zw1 ?_
 refine zsr ?_
 refine zt rfl (zc rfl (up8_c _)) ?_
 refine zv1 ?_
 refine zu1 ?_
 refine zt rfl (zc rfl (value_c s _)) ?_
 generalize (rValue s).1 = a at hva ⊢
 generalize (rValue s).2 = ok at hva ⊢
 rw [vcells_eq a]
 refine zv6 ?_
 refine zu1 ?_
 refine zt rfl (zc rfl (value_c t _)) ?_
 generalize (rValue t).1 = b at hvb ⊢
 generalize (rValue t).2 = is at hvb ⊢
 rw [vcells_eq b]
 refine zv6 ?_
 refine zu1 ?_
 refine zt rfl (zc rfl (text_c key _ hks)) ?_
 refine zv1 ?_
 refine AWp_seq ?_
 refine zu3 ?_
 refine zsp 41 rfl (fun h1 => ?_) fun h1 => ?_
 ·rw [h1]; replace h1 := zcl h1
  refine zg10 ?_
  refine zg2 ?_
  refine zon ?_
  refine AWp_condT rfl ?_
  refine zw2 ?_
  refine zrt ?_
  exact ResQ_1 rfl hcl trivial (Ret_of rfl)
 ·rw [h1]; replace h1 := zcl h1
  refine zg4 ?_
  refine zsp 45 rfl (fun h2 => ?_) fun h2 => ?_
  ·rw [h2]; replace h2 := zcl h2
   refine zv8 ?_
   refine AWp_condT rfl ?_
   refine zw2 ?_
   refine zrt ?_
   exact ResQ_1 rfl hcl trivial (Ret_of rfl)
  ·rw [h2]; replace h2 := zcl h2
   refine zg5 ?_
   refine zsp 50 rfl (fun h3 => ?_) fun h3 => ?_
   ·rw [h3]; replace h3 := zcl h3
    refine zv3 ?_
    refine AWp_condT rfl ?_
    refine zw2 ?_
    refine zrt ?_
    exact ResQ_1 rfl hcl trivial (Ret_of rfl)
   ·rw [h3]; replace h3 := zcl h3
    refine zv3 ?_
    refine AWp_cond rfl (fun h4 => ?_) (fun h4 => ?_)
    ·(try rw [h4]); replace h4 := zcl h4
     refine zw2 ?_
     refine zrt ?_
     exact ResQ_1 rfl hcl trivial (Ret_of rfl)
    ·(try rw [h4]); replace h4 := zcl h4
     obtain ⟨_, hja, hsa⟩ : jmay a ∧ jb a ∧ jsize a ≤ 2002 := by
      rcases hva with ⟨h, _⟩ | ⟨_, h⟩
      ·exact absurd h h1
      ·exact h
     obtain ⟨_, hjb, hsb⟩ : jmay b ∧ jb b ∧ jsize b ≤ 2002 := by
      rcases hvb with ⟨h, _⟩ | ⟨_, h⟩
      ·exact absurd h h2
      ·exact h
     have hk100 : key.size ≤ 100 := by omega
     have hla := ((jb_eq a).1 hja).2.2.2.2.1
     have hlb := ((jb_eq b).1 hjb).2.2.2.2.1
     have hoa := (jrd_ok2 hja).2
     have hob := (jrd_ok2 hjb).2
     refine AWp_skip ?_
     refine zu1 ?_
     refine zt rfl (zc rfl (read_c a _ _ (vcells_eq a) hja)) ?_
     refine zv5 ?_
     refine zu1 ?_
     refine zt rfl (zc rfl (read_c b _ _ (vcells_eq b) hjb)) ?_
     refine zv5 ?_
     refine AWp_seq ?_
     refine zu1 ?_
     refine zt rfl (op_neErr rfl Tryd.underlying35 rfl) ?_
     refine zg1 ?_
     refine zsp 67 rfl (fun h5 => ?_) fun h5 => ?_
     ·rw [h5]; replace h5 := zcl h5
      refine zv3 ?_
      refine AWp_condT rfl ?_
      refine zw2 ?_
      refine zrt ?_
      exact ResQ_1 rfl hcl trivial (Ret_of rfl)
     ·rw [h5]; replace h5 := zcl h5
      refine zg1 ?_
      refine ztG rfl rfl (op_neErr rfl Tryd.underlying35 rfl) ?_
      refine zv1 ?_
      refine AWp_cond rfl (fun h6 => ?_) (fun h6 => ?_)
      ·(try rw [h6]); replace h6 := zcl h6
       refine zw2 ?_
       refine zrt ?_
       exact ResQ_1 rfl hcl trivial (Ret_of rfl)
      ·(try rw [h6]); replace h6 := zcl h6
       obtain ⟨hka, hna, hja2⟩ := jrd_inv (v := a) (by simpa using h5)
       obtain ⟨hkb, hnb, hjb2⟩ := jrd_inv (v := b) (by simpa using h6)
       have hna2 := jops_len hja2
       have hnb2 := jops_len hjb2
       have hjo := jops_app hja2 hjb2
       have hle := lb_ed hk100 hja hsa hja2
       have hol := orows_len (jrd a)
       have hom := orows_len (jrd b)
       have hlcl := lcells_length a.l
       have hoab : ∀ o ∈ jrd a ++ jrd b, OB o := fun o ho => (List.mem_append.1 ho).elim (hoa o) (hob o)
       refine AWp_skip ?_
       refine AWp_seq ?_
       refine AWp_ghostHO 8 ?_
       refine AWp_drawGO 3 rfl #[0, 0, 2, 7, 0, 16, 63, 127, 0, 511] (.box [.int .i64 0, .bool false, .bool false, .str ⟨#[]⟩, .int .i64 0, .str ⟨#[]⟩, .nils, .nils]) Tryd.mixed (by decide +kernel) (by decide +kernel) ?_
       refine gP rfl rfl (fun b' => op_buildSlice0GT 2 rfl Tryd.underlying25 Tryd.sizeOf28 rfl) trivial ?_
       refine gP rfl rfl (fun b' => zoa) trivial ?_
       refine gP rfl rfl (fun b' => zoa) trivial ?_
       refine gE (σ' := fun b' => σ ++ ([.box [.int .i64 a.kind, .bool a.b, .bool a.n.neg, .str a.n.digits, .int .i64 a.n.exp, .str a.s, .sl false 8 (lcells a.l), .sl false 9 (mcells a.m)], .box [.int .i64 b.kind, .bool b.b, .bool b.n.neg, .str b.n.digits, .int .i64 b.n.exp, .str b.s, .sl false 8 (lcells b.l), .sl false 9 (mcells b.m)], .arr 8 1 (lcells a.l).flatten] ++ bif b' then [.box [.int .i64 0, .bool false, .bool false, .str ⟨#[]⟩, .int .i64 0, .str ⟨#[]⟩, .nils, .nils]] else [])) rfl rfl (fun b' => by show AOp _ ( σ ++ ([.box [.int .i64 a.kind, .bool a.b, .bool a.n.neg, .str a.n.digits, .int .i64 a.n.exp, .str a.s, .sl false 8 (lcells a.l), .sl false 9 (mcells a.m)], .box [.int .i64 b.kind, .bool b.b, .bool b.n.neg, .str b.n.digits, .int .i64 b.n.exp, .str b.s, .sl false 8 (lcells b.l), .sl false 9 (mcells b.m)], .arr 8 0 []] ++ bif b' then [.box [.int .i64 0, .bool false, .bool false, .str ⟨#[]⟩, .int .i64 0, .str ⟨#[]⟩, .nils, .nils]] else [])) _ _ _ _; exact op_appendArrT rfl 2 (gg := 0) (cs0 := []) (sz := 8) (m := a.l.length) (len := 0) (cs := (lcells a.l).flatten) rfl (.inr ⟨_, rfl⟩) Tryd.underlying25 Tryd.underlying25 Tryd.type28 rfl rfl rfl (by decide) rfl rfl rfl (by show some (_, (lcells a.l).length) = _; rw [lcells_length]) rfl (lflat_ones _) (by show (0 + a.l.length) * 112 ≤ _; omega) (by omega) (lflat_len _)) (twin_lit rfl) ⟨.inl rfl, .inl rfl, .inl rfl, trivial⟩ trivial ?_
       refine gP rfl rfl (fun b' => zoa) ⟨.inr fun b' => zoa, trivial⟩ ?_
       refine gP rfl rfl (fun b' => zoa) ⟨.inr fun b' => zoa, trivial⟩ ?_
       refine gE (σ' := fun b' => σ ++ ([.box [.int .i64 a.kind, .bool a.b, .bool a.n.neg, .str a.n.digits, .int .i64 a.n.exp, .str a.s, .sl false 8 (lcells a.l), .sl false 9 (mcells a.m)], .box [.int .i64 b.kind, .bool b.b, .bool b.n.neg, .str b.n.digits, .int .i64 b.n.exp, .str b.s, .sl false 8 (lcells b.l), .sl false 9 (mcells b.m)], .arr 8 2 ((lcells a.l).flatten ++ (lcells b.l).flatten)] ++ bif b' then [.box [.int .i64 0, .bool false, .bool false, .str ⟨#[]⟩, .int .i64 0, .str ⟨#[]⟩, .nils, .nils]] else [])) rfl rfl (fun b' => by show AOp _ ( σ ++ ([.box [.int .i64 a.kind, .bool a.b, .bool a.n.neg, .str a.n.digits, .int .i64 a.n.exp, .str a.s, .sl false 8 (lcells a.l), .sl false 9 (mcells a.m)], .box [.int .i64 b.kind, .bool b.b, .bool b.n.neg, .str b.n.digits, .int .i64 b.n.exp, .str b.s, .sl false 8 (lcells b.l), .sl false 9 (mcells b.m)], .arr 8 1 (lcells a.l).flatten] ++ bif b' then [.box [.int .i64 0, .bool false, .bool false, .str ⟨#[]⟩, .int .i64 0, .str ⟨#[]⟩, .nils, .nils]] else [])) _ _ _ _; exact op_appendArrT rfl 2 (sz := 8) (m := b.l.length) (len := 0 + a.l.length) (cs := (lcells b.l).flatten) rfl (.inr ⟨_, rfl⟩) Tryd.underlying25 Tryd.underlying25 Tryd.type28 rfl rfl rfl (by decide) rfl rfl (by rw [Nat.zero_add]; exact (lflat_len _).symm) (by show some (_, (lcells b.l).length) = _; rw [lcells_length]) rfl (lflat_ones _) (by show (0 + a.l.length + b.l.length) * 112 ≤ _; omega) (by omega) (lflat_len _)) (twin_lit rfl) ⟨.inl rfl, .inl rfl, .inl rfl, .inl rfl, .inl rfl, trivial⟩ ⟨rfl, trivial⟩ ?_
       refine gP rfl rfl (fun b' => zoa) ⟨.inl rfl, .inl rfl, trivial⟩ ?_
       refine gF (τ := σ ++ [.box [.int .i64 a.kind, .bool a.b, .bool a.n.neg, .str a.n.digits, .int .i64 a.n.exp, .str a.s, .sl false 8 (lcells a.l), .sl false 9 (mcells a.m)], .box [.int .i64 b.kind, .bool b.b, .bool b.n.neg, .str b.n.digits, .int .i64 b.n.exp, .str b.s, .sl false 8 (lcells b.l), .sl false 9 (mcells b.m)], .arr 8 2 ((lcells a.l).flatten ++ (lcells b.l).flatten), .box [.int .i64 0, .bool false, .bool false, .str ⟨#[]⟩, .int .i64 0, .str ⟨#[]⟩, .nils, .nils]]) rfl rfl rfl Tryd.zeroValue28 rfl rfl rfl ?_
       refine tN rfl rfl rfl (zoa) rfl ?_
       refine RT.nil rfl ?_
       refine AWp_seq ?_
       refine AWp_boxLeO 3 (bs' := [.int .i64 4, .bool false, .bool false, .str ⟨#[]⟩, .int .i64 0, .str ⟨#[]⟩, .arr (σ.length + 2) 2 8 0 (0 + a.l.length + b.l.length), .sl false 9 (mcells [])]) rfl ⟨AVle.refl _, AVle.refl _, AVle.refl _, AVle.refl _, AVle.refl _, AVle.refl _, AVle.refl _, nilM, trivial⟩ ?_
       refine AWp_freezeInO 3 6 2 2 8 (0 + a.l.length + b.l.length) rfl rfl rfl (lcells (a.l ++ b.l)) (lflat_app _ _) (lrow_len _) (by rw [lcells_length, List.length_append, Nat.zero_add]) (by decide) ?_
       refine AWp_regL ?_
       refine zg1 ?_
       refine zt rfl (zc rfl (readB_c (a.l ++ b.l) _ (by rw [List.length_append]; omega) (lb_app hla hlb))) ?_
       refine zv5 ?_
       refine AWp_seq ?_
       refine zw6 ?_
       refine AWp_cond rfl (fun h7 => ?_) (fun h7 => ?_)
       ·(try rw [h7]); replace h7 := zcl h7
        rw [both_many (l := a.l ++ b.l) (by rw [List.length_append]; omega)]
        refine zu3 ?_
        refine ztG rfl rfl (op_neErr rfl Tryd.underlying35 rfl) ?_
        refine zv2 ?_
        refine zrt ?_
        exact ResQ_1 rfl hcl trivial (Ret_of rfl)
       ·(try rw [h7]); replace h7 := zcl h7
        obtain ⟨hE, hR⟩ := both_ok hjo (by rw [List.length_append]; omega)
        rw [hE, hR]
        refine AWp_skip ?_
        refine zw3 ?_
        refine AWp_seq ?_
        refine AWp_seq ?_
        refine AWp_boxLeO 4 (bs' := [.int .i64 4, .bool false, .bool false, .str ⟨#[]⟩, .int .i64 0, .str ⟨#[]⟩, .nils, .sl false 9 (mcells [])]) rfl ⟨AVle.refl _, AVle.refl _, AVle.refl _, AVle.refl _, AVle.refl _, AVle.refl _, AVle.refl _, nilM, trivial⟩ ?_
        refine AWp_ghostInO 4 6 8 5 rfl rfl rfl ?_
        refine AWp_regL ?_
        refine zv1 ?_
        refine AWp_block ?_
        -- loop 0 LIVE 2:param 6:assign 7:assign 8:alloc 13:assign 15:assign 18:assign 19:assign 20:alloc 21:assign
        refine AWp_loop (ι := Nat) (fun i => i ≤ a.l.length) (fun i => ⟨[], [(2, .str key), (6, .bool false), (7, .bool true), (8, .ptr (σ.length + 0) 0), (13, .sl false 11 (orows (jrd a))), (15, .sl false 11 (orows (jrd b))), (18, .sl false 11 (orows (jrd a ++ jrd b))), (19, errV none), (20, .ptr (σ.length + 4) 0), (21, .int .i64 (i : Int))]⟩) (fun i => σ ++ [.box [.int .i64 a.kind, .bool a.b, .bool a.n.neg, .str a.n.digits, .int .i64 a.n.exp, .str a.s, .sl false 8 (lcells a.l), .sl false 9 (mcells a.m)], .box [.int .i64 b.kind, .bool b.b, .bool b.n.neg, .str b.n.digits, .int .i64 b.n.exp, .str b.s, .sl false 8 (lcells b.l), .sl false 9 (mcells b.m)], .dead, .box [.int .i64 4, .bool false, .bool false, .str ⟨#[]⟩, .int .i64 0, .str ⟨#[]⟩, .sl false 8 (lcells (a.l ++ b.l)), .sl false 9 (mcells [])], .box [.int .i64 4, .bool false, .bool false, .str ⟨#[]⟩, .int .i64 0, .str ⟨#[]⟩, .arr (σ.length + 5) i 8 0 i, .sl false 9 (mcells [])], .arr 8 i (lcells ((a.l.take i).map (edV key))).flatten]) (fun i => a.l.length - i) (0) (Nat.zero_le _) ?_ rfl (fun i hi => ?_)
        ·exact ⟨rfl, rfl, rfl, rfl, rfl, rfl, rfl, rfl, rfl, rfl, rfl, trivial⟩
        refine AWp_seq ?_
        refine zw5 ?_
        refine AWp_cond rfl (fun h8 => ?_) (fun h8 => ?_)
        ·(try rw [h8]); replace h8 := zcl h8
         have hz1 : (⟨#[122]⟩ : ByteArray).size = 1 := rfl
         obtain ⟨e, he⟩ : ∃ e, a.l[i]? = some e := ⟨_, List.getElem?_eq_getElem (show i < a.l.length by omega)⟩
         have hje := lb_get hla he
         have he5 : e.kind = 5 := by obtain ⟨o, ho, _⟩ := jops_get hja2 he; exact jop_k5 ho
         refine AWp_skip ?_
         refine AWp_seq ?_
         refine AWp_block ?_
         refine zu4 ?_
         rw [vcells_eq e]
         refine zg3 ?_
         refine zt rfl (op_buildSlice [[_]] rfl Tryd.underlying64 Tryd.sizeOf9 Tryd.zeroValue9 rfl (by decide) (by decide) rfl rfl rfl rfl rfl) ?_
         refine zg1 ?_
         refine zt rfl (zc rfl (edV_c key e _ _ hk100 (vcells_eq e) hje he5)) ?_
         rw [vcells_eq (edV key e)]
         refine zv6 ?_
         refine AWp_regL ?_
         refine zg3 ?_
         refine zt rfl (op_buildSlice [[_, _, _, _, _, _, _, _]] rfl Tryd.underlying25 Tryd.sizeOf28 Tryd.zeroValue28 rfl (by decide) (by decide) rfl rfl rfl rfl rfl) ?_
         refine zt rfl (op_appendArrT rfl 5 (sz := 8) (m := 1) (len := i) (cs := _) rfl (.inr ⟨_, rfl⟩) Tryd.underlying25 Tryd.underlying25 Tryd.type28 rfl rfl rfl (by decide) rfl rfl (by rw [lflat_len, List.length_map, List.length_take]; omega) rfl rfl rfl (by show (i + 1) * 112 ≤ _; omega) (by omega) rfl) ?_
         refine zg1 ?_
         refine ztN rfl rfl (op_storeO (r := [.int .i64 4, .bool false, .bool false, .str ⟨#[]⟩, .int .i64 0, .str ⟨#[]⟩, .arr (σ.length + 5) (i + 1) 8 0 (i + 1), .sl false 9 (mcells [])]) rfl Tryd.sizeOf25 rfl rfl rfl rfl rfl (by decide)) ?_
         refine zon ?_
         refine AWp_regL ?_
         refine zv3 ?_
         refine ⟨i + 1, σ.length + 6, by omega, by omega, by simp, ⟨rfl, rfl, rfl, rfl, rfl, rfl, rfl, rfl, rfl, rfl, rfl, trivial⟩, closed_own 6 hcl ?_, ?_, ?_⟩
         ·simp [ownLt, AO.cells, AV.ltL, AV.lt, ltL_append, lflat_lt]
         ·simp [ltE, AV.lt, AV.ltL, errV]
         ·refine (take_own 6).trans ?_
          rw [edmap_snoc he, lcells_snoc, vcells_eq (edV key e)]; rfl
        ·(try rw [h8]); replace h8 := zcl h8
         refine AWp_exit ?_
         refine AWp_seq ?_
         have hie : i = a.l.length := by omega
         subst hie
         rw [List.take_length]
         refine AWp_freezeInO 4 6 5 a.l.length 8 a.l.length rfl rfl rfl (lcells (a.l.map (edV key))) rfl (lrow_len _) (by rw [lcells_length, List.length_map]) (by decide) ?_
         obtain ⟨hE2, hR2⟩ := both_ok (jops_ed key hja2) (by rw [List.length_map]; omega)
         refine AWp_regL ?_
         refine zg1 ?_
         refine zt rfl (zc rfl (readB_c (a.l.map (edV key)) _ (by rw [List.length_map]; omega) hle)) ?_
         rw [hE2, hR2]
         refine zv5 ?_
         refine zu3 ?_
         refine ztG rfl rfl (op_eqErr rfl Tryd.underlying35 rfl) ?_
         refine zg3 ?_
         refine ztG rfl rfl (op_buildSlice0 (sz := 11) rfl Tryd.underlying55 Tryd.sizeOf92) ?_
         refine zg1 ?_
         refine ztG rfl rfl (op_appendNewT rfl rfl (sz := 11) (m := (jrd a).length) (cs := (orows (jrd a)).flatten) rfl (.inr ⟨_, rfl⟩) Tryd.underlying55 Tryd.underlying55 Tryd.type92 rfl rfl rfl (by decide) (.inr rfl) (by show some (_, (orows (jrd a)).length) = _; rw [orows_len]) rfl (oflat_ones _) (by show (jrd a).length * 168 ≤ _; omega) (by omega) (oflat_len _)) ?_
         refine zg1 ?_
         refine ztG rfl rfl (op_appendArrT rfl 6 (sz := 11) (m := (jrd b).length) (len := (jrd a).length) (cs := (orows (jrd b)).flatten) rfl (.inr ⟨_, rfl⟩) Tryd.underlying55 Tryd.underlying55 Tryd.type92 rfl rfl rfl (by decide) rfl rfl (oflat_len _).symm (by show some (_, (orows (jrd b)).length) = _; rw [orows_len]) rfl (oflat_ones _) (by show ((jrd a).length + (jrd b).length) * 168 ≤ _; omega) (by omega) (oflat_len _)) ?_
         refine AOps_freezeAO 139 6 1 11 ((jrd a).length + (jrd b).length) (orows (jrd a ++ jrd b)) rfl (by rw [orows_app]; rfl) (orows_el _) (by rw [orows_len, List.length_append]) (by decide) ?_ rfl
         refine ztG rfl rfl (zc rfl (sameO_c _ _ (jrd a ++ jrd b) _ (by rw [List.length_append]; omega) hoab)) ?_
         refine ztG rfl rfl (op_eqlT rfl rfl rfl rfl) ?_
         refine zg3 ?_
         refine ztG rfl rfl (op_eqErr rfl Tryd.underlying35 rfl) ?_
         refine zg4 ?_
         refine ztG rfl rfl (zc rfl (sameO_c _ _ (jrd a) _ (by omega) hoa)) ?_
         refine ztG rfl rfl (op_eqlT rfl rfl rfl rfl) ?_
         refine zv2 ?_
         refine zrt ?_
         exact ResQ_1 rfl hcl trivial (Ret_of rfl)
end Lg
set_option maxRecDepth 100000
set_option maxHeartbeats 4000000
namespace Go.Proofs.YtjnofdnoboibpaaDoor
open Go Go.ChangeShapes Go.WideShapes Go.ChangeAt Go.RowKit Go.Lib
open Go.ChangeMaps (open_string shut_string)
noncomputable def patchMore_lw (os : Os) : World := World.laidAll Tryd.prog os Rows.patchMoreRow.laid
theorem patchMore_pl : (Rows.patchMoreRow.laid.all fun x => x.2.handleName?.isNone) = true := by kernel_rfl
theorem patchMore_mh (os : Os) (args : Array Value) : laidMetH Tryd.prog Rows.patchMoreRow.laid ((patchMore_lw os).forCall (fun _ _ => 0) ⟨#[], args, []⟩).memory := by
  rw [MakeChecks.laidMetH_plain _ _ _ patchMore_pl]; exact laidMet_laidAll _ (by kernel_rfl) (by kernel_rfl)
theorem patchMore_lifted (os : Os) (started : os.Started) (H : Type) (enc : TypeId × Value → H) :
    ReturnsInHanded {} Tryd.checked os 6 .any (fun w args => (Rows.patchMoreSpec.pre enc Tryd.prog Tryd.f6 [] false w args ∧ laidMetH Tryd.prog Rows.patchMoreRow.laid w) ∧ sizedMet enc Tryd.prog Tryd.f6 (OpenSpec.ofChange Rows.patchMoreSpec) false w args)
      (Rows.patchMoreSpec.post enc Tryd.prog Tryd.f6 false true false false) := by
  refine Lg.returns_shaped_sized (C := Tryd.checked) (X := fun w _ => laidMetH Tryd.prog Rows.patchMoreRow.laid w) (fun _ _ _ hh h => h.of_heap hh) own started (by kernel_rfl) Tryd.func6
    (ChangeSpec.witness_shaped (enc := enc) (C := Tryd.checked) (os := os) (X := fun w _ => laidMetH Tryd.prog Rows.patchMoreRow.laid w) false (patchMore_lw os) #[.string ⟨#[]⟩, .string ⟨#[]⟩, .string ⟨#[]⟩] 8 (World.laidAll_os _ _ _)
      (World.shaped_of_ZipB (by kernel_rfl) (by kernel_rfl)) (by kernel_rfl) (by kernel_rfl) (by kernel_rfl) (patchMore_mh os _)) ?_
  intro W base args ds gs before hval0 hW hz hL hS
  have hval : ∀ (j : Nat) t v, Tryd.f6.params[j]? = some t → args[j]? = some v → Value.okWide Tryd.prog W .any base t v := hval0
  have hW' := hW
  obtain ⟨p, q, hA0, hV, rfl, hfz, hnd⟩ := hW
  have hA : DataW.TrodAll enc Tryd.prog W 0 (fun _ => true) true Tryd.f6.params.toList args.toList ds p := hA0
  rw [Tryd.params6] at hA hval hz
  obtain ⟨v0, vs0, d0, ds0, p0, q0, hargs, rfl, rfl, h0, r0⟩ := trodAll_cons hA
  obtain ⟨v1, vs1, d1, ds1, p1, q1, rfl, rfl, rfl, h1, r1⟩ := trodAll_cons r0
  obtain ⟨v2, vs2, d2, ds2, p2, q2, rfl, rfl, rfl, h2, r2⟩ := trodAll_cons r1
  obtain ⟨rfl, rfl, rfl⟩ := trodAll_nil r2
  obtain rfl : args = #[v0, v1, v2] := by cases args; simp_all
  obtain ⟨rfl, rfl⟩ := trodVars_none hV
  obtain ⟨x0, rfl, rfl, rfl, w0⟩ := open_string Tryd.underlying9 (hval 0 9 v0 rfl rfl) h0
  obtain ⟨x1, rfl, rfl, rfl, w1⟩ := open_string Tryd.underlying9 (hval 1 9 v1 rfl rfl) h1
  obtain ⟨x2, rfl, rfl, rfl, w2⟩ := open_string Tryd.underlying9 (hval 2 9 v2 rfl rfl) h2
  clear hA0 hval0
  simp only [List.append_nil] at hW'
  have b2 : x2.size ≤ 140737488355328 := by
    have := List.all_eq_true.1 hz x2.data.toList.length (by simp [DataW.weightsEach, DataW.weights])
    have e : x2.data.toList.length = x2.size := Array.length_toList ..
    rw [e] at this; have := of_decide_eq_true this; unfold reachBytes at this; omega
  have hcall := Lg.calls_of (P := Tryd.prog) (f := 6) (args := [.str x0, .str x1, .str x2]) (cargs := [.string x0, .string x1, .string x2]) (W := W)
    (fun st => (.cons (.str _) (.cons (.str _) (.cons (.str _) .nil))))
    (fun hg => by haveI := Lg.ML.of hS hg; exact Lg.patchMore_c x0 x1 x2 [] b2)
  refine hcall.mono fun e W' ⟨he, hg⟩ => ?_
  subst he
  refine ⟨_, rfl, _, _, _, [], [], [], hW', trodAll_mk1 (shut_bool Tryd.underlying4 _), ?_, rfl, hg.frame _, fun h => by cases h⟩
  exact (trodAll_cons_mk (shut_string Tryd.underlying9 w0) (trodAll_cons_mk (shut_string Tryd.underlying9 w1) (trodAll_cons_mk (shut_string Tryd.underlying9 w2) trodAll_mk0)))
theorem patchMore_holds : Rows.PatchMoreSaid :=
  OpenClaim.holds_of_wide 6 Tryd.f6 rfl rfl rfl rfl rfl rfl rfl ⟨rfl, rfl, rfl, rfl, rfl⟩ rfl rfl rfl rfl rfl (by kernel_rfl) Tryd.func6 (by kernel_rfl)
    (of_decide_eq_true (by kernel_rfl)) (by unfold Func.isWrapper; first | (rw [if_pos (by decide +kernel)]; kernel_rfl) | (rw [if_neg (by decide +kernel)]; exact ⟨rfl, rfl⟩))
    (fun os started H enc _ => patchMore_lifted os started H enc)
end Go.Proofs.YtjnofdnoboibpaaDoor
