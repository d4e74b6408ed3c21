/- A part of the proof of The canonical text of any value, as show.Show tells it, is the one that the document's own answer tells (ShowTells), for every text that a machine can hold: Sh4 S2 Lg30 Lg31 Lg32 Lg33 B1 B2 Lg34 Lq1 B3 Lq2 B4 Lg43 Lk1 Lk2 Lk3 S3 Lp4 Lp5. -/
import Derived.Test.YtnnmpiagmpbebaaDoorP3
import Derived.Test.YtnnmpiagmpbebaaDoorP4
import Derived.Shelf.Strconv.Itoa3
import Derived.Test.YtnnmpiagmpbebaaDoorProg
import Derived.Lib.Builder
import Derived.Lib.UnsafeStr
import Derived.Laws.Externs
import Derived.Laws.Shifts
set_option linter.unusedVariables false
set_option linter.unusedSimpArgs false
set_option linter.unusedSectionVars false
set_option maxRecDepth 20000
set_option maxHeartbeats 4000000
namespace Go.Proofs
open Go.Shelf
def Tryd.laysM171_ren : Go.Shelf.Ren := ⟨fun | 171 => 49 | 243 => 72 | 246 => 97 | 283 => 113 | 284 => 114 | 285 => 115 | 286 => 116 | 129 => 126 | 317 => 125 | 318 => 127 | 319 => 128 | 320 => 129 | 337 => 134 | 338 => 135 | n => n, fun | 3 => 3 | 9 => 9 | 2 => 2 | 4 => 4 | 171 => 132 | 0 => 0 | 53 => 133 | 37 => 56 | 5 => 5 | 173 => 136 | 212 => 143 | 51 => 139 | 20 => 20 | 213 => 144 | 46 => 62 | 232 => 151 | 233 => 152 | n => n, fun | 17 => 3 | 18 => 4 | 19 => 5 | n => n⟩
theorem Tryd.laysM171 : Go.Proofs.LaysM.n171 Tryd.prog Tryd.laysM171_ren := {
  mixed := by kernel_rfl, f129 := Tryd.func126.trans (congrArg some (by kernel_rfl)), f171 := Tryd.func49.trans (congrArg some (by kernel_rfl)), f243 := Tryd.func72.trans (congrArg some (by kernel_rfl)), f246 := Tryd.func97.trans (congrArg some (by kernel_rfl)), f283 := Tryd.func113.trans (congrArg some (by kernel_rfl)), f284 := Tryd.func114.trans (congrArg some (by kernel_rfl)), f285 := Tryd.func115.trans (congrArg some (by kernel_rfl)), f286 := Tryd.func116.trans (congrArg some (by kernel_rfl)), f317 := Tryd.func125.trans (congrArg some (by kernel_rfl)), f318 := Tryd.func127.trans (congrArg some (by kernel_rfl)), f319 := Tryd.func128.trans (congrArg some (by kernel_rfl)), f320 := Tryd.func129.trans (congrArg some (by kernel_rfl)), f337 := Tryd.func134.trans (congrArg some (by kernel_rfl)), f338 := Tryd.func135.trans (congrArg some (by kernel_rfl)), t0 := Tryd.underlying0, a0 := Tryd.isAgg0, z0 := Tryd.sizeOf0, v0 := Tryd.zeroValue0, t2 := Tryd.underlying2, a2 := Tryd.isAgg2, z2 := Tryd.sizeOf2, v2 := Tryd.zeroValue2, t3 := Tryd.underlying3, a3 := Tryd.isAgg3, z3 := Tryd.sizeOf3, v3 := Tryd.zeroValue3, t4 := Tryd.underlying4, a4 := Tryd.isAgg4, z4 := Tryd.sizeOf4, v4 := Tryd.zeroValue4, t5 := Tryd.underlying5, a5 := Tryd.isAgg5, z5 := Tryd.sizeOf5, v5 := Tryd.zeroValue5, t9 := Tryd.underlying9, a9 := Tryd.isAgg9, z9 := Tryd.sizeOf9, v9 := Tryd.zeroValue9, t20 := Tryd.underlying20, a20 := Tryd.isAgg20, z20 := Tryd.sizeOf20, v20 := Tryd.zeroValue20, t37 := Tryd.underlying56, a37 := Tryd.isAgg56, z37 := Tryd.sizeOf56, v37 := Tryd.zeroValue56, t46 := Tryd.underlying62, a46 := Tryd.isAgg62, z46 := Tryd.sizeOf62, v46 := Tryd.zeroValue62, t51 := Tryd.underlying139, a51 := Tryd.isAgg139, z51 := Tryd.sizeOf139, v51 := Tryd.zeroValue139, t53 := Tryd.underlying133, a53 := Tryd.isAgg133, z53 := Tryd.sizeOf133, v53 := Tryd.zeroValue133, t171 := Tryd.underlying132, a171 := Tryd.isAgg132, z171 := Tryd.sizeOf132, v171 := Tryd.zeroValue132, t173 := Tryd.underlying136, a173 := Tryd.isAgg136, z173 := Tryd.sizeOf136, v173 := Tryd.zeroValue136, t212 := Tryd.underlying143, a212 := Tryd.isAgg143, z212 := Tryd.sizeOf143, v212 := Tryd.zeroValue143, t213 := Tryd.underlying144, a213 := Tryd.isAgg144, z213 := Tryd.sizeOf144, t232 := Tryd.underlying151, a232 := Tryd.isAgg151, z232 := Tryd.sizeOf151, v232 := Tryd.zeroValue151, t233 := Tryd.underlying152, a233 := Tryd.isAgg152, z233 := Tryd.sizeOf152, v233 := Tryd.zeroValue152, g17 := by kernel_rfl, g18 := by kernel_rfl, g19 := by kernel_rfl, i0 := by kernel_rfl, i2 := by kernel_rfl, i3 := by kernel_rfl, i4 := by kernel_rfl, i5 := by kernel_rfl, i9 := by kernel_rfl, i20 := by kernel_rfl, i37 := by kernel_rfl, i46 := by kernel_rfl, i51 := by kernel_rfl, i53 := by kernel_rfl, i171 := by kernel_rfl, i173 := by kernel_rfl, i212 := by kernel_rfl, i232 := by kernel_rfl, i233 := by kernel_rfl, m17 := by kernel_rfl, m18 := by kernel_rfl, m19 := by kernel_rfl }
end Go.Proofs
namespace Lg
open Go Go.Proofs Go.RowKit
/-- The table of the powers of ten lies there. -/
class S10 [GLay] : Prop where
  tabs : ∀ w : World, Laid w → Go.Lib.TabIs Tryd.prog w "internal/strconv.uint64pow10" .u64 Go.Lib.pow10Tab
variable [GLay]
theorem PW.int1 {s : CS} {k : IntKind} {n : Int} {vs : List Value} (h : PW s [.int k n] vs) : vs = [.int k n] := by
  obtain ⟨h1, h2⟩ := h
  match vs, h1 with
  | [v], _ => rw [(h2 0 (.int k n) v rfl rfl).inv_int]
variable [S10]
theorem itoa_c (n : Int) (σ : List AO) (h0 : -9223372036854775808 ≤ n) (h1 : n ≤ 9223372036854775807) : ACalls Tryd.prog 49 [.int .i64 n] σ (Ret (.str (itoaB n)) σ) :=
  ACalls_below fun st cargs g hp => by
    rw [hp.int1]
    refine ⟨.string ⟨(Go.Lib.itoa n).toArray⟩, fun _ => ?_, (Any.strconv_Itoa Tryd.laysM171 n h0 h1 st.w (S10.tabs _ g.laid)).mono ?_⟩
    rotate_left
    · rintro e w' ⟨rfl, k, os, rfl⟩
      exact ⟨rfl, rfl, rfl, rfl, by simp [Go.Sort.grow], fun i hi => by
        show ((st.w.drewN k).heap ++ os)[i]? = _
        rw [Array.getElem?_append_left (by show i < st.w.heap.size; omega)]
        rfl⟩
    · exact .str _
end Lg
namespace Lg
open Go Go.Proofs Go.RowKit
/-- The table, from the world that a row has. -/
theorem S10.of [g : GLay] {W : World} (hT : Go.Lib.TabIs Tryd.prog W "internal/strconv.uint64pow10" .u64 Go.Lib.pow10Tab) (hg : ∀ b, g.f b = W.heap[b]?) : S10 := ⟨fun w hw => by
  unfold Go.Lib.TabIs World.var? at *
  cases hn : Tryd.prog.globalNamed "internal/strconv.uint64pow10" with
  | none => rw [hn] at hT; simp at hT
  | some b =>
    rw [hn] at hT
    simp only [Option.bind_some] at *
    cases hb : W.heap[b]? with
    | none => rw [hb] at hT; simp at hT
    | some o => rw [hb] at hT; rw [hw b o ((hg b).trans hb)]; exact hT⟩
end Lg
set_option maxRecDepth 20000
set_option maxHeartbeats 4000000
namespace Lg
open Go Go.Proofs Go.RowKit
variable [GLay] [S10]
theorem pshow_c (n : JNum) (σ : List AO) (hb : n.digits.size ≤ 1000000 ∧ -1000000 ≤ n.exp ∧ n.exp ≤ 1000000) : ACalls Tryd.prog 60 [.agg (ncells n)] σ (Ret (.str (jshow n)) σ) := by
 refine ACalls_body Tryd.func60 rfl Tryd.ntmps60 (res1 Tryd.results60) (Nat.le_of_ble_eq_true rfl) (fun hcl hal => ?_)
 have h1s : (ByteArray.mk #[45]).size = 1 := rfl
 have h2s : (ByteArray.mk #[101]).size = 1 := rfl
 have hsz := itoa_size (n := n.exp) (by omega) (by omega)
 have hsa := ByteArray.size_append (a := (⟨#[45]⟩ : ByteArray)) (b := n.digits)
 have hsb := ByteArray.size_append (a := n.digits) (b := (⟨#[101]⟩ : ByteArray))
 have hsc := ByteArray.size_append (a := (⟨#[45]⟩ : ByteArray) ++ n.digits) (b := (⟨#[101]⟩ : ByteArray))
 have hsd := ByteArray.size_append (a := (⟨#[101]⟩ : ByteArray)) (b := itoaB n.exp)
 refine zw2 ?_
 refine AWp_seq ?_
 refine zw3 ?_
 refine AWp_cond rfl (fun h1 => ?_) (fun h1 => ?_)
 ·(try rw [h1]); replace h1 := zcl h1
  refine zw1 ?_
  refine zrt ?_
  refine ResQ_1 rfl hcl trivial (Ret_of ?_)
  unfold jshow; (try simp only [opv, Env.look, lookL]); (try simp only [← ByteArray.append_assoc]); first | (rw [if_pos (by assumption)]; done) | (rw [if_neg (by assumption), if_pos (by assumption), if_pos (by assumption)]; done) | (rw [if_neg (by assumption), if_pos (by assumption), if_neg (by simp [*])]; done) | (rw [if_neg (by assumption), if_neg (by assumption), if_pos (by assumption)]; done) | (rw [if_neg (by assumption), if_neg (by assumption), if_neg (by simp [*])]; done)
 ·(try rw [h1]); replace h1 := zcl h1
  refine AWp_skip ?_
  refine zw3 ?_
  refine AWp_seq ?_
  refine zw2 ?_
  refine AWp_cond rfl (fun h2 => ?_) (fun h2 => ?_)
  ·(try rw [h2]); replace h2 := zcl h2
   refine AWp_regL ?_
   refine zv3 ?_
   refine AWp_seq ?_
   refine zw3 ?_
   refine AWp_cond rfl (fun h3 => ?_) (fun h3 => ?_)
   ·(try rw [h3]); replace h3 := zcl h3
    refine AWp_regL ?_
    refine zg3 ?_
    refine zt rfl (zc rfl (itoa_c n.exp _ (by omega) (by omega))) ?_
    refine zv3 ?_
    refine zw2 ?_
    refine zrt ?_
    refine ResQ_1 rfl hcl trivial (Ret_of ?_)
    unfold jshow; (try simp only [opv, Env.look, lookL]); (try simp only [← ByteArray.append_assoc]); first | (rw [if_pos (by assumption)]; done) | (rw [if_neg (by assumption), if_pos (by assumption), if_pos (by assumption)]; done) | (rw [if_neg (by assumption), if_pos (by assumption), if_neg (by simp [*])]; done) | (rw [if_neg (by assumption), if_neg (by assumption), if_pos (by assumption)]; done) | (rw [if_neg (by assumption), if_neg (by assumption), if_neg (by simp [*])]; done)
   ·(try rw [h3]); replace h3 := zcl h3
    refine AWp_skip ?_
    refine zw2 ?_
    refine zrt ?_
    refine ResQ_1 rfl hcl trivial (Ret_of ?_)
    unfold jshow; (try simp only [opv, Env.look, lookL]); (try simp only [← ByteArray.append_assoc]); first | (rw [if_pos (by assumption)]; done) | (rw [if_neg (by assumption), if_pos (by assumption), if_pos (by assumption)]; done) | (rw [if_neg (by assumption), if_pos (by assumption), if_neg (by simp [*])]; done) | (rw [if_neg (by assumption), if_neg (by assumption), if_pos (by assumption)]; done) | (rw [if_neg (by assumption), if_neg (by assumption), if_neg (by simp [*])]; done)
  ·(try rw [h2]); replace h2 := zcl h2
   refine AWp_skip ?_
   refine AWp_seq ?_
   refine zw3 ?_
   refine AWp_cond rfl (fun h4 => ?_) (fun h4 => ?_)
   ·(try rw [h4]); replace h4 := zcl h4
    refine AWp_regL ?_
    refine zg3 ?_
    refine zt rfl (zc rfl (itoa_c n.exp _ (by omega) (by omega))) ?_
    refine zv3 ?_
    refine zw2 ?_
    refine zrt ?_
    refine ResQ_1 rfl hcl trivial (Ret_of ?_)
    unfold jshow; (try simp only [opv, Env.look, lookL]); (try simp only [← ByteArray.append_assoc]); first | (rw [if_pos (by assumption)]; done) | (rw [if_neg (by assumption), if_pos (by assumption), if_pos (by assumption)]; done) | (rw [if_neg (by assumption), if_pos (by assumption), if_neg (by simp [*])]; done) | (rw [if_neg (by assumption), if_neg (by assumption), if_pos (by assumption)]; done) | (rw [if_neg (by assumption), if_neg (by assumption), if_neg (by simp [*])]; done)
   ·(try rw [h4]); replace h4 := zcl h4
    refine AWp_skip ?_
    refine zw2 ?_
    refine zrt ?_
    refine ResQ_1 rfl hcl trivial (Ret_of ?_)
    unfold jshow; (try simp only [opv, Env.look, lookL]); (try simp only [← ByteArray.append_assoc]); first | (rw [if_pos (by assumption)]; done) | (rw [if_neg (by assumption), if_pos (by assumption), if_pos (by assumption)]; done) | (rw [if_neg (by assumption), if_pos (by assumption), if_neg (by simp [*])]; done) | (rw [if_neg (by assumption), if_neg (by assumption), if_pos (by assumption)]; done) | (rw [if_neg (by assumption), if_neg (by assumption), if_neg (by simp [*])]; done)
end Lg
namespace Lg
open Go Go.RowKit
variable [GLay]
variable {P : Program} {N : Nat} {σ l : List AO} {e : Env} {Q : QA} {o : Oper}
/-- A row of bytes that has grown, in its old block, or in a new one. -/
theorem Good.renewB {s : CS} (g : Good s) {p : Nat} {T : TypeId} {l l' : List UInt8} (ho : s.σ[p]? = some (.bytes T l)) (hg : l.length < l'.length) (m : Pl) {w' : World}
    (hsize : s.w.heap.size ≤ w'.heap.size) (htape : w'.tape = s.w.tape) (hos : w'.os = s.w.os) (hout : w'.output = s.w.output)
    (hframe : ∀ b, b < s.w.heap.size → (s.live p → b ≠ (s.μ p).b) → w'.heap[b]? = s.w.heap[b]?)
    (hm : ((m.b = (s.μ p).b ∧ s.live p) ∨ (s.w.heap.size ≤ m.b ∧ m.b < w'.heap.size)) ∧ m.tot ≠ 0 ∧ ∃ vs, w'.heap[m.b]? = some (.cells (List.toArray vs) T (0, 0)) ∧ vs.length = m.tot ∧ l'.length ≤ m.tot ∧ vs.take l'.length = bcl l') :
    ∃ s', s'.σ = s.σ.set p (.bytes T l') ∧ s'.w = w' ∧ Good s' ∧ Ext s s' ∧ s'.μ p = m := by
  have hlt : p < s.σ.length := (List.getElem?_eq_some_iff.1 ho).1
  let s' : CS := { s with σ := s.σ.set p (.bytes T l'), μ := fun q => if q = p then m else s.μ q, w := w' }
  have hother : ∀ {q : Nat}, q ≠ p → s'.σ[q]? = s.σ[q]? ∧ s'.μ q = s.μ q := fun {q} hq =>
    ⟨by show (s.σ.set p _)[q]? = _; rw [List.getElem?_set, if_neg (fun e => hq e.symm)], by show (if q = p then m else s.μ q) = _; rw [if_neg hq]⟩
  have hthis : s'.σ[p]? = some (.bytes T l') ∧ s'.μ p = m := ⟨by show (s.σ.set p _)[p]? = _; simp [hlt], by show (if p = p then m else s.μ p) = _; rw [if_pos rfl]⟩
  have hlive' : ∀ {q : Nat}, q ≠ p → s'.live q → s.live q := fun {q} hq h => by
    unfold CS.live at h ⊢; rw [(hother hq).1, (hother hq).2] at h; exact h
  have hlp : s'.live p → (m.b = (s.μ p).b ∧ s.live p) ∨ (s.w.heap.size ≤ m.b ∧ m.b < w'.heap.size) := fun h => by
    unfold CS.live at h; rw [hthis.1, hthis.2] at h
    exact hm.1
  have hfr : ∀ {b : Nat}, b < s.w.heap.size → (s.live p → b ≠ (s.μ p).b) → w'.heap[b]? = s.w.heap[b]? := fun h1 h2 => hframe _ h1 h2
  have x : Ext s s' := {
    objs := fun q r hr => by
      by_cases e : q = p
      · subst e
        rw [ho] at hr; cases hr
        exact ⟨_, hthis.1, .bytes _ _ _ (by omega), fun (h : l.length = l'.length) => by omega⟩
      · exact ⟨r, by rw [(hother e).1]; exact hr, OLe.refl r, fun _ => (hother e).2⟩
    ok := fun _ h => h
    okn := fun _ h => .inl h
    mun := fun q hq => by
      by_cases e : q = p
      · subst e
        rw [hthis.2]
        rcases hlp hq with ⟨h1, h2⟩ | ⟨h1, _⟩
        · exact .inl ⟨hlt, h2, h1⟩
        · exact .inr h1
      · exact .inl ⟨CS.live_lt (hlive' e hq), hlive' e hq, by rw [(hother e).2]⟩
    frame := fun b hb hne => hfr hb fun hl e => hne p hl e.symm
    size := hsize
    shp := fun q cs cs' z h1 _ h3 => by
      have e : q ≠ p := fun e => by subst e; rw [ho] at h1; cases h1
      have hq : s.live q := by unfold CS.live; rw [h1]; trivial
      rw [(hother e).2]
      exact (shape_eq (hfr (shape_some h3) fun hl => g.inj q p e hq hl)).trans h3
    tape := htape
    os := hos
    output := hout }
  refine ⟨s', rfl, rfl, ⟨fun b hb => Nat.lt_of_lt_of_le (g.okb b hb) hsize, fun q r hr => ?_, fun q q' hne h1 h2 => ?_, fun b r hr => ?_⟩, x, hthis.2⟩
  · by_cases e : q = p
    · subst e
      rw [hthis.1] at hr; cases hr
      obtain ⟨h1, h0, vs, h2, h3, h4, h5⟩ := hm
      refine .inr ⟨by rw [hthis.2]; exact h0, ?_, vs, by rw [hthis.2]; exact h2, by rw [hthis.2]; exact h3, by rw [hthis.2]; exact h4, h5⟩
      rw [hthis.2]
      rcases h1 with ⟨h1, hl⟩ | ⟨h1, _⟩
      · rw [h1]; exact (g.live_lt hl).2
      · exact fun hk => absurd (g.okb _ hk) (by omega)
    · have hr' : s.σ[q]? = some r := by rw [← (hother e).1]; exact hr
      by_cases hq : s.live q
      · obtain ⟨h1, vs1, T1, h2, h3⟩ := g.rep hr' hq
        refine RepW.orep (T := T1) (vs := vs1) (by rw [(hother e).2]; exact h1) ?_ (by rw [(hother e).2]; exact h3.mono g x)
        rw [(hother e).2]
        exact (hfr (g.live_lt hq).1 fun hl => g.inj q p e hq hl).trans h2
      · have hor := g.obj q r hr'
        unfold CS.live at hq
        rw [hr'] at hq
        cases r with
        | box cs => exact absurd trivial hq
        | arr sz1 gg1 cs1 =>
          rcases hor with hor | hor
          · exact .inl (by rw [(hother e).2]; exact hor)
          · exact absurd hor.1 hq
        | bytes T1 l1 =>
          rcases hor with hor | hor
          · exact .inl (by rw [(hother e).2]; exact hor)
          · exact absurd hor.1 hq
        | gone => trivial
        | dead => trivial
  · by_cases e : q = p
    · subst e
      rw [hthis.2, (hother (fun e => hne e.symm)).2]
      have h2' := hlive' (fun e => hne e.symm) h2
      rcases hlp h1 with ⟨h3, h4⟩ | ⟨h3, _⟩
      · rw [h3]; exact g.inj _ _ hne h4 h2'
      · have := (g.live_lt h2').1; omega
    · by_cases e' : q' = p
      · subst e'
        rw [hthis.2, (hother e).2]
        have h1' := hlive' e h1
        rcases hlp h2 with ⟨h3, h4⟩ | ⟨h3, _⟩
        · rw [h3]; exact g.inj _ _ hne h1' h4
        · have := (g.live_lt h1').1; omega
      · rw [(hother e).2, (hother e').2]; exact g.inj _ _ hne (hlive' e h1) (hlive' e' h2)
  · obtain ⟨h1, h2⟩ := g.glob b r hr
    exact ⟨h1, (hfr (g.okb b h1) fun hl e => (g.live_lt hl).2 (e ▸ h1)).trans h2⟩

theorem Good.ghostB {s : CS} (g : Good s) (T : TypeId) : ∃ s', s'.σ = s.σ ++ [.bytes T []] ∧ s'.w = s.w ∧ Good s' ∧ Ext s s' := by
  let s' : CS := { s with σ := s.σ ++ [.bytes T []], μ := fun p => if p = s.σ.length then ⟨0, 0, 0⟩ else s.μ p }
  have hlt : ∀ {p : Nat} {o : AO}, s.σ[p]? = some o → p < s.σ.length := fun h => (List.getElem?_eq_some_iff.1 h).1
  have hold : ∀ {p : Nat}, p < s.σ.length → s'.σ[p]? = s.σ[p]? ∧ s'.μ p = s.μ p := fun {p} h =>
    ⟨by show (s.σ ++ [_])[p]? = _; rw [List.getElem?_append_left h], by show (if p = _ then _ else _) = _; rw [if_neg (by omega)]⟩
  have hnew : s'.σ[s.σ.length]? = some (.bytes T []) ∧ s'.μ s.σ.length = ⟨0, 0, 0⟩ := ⟨by show (s.σ ++ [_])[_]? = _; simp, by show (if _ = _ then _ else _) = _; rw [if_pos rfl]⟩
  have hlive : ∀ {p : Nat}, s'.live p → p < s.σ.length ∧ s.live p ∧ s'.μ p = s.μ p := fun {p} h => by
    have hp := CS.live_lt h
    have hl : s'.σ.length = s.σ.length + 1 := by show (s.σ ++ [_]).length = _; simp
    rcases Nat.lt_or_ge p s.σ.length with h1 | h1
    · refine ⟨h1, ?_, (hold h1).2⟩
      unfold CS.live at h ⊢
      rw [(hold h1).1, (hold h1).2] at h
      exact h
    · have : p = s.σ.length := by omega
      subst this
      unfold CS.live at h
      rw [hnew.1, hnew.2] at h
      exact absurd rfl h
  have x : Ext s s' := {
    objs := fun p o h => ⟨o, by rw [(hold (hlt h)).1]; exact h, OLe.refl o, fun _ => (hold (hlt h)).2⟩
    ok := fun _ h => h
    okn := fun _ h => .inl h
    mun := fun p h => .inl ⟨(hlive h).1, (hlive h).2.1, by rw [(hlive h).2.2]⟩
    frame := fun b _ _ => rfl
    size := Nat.le_refl _
    shp := fun p cs cs' z h1 _ h3 => by
      rw [(hold (hlt h1)).2]; exact h3
    tape := rfl
    os := rfl
    output := rfl }
  refine ⟨s', rfl, rfl, ⟨g.okb, fun p o ho => ?_, fun p q hpq hp hq => ?_, g.glob⟩, x⟩
  · rcases Nat.lt_or_ge p s.σ.length with hp | hp
    · have ho' : s.σ[p]? = some o := by rw [← (hold hp).1]; exact ho
      exact (g.obj p o ho').mono g x (hold hp).2 id fun vs T hb _ => hb
    · have hl : s'.σ.length = s.σ.length + 1 := by show (s.σ ++ [_]).length = _; simp
      have : p = s.σ.length := by have := (List.getElem?_eq_some_iff.1 ho).1; omega
      subst this
      rw [hnew.1] at ho; cases ho
      exact .inl ⟨by rw [hnew.2], rfl⟩
  · rw [(hlive hp).2.2, (hlive hq).2.2]; exact g.inj p q hpq (hlive hp).2.1 (hlive hq).2.1


/-! ### Rows of bytes -/
def bav (l : List UInt8) : List AV := l.map fun b => .int .u8 b.toNat
theorem bav_len (l : List UInt8) : (bav l).length = l.length := by simp [bav]
theorem bcl_len (l : List UInt8) : (bcl l).length = l.length := by simp [bcl]
theorem bcl_app (a b : List UInt8) : bcl (a ++ b) = bcl a ++ bcl b := by simp [bcl]
theorem bav_pw {s : CS} {l : List UInt8} {vs : List Value} (h : PW s (bav l) vs) : vs = bcl l := by
  refine List.ext_getElem? fun i => ?_
  rcases Nat.lt_or_ge i l.length with hi | hi
  · have h1 : (bav l)[i]? = some (.int .u8 (l[i]).toNat) := by simp [bav, hi]
    obtain ⟨v, h2, h3⟩ := h.get h1
    rw [h2, h3.inv_int]
    simp [bcl, hi]
  · rw [List.getElem?_eq_none (by rw [h.1, bav_len]; exact hi), List.getElem?_eq_none (by rw [bcl_len]; exact hi)]
theorem bav_ones (l : List UInt8) : ones (bav l) = true := by
  rw [ones_iff]; intro a ha
  obtain ⟨b, _, rfl⟩ := List.mem_map.1 ha
  rfl
theorem BAt.mk {s : CS} {p : Nat} {T : TypeId} {l : List UInt8} {R : Pl → Prop} (hσ : s.σ[p]? = some (.bytes T l)) (h : R (s.μ p)) : BAt s p l.length R := by
  unfold BAt; rw [hσ]; exact ⟨Nat.le_refl _, fun _ => h⟩
theorem V.inv_bts {s : CS} {p n : Nat} {c : Value} {T : TypeId} {l : List UInt8} (h : V s (.bts p n) c) (hs : s.σ[p]? = some (.bytes T l)) (hn : n = l.length) :
    (c = .slice none 0 0 ∧ n = 0) ∨ ∃ cap, c = .slice (some ⟨(s.μ p).b, 0, none⟩) n cap ∧ n ≤ cap ∧ cap ≤ (s.μ p).tot ∧ cap ≠ 0 := by
  cases h with | bts _ _ _ _ h => unfold BAt at h; rw [hs] at h; exact h.2 hn
/-- append to a row of bytes of the call's own. -/
theorem op_appendB {x y : Operand} {t u E : TypeId} {i : TypeInfo} {z : Value} {d : TypeDesc} {p n : Nat} {l l2 : List UInt8} (ho : o.op = .call { callee := .builtin .append, args := #[x, y], argTypes := #[t, u] })
    (hd : d = .string ∨ ∃ E', d = .slice E') (ht : P.underlying t = some (.slice E)) (hu : P.underlying u = some d) (hi : P.info? E = some i) (hz : i.zero = some z) (hsz : i.size = 1) (hzs : z.cells.size = 1)
    (hx : opv e x = .bts p n) (hσ : σ[p]? = some (.bytes E l)) (hn : n = l.length) (hy : srcv σ (opv e y) = some (bav l2, l2.length)) (hys : szv (opv e y) 1)
    (hby : (n + l2.length) * i.bytes ≤ 140737488355328) (h63 : n + l2.length ≤ 9223372036854775807) :
    AOp P σ e o (.bts p (n + l2.length)) (σ.set p (.bytes E (l ++ l2))) := by
  intro s a hs g hv K Q hk _
  subst hs
  subst hn
  have hplt : p < s.σ.length := (List.getElem?_eq_some_iff.1 hσ).1
  obtain ⟨news, hp, hl, hf⟩ := (hv y (by simp [ho, Op.operands, Call.operands])).src g hy (by rw [← hsz] at hys; exact hys)
  have hnews := bav_pw hp
  subst hnews
  have hexec : ∀ {v v' : Value} {w' : World}, a.eval x = v → (Builtin.append_ #[t, u] o.type #[v, a.eval y]).run P s.w = .ok v' w' → (execOp a.eval o).run P s.w = .ok (.value v') w' := fun {v v' w'} h2 h3 => by
    simp only [execOp, ho, resolve, invoke, builtin, Sem.run_bind, Sem.run_pure, Result.andThen_ok, List.map_toArray, List.map_cons, List.map_nil, h2]
    rw [h3]; rfl
  have hxv := hx ▸ hv x (by simp [ho, Op.operands, Call.operands])
  have hval := hxv.inv_bts hσ rfl
  by_cases hm : l2 = []
  · subst hm
    obtain ⟨A, n', c, hA, hnc⟩ : ∃ A n' c, a.eval x = .slice A n' c ∧ n' ≤ c := by
      rcases hval with ⟨h, _⟩ | ⟨cap, h, hc, _⟩
      · exact ⟨none, 0, 0, h, Nat.le_refl _⟩
      · exact ⟨_, _, _, h, hc⟩
    have hset : s.σ.set p (.bytes E (l ++ [])) = s.σ := by
      rw [List.append_nil]
      have := (List.getElem?_eq_some_iff.1 hσ).2
      rw [← this]; exact List.set_getElem_self hplt
    refine wp_value (w' := s.w) (hexec hA (run_append_zero hd ht hu hi hl (hf _ rfl) hnc)) (hk _ _ s ⟨rfl, hset.symm⟩ g (Ext.refl s) ?_)
    rw [← hA]; exact hxv
  · have hm0 : 0 < l2.length := List.length_pos_iff.2 hm
    have hV : ∀ {s' : CS} {v : Value} {cap : Nat}, s'.σ = s.σ.set p (.bytes E (l ++ l2)) → v = .slice (some ⟨(s'.μ p).b, 0, none⟩) (l.length + l2.length) cap → l.length + l2.length ≤ cap → cap ≤ (s'.μ p).tot → V s' (.bts p (l.length + l2.length)) v := fun {s' v cap} h1 h2 h3 h4 => by
      subst h2
      have := BAt.mk (s := s') (p := p) (T := E) (l := l ++ l2) (R := fun m => (Value.slice (some ⟨(s'.μ p).b, 0, none⟩) (l.length + l2.length) cap = .slice none 0 0 ∧ l.length + l2.length = 0) ∨ ∃ cap', Value.slice (some ⟨(s'.μ p).b, 0, none⟩) (l.length + l2.length) cap = .slice (some ⟨m.b, 0, none⟩) (l.length + l2.length) cap' ∧ l.length + l2.length ≤ cap' ∧ cap' ≤ m.tot ∧ cap' ≠ 0) (by rw [h1]; simp [hplt]) (.inr ⟨cap, rfl, h3, h4, by omega⟩)
      rw [List.length_append] at this
      exact .bts _ _ _ rfl this
    have hnewblock : ∀ {A : Option Addr} {cap0 : Nat}, a.eval x = .slice A l.length cap0 → cap0 < l.length + l2.length → (Builtin.firstCells i.size l.length (.slice A l.length cap0)).run P s.w.drew = .ok (bcl l).toArray s.w.drew → o.wp P a s.w K Q := fun {A cap0} hA hroom hfo => by
      obtain ⟨rest, cap, hc1, hc2, hrun⟩ := run_append_new' (ty := o.type) (A := A) (sLen := l.length) (sCap := cap0) (olds := bcl l) (news := bcl l2) (x := a.eval y) hd ht hu hi hz hl (hf _ rfl) hfo hroom h63 hby
      have htot : (bcl l ++ bcl l2 ++ rest).length = cap := by
        simp only [List.length_append, bcl_len, hc2, hzs]; omega
      obtain ⟨s', e1, e2, g', x', hμ⟩ := g.renewB hσ (l' := l ++ l2) (by rw [List.length_append]; omega) ⟨s.w.heap.size, 0, (bcl l ++ bcl l2 ++ rest).length⟩ (w' := s.w.drew.alloc (.cells (bcl l ++ bcl l2 ++ rest).toArray E (0, 0)))
        (by rw [alloc_size]; exact Nat.le_succ _) rfl rfl rfl (fun b hb _ => by rw [alloc_heap, if_neg (by rw [drew_heap]; omega)]; rfl)
        ⟨.inr ⟨Nat.le_refl _, by rw [alloc_size]; exact Nat.lt_succ_self _⟩, by show (bcl l ++ bcl l2 ++ rest).length ≠ 0; omega, _, by rw [alloc_heap]; exact if_pos rfl, rfl, by show (l ++ l2).length ≤ (bcl l ++ bcl l2 ++ rest).length; rw [htot, List.length_append]; exact hc1, by
          rw [bcl_app, ← bcl_len (l ++ l2), bcl_app, List.take_left]⟩
      exact wp_value (w' := s'.w) (by rw [e2]; exact hexec hA hrun) (hk _ _ s' ⟨rfl, e1⟩ g' x' (hV e1 (by rw [hμ]) hc1 (by rw [hμ]; show cap ≤ (bcl l ++ bcl l2 ++ rest).length; omega)))
    rcases hval with ⟨hA, h0⟩ | ⟨cap, hA, hlc, hct, hc0⟩
    · have hl0 : l = [] := List.eq_nil_of_length_eq_zero h0
      subst hl0
      exact hnewblock hA (by simpa using hm0) (firstCells_nil none _)
    · have ht0 : (s.μ p).tot ≠ 0 := by omega
      have hlive : s.live p := by unfold CS.live; rw [hσ]; exact ht0
      obtain ⟨_, vs, T, hb, _, h7, h8, h9, rfl⟩ := g.rep hσ hlive
      by_cases hroom : l.length + l2.length ≤ cap
      · have hrun := run_append_room' (ty := o.type) (b := (s.μ p).b) (off := 0) (sLen := l.length) (sCap := cap) (x := a.eval y) (news := bcl l2) (cur := vs) (T := T) hd ht hu hi hl (hf _ rfl) hroom hb (by rw [hsz, bcl_len]; omega) (one_of_pw hp (bav_ones l2))
        simp only [hsz, Nat.mul_one, Nat.zero_add, bcl_len] at hrun
        obtain ⟨s', e1, e2, g', x', hμ⟩ := g.renewB hσ (l' := l ++ l2) (by rw [List.length_append]; omega) ⟨(s.μ p).b, 0, (s.μ p).tot⟩
          (w' := s.w.setRow (s.μ p).b (vs.take l.length ++ bcl l2 ++ vs.drop (l.length + l2.length)).toArray)
          (by simp) rfl rfl rfl (fun b _ hne => setRow_other _ _ _ _ (hne hlive))
          ⟨.inl ⟨rfl, hlive⟩, ht0, _, setRow_heap _ _ _ _ _ _ hb, by simp [bcl_len]; omega, by rw [List.length_append]; show _ ≤ (s.μ p).tot; omega, by
            rw [h9, bcl_app, ← bcl_len (l ++ l2), bcl_app, List.take_left]⟩
        exact wp_value (w' := s'.w) (by rw [e2]; exact hexec hA hrun) (hk _ _ s' ⟨rfl, e1⟩ g' x' (hV e1 (by rw [hμ]) hroom (by rw [hμ]; exact hct)))
      · refine hnewblock hA (by omega) ?_
        rw [hsz]
        refine run_firstCells_some s.w.drew 1 l.length _ l.length cap _ (by rw [bcl_len]; omega) fun j v hj => ?_
        rw [add_none]
        show s.w.cell? _ = _
        rw [cells_get hb, Nat.zero_add]
        rw [← h9, List.getElem?_take] at hj
        split at hj
        · exact hj
        · cases hj
end Lg
namespace Lg
open Go Go.RowKit
variable [GLay]
variable {P : Program} {N : Nat} {σ l : List AO} {e : Env} {Q : QA} {o : Oper}
/-- A nil slice in a cell of a box of the call's own becomes a row of bytes of no block. -/
theorem AWp_ghostInB {c : Code} (q i : Nat) (T : TypeId) {bs : List AV} (hq : σ[q]? = some (.box bs)) (hi : bs[i]? = some .nils) (k : AWp P N c e ((σ ++ [AO.bytes T []]).set q (.box (bs.set i (.bts σ.length 0)))) Q) : AWp P N c e σ Q := fun s0 s a hs g x he => by
  subst hs
  obtain ⟨s1, e1, e2, g1, x1⟩ := g.ghostB T
  have hqlt : q < s.σ.length := (List.getElem?_eq_some_iff.1 hq).1
  have hq1 : s1.σ[q]? = some (.box bs) := by rw [e1, List.getElem?_append_left hqlt]; exact hq
  have hlive1 : s1.live q := by unfold CS.live; rw [hq1]; trivial
  obtain ⟨_, vs, T', hb, hp⟩ := g1.rep hq1 hlive1
  have hp : PW s1 bs vs := hp
  obtain ⟨v, hv1, hv2⟩ := hp.get hi
  have hv0 := hv2.inv_nils
  have hv' : V s1 (.bts s.σ.length 0) v := by
    rw [hv0]
    exact .bts _ _ _ rfl (BAt.mk (T := T) (l := []) (by rw [e1]; simp) (.inl ⟨rfl, rfl⟩))
  have hset : vs.set i v = vs := by
    obtain ⟨h1, h2⟩ := List.getElem?_eq_some_iff.1 hv1
    rw [← h2]; exact List.set_getElem_self h1
  have hnew : PW s1 (bs.set i (.bts s.σ.length 0)) vs := by
    have := hp.set i hv'
    rwa [hset] at this
  obtain ⟨s2, f1, f2, g2, x2, _⟩ := g1.setObj hq1 hlive1 (o' := .box (bs.set i (.bts s.σ.length 0))) (.box _ _ (by simp)) trivial hnew
  have hw : s2.w = s.w := by rw [f2, ← e2, setRow_self _ _ _ _ _ hb]
  have := k s0 s2 a (by rw [f1, e1]) g2 ((x.trans x1).trans x2) ((he.mono g x1).mono g1 x2)
  rwa [hw] at this
/-- A new box, one of whose cells, a nil pointer, knows the box's type. -/
theorem Good.boxT {s : CS} (g : Good s) {cs : List AV} {vs : List Value} (h : PW s cs vs) (T : TypeId) (k : Nat) (hk : cs[k]? = some .nilp) :
    ∃ s', s'.σ = s.σ ++ [.box (cs.set k (.nilT s.σ.length T cs.length))] ∧ s'.w = s.w.alloc (.cells vs.toArray T (0, 0)) ∧ Good s' ∧ Ext s s' ∧
      V s' (.ptr s.σ.length 0) (.pointer (some ⟨s.w.heap.size, 0, none⟩)) := by
  obtain ⟨s1, e1, e2, g1, x1, hv⟩ := g.box h T
  have hq1 : s1.σ[s.σ.length]? = some (.box cs) := by rw [e1]; simp
  have hlive1 : s1.live s.σ.length := by unfold CS.live; rw [hq1]; trivial
  have hp : PW s1 cs vs := h.mono g x1
  have hμ : (s1.μ s.σ.length).b = s.w.heap.size := by
    have := hv.inv_ptr
    injection this with h1
    injection h1 with h1
    injection h1 with h1
    exact h1.symm
  have hb : s1.w.heap[(s1.μ s.σ.length).b]? = some (.cells vs.toArray T (0, 0)) := by rw [hμ, e2, alloc_heap, if_pos rfl]
  obtain ⟨v, hv1, hv2⟩ := hp.get hk
  have hv0 := hv2.inv_nilp
  have hv' : V s1 (.nilT s.σ.length T cs.length) v := by
    rw [hv0]
    refine .nilT _ _ _ ?_
    unfold BoxOf
    rw [hq1]
    show s1.w.shape? _ = _
    unfold World.shape?
    rw [hb]; simp [h.1]
  have hset : vs.set k v = vs := by
    obtain ⟨h1, h2⟩ := List.getElem?_eq_some_iff.1 hv1
    rw [← h2]; exact List.set_getElem_self h1
  have hnew : PW s1 (cs.set k (.nilT s.σ.length T cs.length)) vs := by
    have := hp.set k hv'
    rwa [hset] at this
  obtain ⟨s2, f1, f2, g2, x2, _⟩ := g1.setObj hq1 hlive1 (o' := .box (cs.set k (.nilT s.σ.length T cs.length))) (.box _ _ (by simp)) trivial hnew
  have hw : s2.w = s1.w := by rw [f2, setRow_self _ _ _ _ _ hb]
  refine ⟨s2, ?_, by rw [hw, e2], g2, x1.trans x2, hv.mono g1 x2⟩
  rw [f1, e1, List.set_append_right _ _ (Nat.le_refl _)]; simp
theorem op_boxT {T : TypeId} {x : Operand} {cs : List AV} (k : Nat) (ho : o.op = .box T x) (hx : (opv e x).cells = cs) (h1 : ones cs = true) (hk : cs[k]? = some .nilp) : AOp P σ e o (.ptr σ.length 0) (σ ++ [.box (cs.set k (.nilT σ.length T cs.length))]) := by
  intro s a hs g hv K Q hk' _
  subst hs
  subst hx
  obtain ⟨vs, hvs, hp, _⟩ := (hv x (by simp [ho, Op.operands])).cells h1
  obtain ⟨s', e1, e2, g', x', hv'⟩ := g.boxT hp T k hk
  refine wp_value (w' := s'.w) ?_ (hk' _ _ s' ⟨rfl, e1⟩ g' x' hv')
  have : (a.eval x).cells = vs.toArray := by rw [← hvs]
  rw [e2]
  simp [execOp, ho, Instr.box, newVar, newRow, newObj, this, Sem.run]
theorem op_allocT {T : TypeId} {z : Value} {cs : List AV} (k : Nat) (ho : o.op = .alloc T) (hz : ∀ w, (zeroValue T).run P w = Result.ok z w) (hx : z.cells.toList.map ofConst1 = cs) (hk : cs[k]? = some .nilp) : AOp P σ e o (.ptr σ.length 0) (σ ++ [.box (cs.set k (.nilT σ.length T cs.length))]) := by
  intro s a hs g hv K Q hk' _
  subst hs
  subst hx
  have hp : PW s (z.cells.toList.map ofConst1) z.cells.toList := ⟨by simp, fun i c v h1 h2 => by
    rw [List.getElem?_map, h2] at h1; simp at h1; subst h1; exact V_ofConst1 s v⟩
  obtain ⟨s', e1, e2, g', x', hv'⟩ := g.boxT hp T k hk
  refine wp_value (w' := s'.w) ?_ (hk' _ _ s' ⟨rfl, e1⟩ g' x' hv')
  rw [e2]
  simp [execOp, ho, Instr.alloc, hz, newVar, newRow, newObj, Sem.run]
theorem V.inv_nilT {s : CS} {p n : Nat} {T : TypeId} {c : Value} (h : V s (.nilT p T n) c) : c = .pointer none ∧ BoxOf s p T n := by cases h; exact ⟨rfl, by assumption⟩
section ptrs
variable {T E T' : TypeId} {x y : Operand}
theorem op_eqNT {p n : Nat} {U : TypeId} (ho : o.op = .binOp .eql T x y T') (hu : P.underlying T = some (.pointer E)) (hx : opO e x = some (.nilT p U n)) (hy : opO e y = some .nilp) : AOp P σ e o (.bool true) σ :=
  op_bin ho (opO_eq hx) (opO_eq hy) fun s cx cy _ _ h1 h2 => by
    have hp : P.pointee T = E := by simp [Program.pointee, hu]
    rw [h1.inv_nilT.1, h2.inv_nilp]
    exact ⟨_, run_eql_pointer_nil s.w T _ (by rw [hp]; exact hu), .bool _, eqGuard_ptr ..⟩
theorem op_nePS {p off : Nat} (ho : o.op = .binOp .neq T x y T') (hu : P.underlying T = some (.pointer E)) (hi : (P.info? E).isSome = true) (hx : opO e x = some (.ptr p off)) (hy : opO e y = some (.ptr p off)) : AOp P σ e o (.bool false) σ :=
  op_bin ho (opO_eq hx) (opO_eq hy) fun s cx cy _ _ h1 h2 => by
    obtain ⟨j, hj⟩ := Option.isSome_iff_exists.1 hi
    rw [h1.inv_ptr, h2.inv_ptr]
    exact ⟨_, Lib.run_neq_ptr_same s.w _ hu hj, .bool _, eqGuard_ptr ..⟩
theorem op_toUnsafe {p off : Nat} {cs : List AV} (ho : o.op = .convert T T' x) (hs : P.underlying T = some (.pointer E)) (hd : P.underlying T' = some .unsafePointer) (hi : (P.info? E).map (fun i => decide (i.size = 0)) = some false)
    (hx : opv e x = .ptr p off) (hσ : σ[p]? = some (.box cs)) (hoff : off < cs.length) : AOp P σ e o (.ptr p off) σ :=
  .of_run fun s a hs' g hv => by
    subst hs'
    have h1 := hx ▸ hv x (by simp [ho, Op.operands])
    obtain ⟨_, vs, U, hb, hp⟩ := g.obj p _ hσ
    obtain ⟨j, hj, hj0⟩ := Option.map_eq_some_iff.1 hi
    refine ⟨a.eval x, ?_, h1⟩
    have hsh : s.w.shape? (s.μ p).b = some (U, vs.length) := by unfold World.shape?; rw [hb]; simp
    have := Lib.run_to_unsafe (P := P) s.w ⟨(s.μ p).b, off, none⟩ hs hd hj (by simpa using hj0) hsh (by show off < vs.length; rw [hp.1]; exact hoff)
    simp only [execOp, ho, h1.inv_ptr, Sem.run_bind, this, Result.andThen_ok, Sem.run_pure]
theorem op_fromUnsafe {p off n : Nat} {U : TypeId} {cs : List AV} (ho : o.op = .convert T T' x) (hs : P.underlying T = some .unsafePointer) (hd : P.underlying T' = some (.pointer E)) (hi : (P.info? E).isSome = true)
    (hx : opv e x = .ptr p off) (hσ : σ[p]? = some (.box cs)) (hk : cs[off]? = some (.nilT p U n)) (hl : liesAt P P.depth U (n / P.cellsOf U) off E 1 = true) : AOp P σ e o (.ptr p off) σ :=
  .of_run fun s a hs' g hv => by
    subst hs'
    have h1 := hx ▸ hv x (by simp [ho, Op.operands])
    obtain ⟨_, vs, U', hb, hp⟩ := g.obj p _ hσ
    obtain ⟨v, _, hv2⟩ := hp.get hk
    have hbx := hv2.inv_nilT.2
    unfold BoxOf at hbx
    rw [hσ] at hbx
    obtain ⟨j, hj⟩ := Option.isSome_iff_exists.1 hi
    refine ⟨a.eval x, ?_, h1⟩
    have := Lib.run_from_unsafe (P := P) s.w ⟨(s.μ p).b, off, none⟩ hs hd hj hbx hl
    simp only [execOp, ho, h1.inv_ptr, Sem.run_bind, this, Result.andThen_ok, Sem.run_pure]
end ptrs
end Lg
namespace Lg
open Go Go.RowKit
variable [GLay]
variable {P : Program} {N : Nat} {σ l : List AO} {e : Env} {Q : QA} {o : Oper}
/-- A call of abi.NoEscape. -/
theorem op_noEsc {c x : Operand} {T : Array TypeId} {k : FuncId} {fn : Func} {p off : Nat} (ho : o.op = .call { callee := .value c, args := #[x], argTypes := T }) (hc : opv e c = .func (.func k) [] [])
    (hfn : P.funcs[k]? = some fn) (hname : (fn.name == "runtime.NumGoroutine") = false) (hb : fn.body.isNone = true) (hn : Extern.findNext fn = none) (he : Extern.find fn = some Extern.AbiNoEscape.same) (hx : opv e x = .ptr p off) : AOp P σ e o (.ptr p off) σ :=
  .of_run fun s a hs g hv => by
    have h1 := hx ▸ hv x (by simp [ho, Op.operands, Call.operands])
    have hcv := hc ▸ hv c (by simp [ho, Op.operands, Call.operands])
    obtain ⟨vf, vc, h2, h3, h4⟩ := hcv.inv_func
    have e3 := h3.inv_nil
    have e4 := h4.inv_nil
    subst e3; subst e4
    refine ⟨a.eval x, ?_, h1⟩
    simp only [execOp, ho, resolve, invoke, Deferred.ofValue, h2, Sem.run_bind, Sem.run_pure, Result.andThen_ok, List.map_toArray, List.map_cons, List.map_nil]
    have := run_callFunc_extern hfn hname hb hn he #[a.eval x] s.w
    rw [Lib.run_noEscape] at this
    simpa [Result.andThen] using this
theorem op_lenB {T E : TypeId} {x : Operand} {p n : Nat} {U : TypeId} {l : List UInt8} {c : Array TypeId} (ho : o.op = .call { callee := .builtin .len, args := #[x], argTypes := c }) (hc : c[0]? = some T) (hu : P.underlying T = some (.slice E))
    (hx : opv e x = .bts p n) (hσ : σ[p]? = some (.bytes U l)) (hn : n = l.length) : AOp P σ e o (.int .i64 n) σ :=
  .of_run fun s a hs _ hv => by
    subst hs
    have h1 := (hx ▸ hv x (by simp [ho, Op.operands, Call.operands])).inv_bts hσ hn
    have key : ∃ A k, a.eval x = .slice A n k := by
      rcases h1 with ⟨h, rfl⟩ | ⟨cap, h, _⟩
      · exact ⟨_, _, h⟩
      · exact ⟨_, _, h⟩
    obtain ⟨A, k, hk⟩ := key
    exact ⟨_, by simp [execOp, ho, resolve, invoke, builtin, hk, Builtin.len_, hc, run_underlying hu, goInt], .int _ _⟩
theorem op_sliceDataB {x : Operand} {p n : Nat} {U : TypeId} {l : List UInt8} {c : Array TypeId} (ho : o.op = .call { callee := .builtin .unsafeSliceData, args := #[x], argTypes := c })
    (hx : opv e x = .bts p n) (hσ : σ[p]? = some (.bytes U l)) (hn : n = l.length) : AOp P σ e o (.btp p n) σ :=
  .of_run fun s a hs g hv => by
    subst hs
    subst hn
    have h1 := (hx ▸ hv x (by simp [ho, Op.operands, Call.operands])).inv_bts hσ rfl
    have hV : ∀ {ad : Option Addr}, (l.length ≠ 0 → (s.μ p).tot ≠ 0 ∧ ad = some ⟨(s.μ p).b, 0, none⟩) → V s (.btp p l.length) (.pointer ad) := fun {ad} h =>
      .btp _ _ _ rfl (BAt.mk hσ ⟨ad, rfl, h⟩)
    rcases h1 with ⟨h, h0⟩ | ⟨cap, h, h2, h3, h4⟩
    · refine ⟨.pointer none, ?_, hV (fun k => absurd h0 k)⟩
      have := Lib.run_unsafeSliceData_nil (P := P) s.w c o.type 0 0
      simp only [execOp, ho, resolve, invoke, builtin, Sem.run_bind, Sem.run_pure, Result.andThen_ok, List.map_toArray, List.map_cons, List.map_nil, h, this]
    · refine ⟨.pointer (some ⟨(s.μ p).b, 0, none⟩), ?_, hV (fun k => ⟨by omega, rfl⟩)⟩
      have := Lib.run_unsafeSliceData_row (P := P) s.w c o.type ⟨(s.μ p).b, 0, none⟩ l.length cap h4
      simp only [execOp, ho, resolve, invoke, builtin, Sem.run_bind, Sem.run_pure, Result.andThen_ok, List.map_toArray, List.map_cons, List.map_nil, h, this]
/-- A row of bytes is no more; its block may have turned. -/
theorem Good.dropB {s : CS} (g : Good s) {p : Nat} {T : TypeId} {l : List UInt8} (ho : s.σ[p]? = some (.bytes T l)) {w' : World} (hsize : s.w.heap.size ≤ w'.heap.size) (htape : w'.tape = s.w.tape) (hos : w'.os = s.w.os) (hout : w'.output = s.w.output)
    (hfr : ∀ b, (s.live p → b ≠ (s.μ p).b) → w'.heap[b]? = s.w.heap[b]?) :
    ∃ s', s'.σ = s.σ.set p .dead ∧ s'.w = w' ∧ Good s' ∧ Ext s s' := by
  have hlt : p < s.σ.length := (List.getElem?_eq_some_iff.1 ho).1
  let s' : CS := { s with σ := s.σ.set p .dead, w := w' }
  have hother : ∀ {q : Nat}, q ≠ p → s'.σ[q]? = s.σ[q]? := fun {q} hq => by
    show (s.σ.set p _)[q]? = _; rw [List.getElem?_set, if_neg (fun e => hq e.symm)]
  have hthis : s'.σ[p]? = some .dead := by show (s.σ.set p _)[p]? = _; simp [hlt]
  have hlive' : ∀ {q : Nat}, s'.live q → s.live q ∧ q ≠ p := fun {q} hq => by
    by_cases e : q = p
    · subst e
      unfold CS.live at hq
      rw [hthis] at hq
      exact hq.elim
    · unfold CS.live at hq ⊢; rw [hother e] at hq; exact ⟨hq, e⟩
  have x : Ext s s' := {
    objs := fun q r hr => by
      by_cases e : q = p
      · subst e
        rw [ho] at hr; cases hr
        exact ⟨.dead, hthis, .bytesDead _ _, fun h => h.elim⟩
      · exact ⟨r, by rw [hother e]; exact hr, OLe.refl r, fun _ => rfl⟩
    ok := fun _ h => h
    okn := fun _ h => .inl h
    mun := fun q hq => .inl ⟨CS.live_lt (hlive' hq).1, (hlive' hq).1, rfl⟩
    frame := fun b _ hne => hfr b fun hl e => hne p hl e.symm
    size := hsize
    shp := fun q cs cs' z h1 _ h3 => by
      have e : q ≠ p := fun e => by subst e; rw [ho] at h1; cases h1
      have hq : s.live q := by unfold CS.live; rw [h1]; trivial
      exact (shape_eq (hfr _ fun hl => g.inj q p e hq hl)).trans h3
    tape := htape
    os := hos
    output := hout }
  refine ⟨s', rfl, rfl, ⟨fun b hb => Nat.lt_of_lt_of_le (g.okb b hb) hsize, fun q r hr => ?_, fun q q' hne h1 h2 => g.inj q q' hne (hlive' h1).1 (hlive' h2).1, fun b r hr => ?_⟩, x⟩
  · by_cases e : q = p
    · subst e
      rw [hthis] at hr; cases hr
      trivial
    · have hr' : s.σ[q]? = some r := by rw [← hother e]; exact hr
      by_cases hq : s.live q
      · obtain ⟨h1, vs1, T1, h2, h3⟩ := g.rep hr' hq
        exact RepW.orep (T := T1) (vs := vs1) h1 ((hfr _ fun hl => g.inj q p e hq hl).trans h2) (h3.mono g x)
      · have hor := g.obj q r hr'
        unfold CS.live at hq
        rw [hr'] at hq
        cases r with
        | box cs => exact absurd trivial hq
        | arr sz gg cs =>
          rcases hor with hor | hor
          · exact .inl hor
          · exact absurd hor.1 hq
        | bytes T l =>
          rcases hor with hor | hor
          · exact .inl hor
          · exact absurd hor.1 hq
        | gone => trivial
        | dead => trivial
  · obtain ⟨h1, h2⟩ := g.glob b r hr
    exact ⟨h1, (hfr b fun hl e => (g.live_lt hl).2 (e ▸ h1)).trans h2⟩
/-- unsafe.String of a row of bytes of the call's own: the row is no more. -/
theorem op_unsafeStringB {x y : Operand} {p n : Nat} {pt it E : TypeId} {l : List UInt8} (ho : o.op = .call { callee := .builtin .unsafeString, args := #[x, y], argTypes := #[pt, it] })
    (hp : P.underlying pt = some (.pointer E)) (hc : P.cellsOf E = 1) (hx : opv e x = .btp p n) (hy : opv e y = .int .i64 n) (hσ : σ[p]? = some (.bytes E l)) (hn : n = l.length) (h63 : l.length ≤ 9223372036854775807) :
    AOp P σ e o (.str ⟨l.toArray⟩) (σ.set p .dead) := by
  intro s a hs g hv K Q hk _
  subst hs
  subst hn
  have hxv := hx ▸ hv x (by simp [ho, Op.operands, Call.operands])
  have hyv := (hy ▸ hv y (by simp [ho, Op.operands, Call.operands])).inv_int
  obtain ⟨ad, had, hne⟩ : ∃ ad, a.eval x = .pointer ad ∧ (l.length ≠ 0 → (s.μ p).tot ≠ 0 ∧ ad = some ⟨(s.μ p).b, 0, none⟩) := by
    cases hxv with | btp _ _ _ _ h => unfold BAt at h; rw [hσ] at h; exact h.2 rfl
  have hexec : ∀ {v : Value} {w' : World}, (Builtin.unsafeString_ #[pt, it] o.type #[.pointer ad, .int .i64 l.length]).run P s.w = .ok v w' → (execOp a.eval o).run P s.w = .ok (.value v) w' := fun {v w'} h => by
    simp only [execOp, ho, resolve, invoke, builtin, Sem.run_bind, Sem.run_pure, Result.andThen_ok, List.map_toArray, List.map_cons, List.map_nil, had, hyv]
    rw [h]; rfl
  by_cases h0 : l = []
  · subst h0
    obtain ⟨s', e1, e2, g', x'⟩ := g.dropB hσ (w' := s.w) (Nat.le_refl _) rfl rfl rfl (fun _ _ => rfl)
    exact wp_value (w' := s'.w) (by rw [e2]; exact hexec (Lib.run_unsafeString_none s.w pt it o.type ad)) (hk _ _ s' ⟨rfl, e1⟩ g' x' (.str _))
  · obtain ⟨ht0, rfl⟩ := hne (by simpa using h0)
    have hlive : s.live p := by unfold CS.live; rw [hσ]; exact ht0
    obtain ⟨_, vs, T, hb, _, h7, h8, h9, rfl⟩ := g.rep hσ hlive
    have hrun := Lib.run_unsafeString_row (P := P) s.w pt it o.type T hp hc (s.μ p).b vs.length (by unfold World.shape?; rw [hb]; simp) l h0 (by omega) h63 (fun j c hj => by
      rw [add_none, cells_get hb, Nat.zero_add]
      have h10 : (bcl l)[j]? = some (.int .u8 c.toNat) := by simp [bcl, hj]
      rw [← h9, List.getElem?_take] at h10
      split at h10
      · exact h10
      · cases h10)
    obtain ⟨s', e1, e2, g', x'⟩ := g.dropB hσ (w' := s.w.freeze ⟨(s.μ p).b, 0, none⟩ l.length) (by unfold World.freeze; split <;> simp) (by unfold World.freeze; split <;> rfl) (by unfold World.freeze; split <;> rfl) (by unfold World.freeze; split <;> rfl) (fun b hb' => by
      unfold World.freeze
      split
      · rfl
      · simp only [Array.getElem?_modify]
        rw [if_neg (fun e => hb' hlive e.symm)])
    exact wp_value (w' := s'.w) (by rw [e2]; exact hexec hrun) (hk _ _ s' ⟨rfl, e1⟩ g' x' (.str _))
end Lg
namespace Lg
open Go Go.RowKit
variable [GLay]
variable {P : Program} {N : Nat} {σ l : List AO} {e : Env} {Q : QA} {o : Oper}
theorem tk1_get : ∀ {cs : List AV} {k : Nat} {a : AV}, cs[k]? = some a → tk 1 (cs.drop k) = some [a]
  | [], k, a, h => by simp at h
  | c :: cs, 0, a, h => by simp at h; subst h; rfl
  | c :: cs, k + 1, a, h => by
    rw [List.drop_succ_cons]; exact tk1_get (by simpa using h)
theorem spl1_set : ∀ {cs : List AV} {k : Nat} (v : AV), k < cs.length → spl k cs [v] = some (cs.set k v)
  | [], k, v, h => by simp at h
  | c :: cs, 0, v, h => by simp [spl, putAt]
  | c :: cs, k + 1, v, h => by
    simp only [spl, spl1_set v (show k < cs.length by simpa using h), Option.map_some, List.set_cons_succ]
theorem ltL_set {n : Nat} {cs : List AV} {k : Nat} {a : AV} (h : AV.ltL n cs) (ha : a.lt n) : AV.ltL n (cs.set k a) := by
  rw [AV.ltL_iff] at h ⊢
  intro b hb
  rcases List.mem_or_eq_of_mem_set hb with h1 | h1
  · exact h b h1
  · rw [h1]; exact ha
theorem get_lt {p : Nat} {x : AO} (h : σ[p]? = some x) : p < σ.length := (List.getElem?_eq_some_iff.1 h).1
theorem closed_box {p : Nat} {cs : List AV} (hc : closed σ.length σ) (h : σ[p]? = some (.box cs)) : AV.ltL σ.length cs := hc p _ (get_lt h) h
theorem set_getB {p : Nat} (x : AO) (h : p < σ.length) : (σ.set p x)[p]? = some x := by simp [h]
theorem set_get_neB {p q : Nat} (x : AO) (h : p ≠ q) : (σ.set p x)[q]? = σ[q]? := by rw [List.getElem?_set, if_neg h]
section res
variable {τ : List AO} {n t1 t2 : Nat} {el : List (Nat × AV)} {v1 v2 : AV} {R : Out → List AO → Prop}
theorem ResQ_1H (hτ : τ.length = n) (h1 : lookO el t1 = some v1) (hc : closed n τ) (hv : v1.lt n) (hR : R (.ret v1) τ) : ResQ n [t1] R .ret ⟨[], el⟩ τ := by
  subst hτ; exact ResQ_10 h1 hc hv hR
theorem ResQ_2H (hτ : τ.length = n) (h1 : lookO el t1 = some v1) (h2 : lookO el t2 = some v2) (hc : closed n τ) (hv : (AV.tup [v1, v2]).lt n) (hR : R (.ret (.tup [v1, v2])) τ) : ResQ n [t1, t2] R .ret ⟨[], el⟩ τ := by
  subst hτ; exact ResQ_20 h1 h2 hc hv hR
theorem ResQ_NH (hτ : τ.length = n) (hc : closed n τ) (hR : R (.ret (.tup [])) τ) : ResQ n [] R .normal ⟨[], el⟩ τ := by
  subst hτ; exact ResQ_ret0 rfl hc trivial hR
end res
/-- A Builder in a box of the call's, or the caller's: its two cells. -/
structure BldT (P : Program) (B E : TypeId) (σ : List AO) (p off q : Nat) (cs : List AV) (l : List UInt8) : Prop where
  box : σ[p]? = some (.box cs)
  adr : cs[off]? = some (.ptr p off) ∨ ∃ U n, cs[off]? = some (.nilT p U n) ∧ liesAt P P.depth U (n / P.cellsOf U) off B 1 = true
  buf : cs[off + 1]? = some (.bts q l.length)
  row : σ[q]? = some (.bytes E l)
/-- The Builder's box behind a write. -/
def bcs (cs : List AV) (p off q n : Nat) : List AV := (cs.set off (.ptr p off)).set (off + 1) (.bts q n)
theorem BldT.ne {B E : TypeId} {p off q : Nat} {cs : List AV} {l : List UInt8} (h : BldT P B E σ p off q cs l) : p ≠ q := fun e => by
  have h1 := h.box; have h2 := h.row
  rw [e, h2] at h1; cases h1
end Lg
set_option maxRecDepth 20000
set_option maxHeartbeats 4000000
namespace Lg
open Go Go.Proofs Go.RowKit
variable [GLay] 
theorem cc1 (σ : List AO) (p off : Nat) (cs : List AV) (hσ : σ[p]? = some (.box cs)) (hk : cs[off]? = some (.ptr p off)) : ACalls Tryd.prog 54 [.ptr p off] σ (Ret (.tup []) σ) := by
 refine ACalls_body Tryd.func54 rfl Tryd.ntmps54 (res0 Tryd.results54) (Nat.le_of_ble_eq_true rfl) (fun hcl hal => ?_)
 refine zu3 ?_
 refine zt rfl (op_load1 rfl Tryd.isAgg55 (ldv_ptr hσ (tk1_get hk))) ?_
 refine zv1 ?_
 refine AWp_cond rfl (fun h1 => ?_) (fun h1 => ?_)
 ·(try rw [h1]); replace h1 := zcl h1
  cases h1
 ·(try rw [h1]); replace h1 := zcl h1
  refine zu3 ?_
  refine zt rfl (op_load1 rfl Tryd.isAgg55 (ldv_ptr hσ (tk1_get hk))) ?_
  refine zg1 ?_
  refine zt rfl (op_nePS rfl Tryd.underlying55 (by kernel_rfl) rfl rfl) ?_
  refine zon ?_
  refine AWp_cond rfl (fun h2 => ?_) (fun h2 => ?_)
  ·(try rw [h2]); replace h2 := zcl h2
   cases h2
  ·(try rw [h2]); replace h2 := zcl h2
   refine AWp_skip ?_
   (try simp only [blockQ, thenQ])
   exact ResQ_ret0 rfl hcl trivial ⟨rfl, rfl⟩

theorem cc2 (σ : List AO) (p off n : Nat) (U : TypeId) (cs : List AV) (hσ : σ[p]? = some (.box cs)) (hk : cs[off]? = some (.nilT p U n)) (hl : liesAt Tryd.prog Tryd.prog.depth U (n / Tryd.prog.cellsOf U) off 58 1 = true) : ACalls Tryd.prog 54 [.ptr p off] σ (Ret (.tup []) (σ.set p (.box (cs.set off (.ptr p off))))) := by
 refine ACalls_body Tryd.func54 rfl Tryd.ntmps54 (res0 Tryd.results54) (Nat.le_of_ble_eq_true rfl) (fun hcl hal => ?_)
 have hol : off < cs.length := (List.getElem?_eq_some_iff.1 hk).1
 refine zu3 ?_
 refine zt rfl (op_load1 rfl Tryd.isAgg55 (ldv_ptr hσ (tk1_get hk))) ?_
 refine zt rfl (op_eqNT rfl Tryd.underlying55 rfl rfl) ?_
 refine zon ?_
 refine AWp_cond rfl (fun h1 => ?_) (fun h1 => ?_)
 ·(try rw [h1]); replace h1 := zcl h1
  refine AWp_regL ?_
  refine zg2 ?_
  refine zt rfl (op_toUnsafe rfl Tryd.underlying55 Tryd.underlying101 (by kernel_rfl) rfl hσ hol) ?_
  refine zt rfl (op_noEsc rfl rfl Tryd.func76 (by kernel_rfl) (by kernel_rfl) (by kernel_rfl) (by kernel_rfl) rfl) ?_
  refine zt rfl (op_fromUnsafe rfl Tryd.underlying101 Tryd.underlying55 (by kernel_rfl) rfl hσ hk hl) ?_
  refine zg2 ?_
  refine ztN rfl rfl (op_storeP (r := (cs.set off (.ptr p off))) rfl Tryd.sizeOf55 rfl rfl rfl hσ (spl1_set _ hol) (by decide)) ?_
  refine zon ?_
  (try simp only [blockQ, thenQ])
  exact ResQ_NH List.length_set (closed_set hcl (ltL_set (closed_box hcl hσ) (get_lt hσ))) ⟨rfl, rfl⟩
 ·(try rw [h1]); replace h1 := zcl h1
  cases h1
end Lg
set_option maxRecDepth 20000
set_option maxHeartbeats 4000000
namespace Lg
open Go Go.Proofs Go.RowKit
variable [GLay] 
theorem cc_c {σ : List AO} {p off q : Nat} {cs : List AV} {l : List UInt8} (h : BldT Tryd.prog 58 5 σ p off q cs l) : ACalls Tryd.prog 54 [.ptr p off] σ (Ret (.tup []) (σ.set p (.box (cs.set off (.ptr p off))))) := by
  rcases h.adr with ha | ⟨U, n, ha, hl⟩
  · have hs : σ.set p (.box (cs.set off (.ptr p off))) = σ := by
      obtain ⟨h1, h2⟩ := List.getElem?_eq_some_iff.1 ha
      rw [show cs.set off (.ptr p off) = cs by rw [← h2]; exact List.set_getElem_self h1]
      obtain ⟨h3, h4⟩ := List.getElem?_eq_some_iff.1 h.box
      rw [← h4]; exact List.set_getElem_self h3
    rw [hs]; exact cc1 σ p off cs h.box ha
  · exact cc2 σ p off n U cs h.box ha hl
theorem wb_c (c : UInt8) {σ : List AO} {p off q : Nat} {cs : List AV} {l : List UInt8} (h : BldT Tryd.prog 58 5 σ p off q cs l) (hlen : l.length + 1 ≤ 100000000000000) : ACalls Tryd.prog 31 [.ptr p off, .int .u8 (c.toNat : Int)] σ (Ret (.nili) ((σ.set p (.box (bcs cs p off q (l.length + 1)))).set q (.bytes 5 (l ++ [c])))) := by
 refine ACalls_body Tryd.func31 rfl Tryd.ntmps31 (res1 Tryd.results31) (Nat.le_of_ble_eq_true rfl) (fun hcl hal => ?_)
 have hb1 : (cs.set off (.ptr p off))[off + 1]? = some (.bts q l.length) := by rw [List.getElem?_set, if_neg (by omega)]; exact h.buf
 have hpl := get_lt h.box
 have hql := get_lt h.row
 have hp1 := set_getB (σ := σ) (.box (cs.set off (.ptr p off))) hpl
 have hq1 : (σ.set p (.box (cs.set off (.ptr p off))))[q]? = some (.bytes 5 l) := by rw [set_get_neB _ h.ne]; exact h.row
 have hol : off + 1 < (cs.set off (.ptr p off)).length := (List.getElem?_eq_some_iff.1 hb1).1
 have hp2 : ((σ.set p (.box (cs.set off (.ptr p off)))).set q (.bytes 5 (l ++ [c])))[p]? = some (.box (cs.set off (.ptr p off))) := by rw [set_get_neB _ h.ne.symm]; exact hp1
 refine zw1 ?_
 refine zu1 ?_
 refine zt rfl (zc rfl (cc_c h)) ?_
 refine zon ?_
 refine zu4 ?_
 refine zt rfl (op_load1 rfl Tryd.isAgg56 (ldv_ptr hp1 (tk1_get hb1))) ?_
 refine zg1 ?_
 refine zt rfl (op_buildSlice [[_]] rfl Tryd.underlying56 Tryd.sizeOf5 Tryd.zeroValue5 rfl (by decide) (by decide) rfl rfl rfl rfl rfl) ?_
 refine zt rfl (op_appendB (l2 := [c]) (d := .slice 5) rfl (.inr ⟨_, rfl⟩) Tryd.underlying56 Tryd.underlying56 (i := ((Tryd.prog.info? 5).getD default)) (by kernel_rfl) rfl rfl rfl rfl hq1 rfl (by rfl) (by rfl) (by have hb : ((Tryd.prog.info? 5).getD default).bytes = 1 := (by kernel_rfl); rw [hb, Nat.mul_one]; simp only [List.length_cons, List.length_nil]; omega) (by simp only [List.length_cons, List.length_nil]; omega)) ?_
 refine zg2 ?_
 refine ztN rfl rfl (op_storeP (r := (cs.set off (.ptr p off)).set (off + 1) (.bts q (l.length + 1))) rfl Tryd.sizeOf56 rfl rfl rfl hp2 (spl1_set _ hol) (by decide)) ?_
 refine zon ?_
 refine zw1 ?_
 refine zrt ?_
 refine ResQ_1H (by simp) rfl (closed_set (closed_set (closed_set hcl (ltL_set (closed_box hcl h.box) hpl)) trivial) (ltL_set (ltL_set (closed_box hcl h.box) hpl) hql)) trivial ?_
 show Ret _ _ _ _; rw [show (((σ.set p (.box (cs.set off (.ptr p off)))).set q (.bytes 5 (l ++ [c]))).set p (.box ((cs.set off (.ptr p off)).set (off + 1) (.bts q (l.length + 1))))) = ((σ.set p (.box (bcs cs p off q (l.length + 1)))).set q (.bytes 5 (l ++ [c]))) by rw [List.set_comm _ _ h.ne.symm, List.set_set]; rfl]
 exact ⟨rfl, rfl⟩

theorem ws_c (s : ByteArray) {σ : List AO} {p off q : Nat} {cs : List AV} {l : List UInt8} (h : BldT Tryd.prog 58 5 σ p off q cs l) (hlen : l.length + s.size ≤ 100000000000000) : ACalls Tryd.prog 32 [.ptr p off, .str s] σ (Ret (.tup [.int .i64 s.size, .nili]) ((σ.set p (.box (bcs cs p off q (l.length + s.size)))).set q (.bytes 5 (l ++ s.data.toList)))) := by
 refine ACalls_body Tryd.func32 rfl Tryd.ntmps32 (res2 Tryd.results32) (Nat.le_of_ble_eq_true rfl) (fun hcl hal => ?_)
 have hb1 : (cs.set off (.ptr p off))[off + 1]? = some (.bts q l.length) := by rw [List.getElem?_set, if_neg (by omega)]; exact h.buf
 have hpl := get_lt h.box
 have hql := get_lt h.row
 have hp1 := set_getB (σ := σ) (.box (cs.set off (.ptr p off))) hpl
 have hq1 : (σ.set p (.box (cs.set off (.ptr p off))))[q]? = some (.bytes 5 l) := by rw [set_get_neB _ h.ne]; exact h.row
 have hol : off + 1 < (cs.set off (.ptr p off)).length := (List.getElem?_eq_some_iff.1 hb1).1
 have hp2 : ((σ.set p (.box (cs.set off (.ptr p off)))).set q (.bytes 5 (l ++ s.data.toList)))[p]? = some (.box (cs.set off (.ptr p off))) := by rw [set_get_neB _ h.ne.symm]; exact hp1
 have hsz : s.data.toList.length = s.size := Array.length_toList
 refine zw2 ?_
 refine zu1 ?_
 refine zt rfl (zc rfl (cc_c h)) ?_
 refine zon ?_
 refine zu4 ?_
 refine zt rfl (op_load1 rfl Tryd.isAgg56 (ldv_ptr hp1 (tk1_get hb1))) ?_
 refine zg1 ?_
 refine zt rfl (op_appendB (l2 := s.data.toList) (d := .string) rfl (.inl rfl) Tryd.underlying56 Tryd.underlying9 (i := ((Tryd.prog.info? 5).getD default)) (by kernel_rfl) rfl rfl rfl rfl hq1 rfl (by rfl) (by rfl) (by have hb : ((Tryd.prog.info? 5).getD default).bytes = 1 := (by kernel_rfl); rw [hb, Nat.mul_one]; omega) (by omega)) ?_
 refine zg2 ?_
 refine ztN rfl rfl (op_storeP (r := (cs.set off (.ptr p off)).set (off + 1) (.bts q (l.length + s.size))) rfl Tryd.sizeOf56 rfl rfl rfl hp2 (spl1_set _ hol) (by decide)) ?_
 refine zon ?_
 refine zw4 ?_
 refine zrt ?_
 refine ResQ_2H (by simp) rfl rfl (closed_set (closed_set (closed_set hcl (ltL_set (closed_box hcl h.box) hpl)) trivial) (ltL_set (ltL_set (closed_box hcl h.box) hpl) hql)) (by simp [AV.lt, AV.ltL]) ?_
 show Ret _ _ _ _; rw [show (((σ.set p (.box (cs.set off (.ptr p off)))).set q (.bytes 5 (l ++ s.data.toList))).set p (.box ((cs.set off (.ptr p off)).set (off + 1) (.bts q (l.length + s.size))))) = ((σ.set p (.box (bcs cs p off q (l.length + s.size)))).set q (.bytes 5 (l ++ s.data.toList))) by rw [List.set_comm _ _ h.ne.symm, List.set_set]; rfl]
 exact ⟨rfl, rfl⟩

theorem bstr_c {σ : List AO} {p off q : Nat} {cs : List AV} {l : List UInt8} (h : BldT Tryd.prog 58 5 σ p off q cs l) (hlen : l.length ≤ 100000000000000) : ACalls Tryd.prog 33 [.ptr p off] σ (Ret (.str ⟨l.toArray⟩) (σ.set q .dead)) := by
 refine ACalls_body Tryd.func33 rfl Tryd.ntmps33 (res1 Tryd.results33) (Nat.le_of_ble_eq_true rfl) (fun hcl hal => ?_)
 have hpl := get_lt h.box
 refine zw1 ?_
 refine AWp_seq ?_
 refine AWp_drawL #[0, 1, 3, 7, 15, 0, 32, 96, 224, 480, 1023, 2047] Tryd.mixed (by decide +kernel) (by decide +kernel) ?_
 refine zd3 ?_
 refine yP rfl rfl (op_load1 rfl Tryd.isAgg56 (ldv_ptr h.box (tk1_get h.buf))) (trivial) ?_
 refine yP rfl rfl (op_sliceDataB rfl rfl h.row rfl) (trivial) ?_
 refine zd3 ?_
 refine yP rfl rfl (op_load1 rfl Tryd.isAgg56 (ldv_ptr h.box (tk1_get h.buf))) (trivial) ?_
 refine yP rfl rfl (op_lenB rfl rfl Tryd.underlying56 rfl h.row rfl) (trivial) ?_
 refine yE rfl rfl (op_unsafeStringB rfl Tryd.underlying90 (by kernel_rfl) rfl rfl h.row rfl (by omega)) (⟨.inl rfl, ⟨.inl rfl, ⟨.inl rfl, ⟨.inl rfl, trivial⟩⟩⟩⟩) (trivial) ?_
 refine zd1 ?_
 refine RP.nil rfl ?_
 refine zrt ?_
 exact ResQ_1H (by simp) rfl (closed_set hcl trivial) trivial ⟨rfl, rfl⟩
end Lg
namespace Lg
open Go Go.RowKit
variable [GLay]
variable {P : Program} {N : Nat} {σ l : List AO} {e : Env} {Q : QA} {o : Oper}
section bitops
variable {T T' : TypeId} {x y : Operand} {k yk : IntKind} {n m r : Int}
theorem op_shr (ho : o.op = .binOp .shr T x y T') (hx : opv e x = .int k n) (hy : opv e y = .int yk m) (hm : 0 ≤ m) (hr : n / 2 ^ min m.toNat k.bits = r) : AOp P σ e o (.int k r) σ :=
  op_bin ho hx hy fun s cx cy _ _ h1 h2 => by
    rw [h1.inv_int, h2.inv_int]
    refine ⟨.int k r, ?_, .int _ _, by simp [eqGuard]⟩
    simp only [binOp]
    rw [shift_shr_any k yk n m hm, hr]
    rfl
theorem op_and (ho : o.op = .binOp .and T x y T') (hx : opv e x = .int k n) (hy : opv e y = .int k m) (hr : k.wrap ((BitVec.ofInt k.bits n &&& BitVec.ofInt k.bits m).toNat : Int) = r) : AOp P σ e o (.int k r) σ :=
  op_bin ho hx hy fun s cx cy _ _ h1 h2 => by
    rw [h1.inv_int, h2.inv_int]
    refine ⟨.int k r, ?_, .int _ _, by simp [eqGuard]⟩
    rw [← hr]
    simp [binOp, Op.intBits]
end bitops
theorem and15f : ∀ b : Fin 256, IntKind.u8.wrap ((BitVec.ofInt IntKind.u8.bits (b.val : Int) &&& BitVec.ofInt IntKind.u8.bits 15).toNat : Int) = ((b.val % 16 : Nat) : Int) := by decide +kernel
theorem and15 (b : UInt8) : IntKind.u8.wrap ((BitVec.ofInt IntKind.u8.bits (b.toNat : Int) &&& BitVec.ofInt IntKind.u8.bits 15).toNat : Int) = ((b.toNat % 16 : Nat) : Int) := and15f ⟨b.toNat, b.toNat_lt⟩
theorem shr4 (b : UInt8) : (b.toNat : Int) / 2 ^ min (4 : Int).toNat IntKind.u8.bits = ((b.toNat / 16 : Nat) : Int) := by
  show (b.toNat : Int) / 16 = _
  omega
/-- A Builder of the call's own, its first cell whatever it is, gets its row. -/
theorem AWp_ghostB0 {c : Code} {a : AV} (T : TypeId) (k : AWp P N c e (σ ++ [.box [a, .bts (σ.length + 1) 0], .bytes T []]) Q) : AWp P N c e (σ ++ [.box [a, .nils]]) Q := by
  refine AWp_ghostInB σ.length 1 T (bs := [a, .nils]) (by simp) rfl ?_
  have : ((σ ++ [AO.box [a, .nils]]) ++ [AO.bytes T []]).set σ.length (.box ([a, AV.nils].set 1 (.bts (σ ++ [AO.box [a, .nils]]).length 0))) = σ ++ [.box [a, .bts (σ.length + 1) 0], .bytes T []] := by
    rw [List.append_assoc, List.set_append_right _ _ (Nat.le_refl _), Nat.sub_self, List.length_append]
    rfl
  rw [this]; exact k
/-- What the call's own Builder holds. -/
def bldr (σ : List AO) (a : AV) (T : TypeId) (l : List UInt8) : List AO := σ ++ [.box [a, .bts (σ.length + 1) l.length], .bytes T l]
theorem bld_T {B E : TypeId} {a : AV} {l : List UInt8} (ha : a = .ptr σ.length 0 ∨ ∃ U n, a = .nilT σ.length U n ∧ liesAt P P.depth U (n / P.cellsOf U) 0 B 1 = true) : BldT P B E (bldr σ a E l) σ.length 0 (σ.length + 1) [a, .bts (σ.length + 1) l.length] l where
  box := by simp [bldr]
  adr := by
    rcases ha with rfl | ⟨U, n, rfl, h⟩
    · exact .inl rfl
    · exact .inr ⟨U, n, rfl, h⟩
  buf := rfl
  row := by simp [bldr]
theorem bld_set {E : TypeId} {a : AV} {l l' : List UInt8} : ((bldr σ a E l).set σ.length (.box (bcs [a, .bts (σ.length + 1) l.length] σ.length 0 (σ.length + 1) l'.length))).set (σ.length + 1) (.bytes E l') = bldr σ (.ptr σ.length 0) E l' := by
  unfold bldr bcs
  rw [List.set_append_right _ _ (Nat.le_refl _), Nat.sub_self, List.set_append_right _ _ (by omega), Nat.add_sub_cancel_left]
  rfl
theorem closed_bldr {T : TypeId} {a : AV} {l : List UInt8} (hc : closed σ.length σ) (ha : a.lt (σ.length + 2)) : closed (σ.length + 2) (bldr σ a T l) :=
  closed_own 2 hc (by simp [ownLt, AO.cells, AV.ltL, AV.lt, ha])
theorem take_bldr {T : TypeId} {a : AV} {l : List UInt8} : (bldr σ a T l).take (σ.length + 2) = bldr σ a T l := List.take_of_length_le (by simp [bldr])
end Lg
namespace Lg
open Go
/-! ### A text in quotes -/
def hxd (n : Nat) : UInt8 := (([48, 49, 50, 51, 52, 53, 54, 55, 56, 57, 97, 98, 99, 100, 101, 102] : BL).getD n 0)
def qch (b : UInt8) : BL := if b.toNat = 34 ∨ b.toNat = 92 then [92, b] else if b.toNat < 32 then [92, 117, 48, 48, hxd (b.toNat / 16), hxd (b.toNat % 16)] else [b]
def qbody (l : BL) : BL := l.flatMap qch
def quoteL (l : BL) : BL := 34 :: qbody l ++ [34]
theorem qch_len (b : UInt8) : (qch b).length ≤ 6 := by unfold qch; split <;> (try split) <;> simp
theorem qbody_len (l : BL) : (qbody l).length ≤ 6 * l.length := by
  induction l with
  | nil => simp [qbody]
  | cons b l ih =>
    have := qch_len b
    simp only [qbody, List.flatMap_cons, List.length_append, List.length_cons] at *
    omega
theorem qbody_snoc (l : BL) (b : UInt8) : qbody (l ++ [b]) = qbody l ++ qch b := by simp [qbody]
theorem qbody_take {l : BL} {i : Nat} (h : i < l.length) : qbody (l.take (i + 1)) = qbody (l.take i) ++ qch (l.getD i 0) := by rw [take_snoc h, qbody_snoc]
theorem qch1 {b : UInt8} (h : b.toNat = 34 ∨ b.toNat = 92) : qch b = [92, b] := by unfold qch; rw [if_pos h]
theorem qch2 {b : UInt8} (h : ¬ (b.toNat = 34 ∨ b.toNat = 92)) (h2 : b.toNat < 32) : qch b = [92, 117, 48, 48, hxd (b.toNat / 16), hxd (b.toNat % 16)] := by unfold qch; rw [if_neg h, if_pos h2]
theorem qch3 {b : UInt8} (h : ¬ (b.toNat = 34 ∨ b.toNat = 92)) (h2 : ¬ b.toNat < 32) : qch b = [b] := by unfold qch; rw [if_neg h, if_neg h2]
end Lg
set_option maxRecDepth 20000
set_option maxHeartbeats 4000000
namespace Lg
open Go Go.Proofs Go.RowKit
variable [GLay] 
theorem wbO (c : UInt8) {σ : List AO} {a : AV} {l : BL} (ha : a = .ptr σ.length 0 ∨ ∃ U n, a = .nilT σ.length U n ∧ liesAt Tryd.prog Tryd.prog.depth U (n / Tryd.prog.cellsOf U) 0 58 1 = true) (hlen : l.length + 1 ≤ 100000000000000) : ACalls Tryd.prog 31 [.ptr σ.length 0, .int .u8 (c.toNat : Int)] (bldr σ a 5 l) (Ret .nili (bldr σ (.ptr σ.length 0) 5 (l ++ [c]))) := by
  have h := wb_c c (bld_T (P := Tryd.prog) (B := 58) (E := 5) ha) hlen
  have e : l.length + 1 = (l ++ [c]).length := by simp
  rw [e, bld_set] at h; exact h
theorem wsO (s : ByteArray) {σ : List AO} {a : AV} {l : BL} (ha : a = .ptr σ.length 0 ∨ ∃ U n, a = .nilT σ.length U n ∧ liesAt Tryd.prog Tryd.prog.depth U (n / Tryd.prog.cellsOf U) 0 58 1 = true) (hlen : l.length + s.size ≤ 100000000000000) : ACalls Tryd.prog 32 [.ptr σ.length 0, .str s] (bldr σ a 5 l) (Ret (.tup [.int .i64 s.size, .nili]) (bldr σ (.ptr σ.length 0) 5 (l ++ s.data.toList))) := by
  have h := ws_c s (bld_T (P := Tryd.prog) (B := 58) (E := 5) ha) hlen
  have e : l.length + s.size = (l ++ s.data.toList).length := by rw [List.length_append]; rfl
  rw [e, bld_set] at h; exact h
theorem strO {σ : List AO} {a : AV} {l : BL} (ha : a = .ptr σ.length 0 ∨ ∃ U n, a = .nilT σ.length U n ∧ liesAt Tryd.prog Tryd.prog.depth U (n / Tryd.prog.cellsOf U) 0 58 1 = true) (hlen : l.length ≤ 100000000000000) : ACalls Tryd.prog 33 [.ptr σ.length 0] (bldr σ a 5 l) (Ret (.str (ba l)) (σ ++ [.box [a, .bts (σ.length + 1) l.length], .dead])) := by
  have h := bstr_c (bld_T (P := Tryd.prog) (B := 58) (E := 5) ha) hlen
  have e : (bldr σ a 5 l).set (σ.length + 1) .dead = σ ++ [.box [a, .bts (σ.length + 1) l.length], .dead] := by
    unfold bldr; rw [List.set_append_right _ _ (by omega), Nat.add_sub_cancel_left]; rfl
  rw [e] at h; exact h
theorem quote_c (l : BL) (σ : List AO) (hl : l.length ≤ 1000000) : ACalls Tryd.prog 10 [.str (ba l)] σ (Ret (.str (ba (quoteL l))) σ) := by
 refine ACalls_body Tryd.func10 rfl Tryd.ntmps10 (res1 Tryd.results10) (Nat.le_of_ble_eq_true rfl) (fun hcl hal => ?_)
 have hbs : (ba l).size = l.length := ba_size l
 have hql := qbody_len l
 have hql2 := fun i : Nat => qbody_len (l.take i)
 refine zw1 ?_
 refine zsr ?_
 refine zt rfl (op_allocT (cs := [.nilp, .nils]) 0 rfl Tryd.zeroValue58 rfl rfl) ?_
 refine zon ?_
 refine AWp_seq ?_
 refine AWp_ghostB0 5 ?_
 rw [show σ ++ [AO.box [AV.nilT σ.length 58 ([AV.nilp, AV.nils] : List AV).length, .bts (σ.length + 1) 0], .bytes 5 []] = bldr σ (.nilT σ.length 58 2) 5 [] from rfl]
 refine AWp_regL ?_
 refine zt rfl (zc rfl (wbO 34 (.inr ⟨_, _, rfl, by kernel_rfl⟩) (by simp))) ?_
 refine zon ?_
 refine AWp_seq ?_
 refine zw3 ?_
 refine AWp_block ?_
 -- loop 0 LIVE 0:param 2:assign 3:alloc 8:call 9:move
 refine AWp_loop (ι := Nat) (fun i => i ≤ l.length) (fun i => ⟨[], [(0, .str (ba l)), (3, .ptr σ.length 0), (8, .int .i64 (l.length : Int)), (9, .int .i64 (i : Int))]⟩) (fun i => bldr σ (.ptr σ.length 0) 5 (34 :: qbody (l.take i))) (fun i => l.length - i) (0) (Nat.zero_le _) ?_ rfl (fun i hi => ?_)
 ·exact ⟨rfl, rfl, rfl, by first | rfl | (rw [hbs]; rfl), rfl, trivial⟩
 have hqt := qbody_len (l.take i)
 rw [List.length_take] at hqt
 refine zw1 ?_
 refine AWp_seq ?_
 refine AWp_cond rfl (fun h1 => ?_) (fun h1 => ?_)
 ·(try rw [h1]); replace h1 := zcl h1
  refine AWp_skip ?_
  refine AWp_seq ?_
  refine AWp_block ?_
  refine zw2 ?_
  refine zu3 ?_
  simp only [Int.toNat_natCast]
  rw [show bat (ba l) i = l.getD i 0 from bat_ba l i]
  have hc := qbody_take (l := l) (i := i) (by omega)
  generalize l.getD i 0 = c at hc ⊢
  refine zv1 ?_
  refine AWp_block ?_
  refine zu3 ?_
  refine zsp 20 rfl (fun h2 => ?_) fun h2 => ?_
  ·rw [h2]; replace h2 := zcl h2
   refine zv4 ?_
   refine AWp_condT rfl ?_
   refine zsr ?_
   refine zt rfl (zc rfl (wbO 92 (.inl rfl) (by simp only [List.length_cons]; omega))) ?_
   refine zon ?_
   refine AWp_regL ?_
   refine zg1 ?_
   refine zt rfl (zc rfl (wbO c (.inl rfl) (by simp only [List.length_append, List.length_cons, List.length_nil]; omega))) ?_
   refine zon ?_
   refine AWp_regL ?_
   refine zv2 ?_
   refine ⟨i + 1, σ.length + 2, by omega, by omega, by simp [bldr], ⟨rfl, rfl, rfl, rfl, rfl, trivial⟩, closed_bldr hcl (by simp [AV.lt]), ?_, ?_⟩
   ·simp [ltE, AV.lt]
   ·rw [take_bldr, hc]; first | (rw [qch1 (by omega)]; simp) | (rw [qch2 (by omega) (by omega)]; simp) | (rw [qch3 (by omega) (by omega)]; rfl)
  ·rw [h2]; replace h2 := zcl h2
   refine zv4 ?_
   refine AWp_cond rfl (fun h3 => ?_) (fun h3 => ?_)
   ·(try rw [h3]); replace h3 := zcl h3
    refine zsr ?_
    refine zt rfl (zc rfl (wbO 92 (.inl rfl) (by simp only [List.length_cons]; omega))) ?_
    refine zon ?_
    refine AWp_regL ?_
    refine zg1 ?_
    refine zt rfl (zc rfl (wbO c (.inl rfl) (by simp only [List.length_append, List.length_cons, List.length_nil]; omega))) ?_
    refine zon ?_
    refine AWp_regL ?_
    refine zv2 ?_
    refine ⟨i + 1, σ.length + 2, by omega, by omega, by simp [bldr], ⟨rfl, rfl, rfl, rfl, rfl, trivial⟩, closed_bldr hcl (by simp [AV.lt]), ?_, ?_⟩
    ·simp [ltE, AV.lt]
    ·rw [take_bldr, hc]; first | (rw [qch1 (by omega)]; simp) | (rw [qch2 (by omega) (by omega)]; simp) | (rw [qch3 (by omega) (by omega)]; rfl)
   ·(try rw [h3]); replace h3 := zcl h3
    refine zw3 ?_
    refine AWp_cond rfl (fun h4 => ?_) (fun h4 => ?_)
    ·(try rw [h4]); replace h4 := zcl h4
     refine zsr ?_
     refine zt rfl (zc rfl (wsO ⟨#[92, 117, 48, 48]⟩ (.inl rfl) (by rw [show (ByteArray.mk #[92, 117, 48, 48]).size = 4 from rfl]; simp only [List.length_cons]; omega))) ?_
     refine zon ?_
     refine zu1 ?_
     refine zt rfl (op_shr rfl rfl rfl (by decide) (shr4 c)) ?_
     refine zt rfl (op_index_strB rfl Tryd.underlying9 rfl rfl (by omega) (by rw [show (ByteArray.mk #[48, 49, 50, 51, 52, 53, 54, 55, 56, 57, 97, 98, 99, 100, 101, 102]).size = 16 from rfl]; have := c.toNat_lt; omega)) ?_
     refine zt rfl (zc rfl (wbO (hxd (c.toNat / 16)) (.inl rfl) (by simp only [List.length_append, List.length_cons, List.length_nil]; omega))) ?_
     refine zon ?_
     refine AWp_regL ?_
     refine zg1 ?_
     refine zt rfl (op_and rfl rfl rfl (and15 c)) ?_
     refine zt rfl (op_index_strB rfl Tryd.underlying9 rfl rfl (by omega) (by rw [show (ByteArray.mk #[48, 49, 50, 51, 52, 53, 54, 55, 56, 57, 97, 98, 99, 100, 101, 102]).size = 16 from rfl]; have := c.toNat_lt; omega)) ?_
     refine zt rfl (zc rfl (wbO (hxd (c.toNat % 16)) (.inl rfl) (by simp only [List.length_append, List.length_cons, List.length_nil]; omega))) ?_
     refine zon ?_
     refine AWp_regL ?_
     refine zv2 ?_
     refine ⟨i + 1, σ.length + 2, by omega, by omega, by simp [bldr], ⟨rfl, rfl, rfl, rfl, rfl, trivial⟩, closed_bldr hcl (by simp [AV.lt]), ?_, ?_⟩
     ·simp [ltE, AV.lt]
     ·rw [take_bldr, hc]; first | (rw [qch1 (by omega)]; simp) | (rw [qch2 (by omega) (by omega)]; simp) | (rw [qch3 (by omega) (by omega)]; rfl)
    ·(try rw [h4]); replace h4 := zcl h4
     refine AWp_regL ?_
     refine zg1 ?_
     refine zt rfl (zc rfl (wbO c (.inl rfl) (by simp only [List.length_cons]; omega))) ?_
     refine zon ?_
     refine AWp_regL ?_
     refine zv2 ?_
     refine ⟨i + 1, σ.length + 2, by omega, by omega, by simp [bldr], ⟨rfl, rfl, rfl, rfl, rfl, trivial⟩, closed_bldr hcl (by simp [AV.lt]), ?_, ?_⟩
     ·simp [ltE, AV.lt]
     ·rw [take_bldr, hc]; first | (rw [qch1 (by omega)]; simp) | (rw [qch2 (by omega) (by omega)]; simp) | (rw [qch3 (by omega) (by omega)]; rfl)
 ·(try rw [h1]); replace h1 := zcl h1
  refine AWp_exit ?_
  refine zsr ?_
  refine zt rfl (zc rfl (wbO 34 (.inl rfl) (by simp only [List.length_cons]; omega))) ?_
  refine zon ?_
  refine zsr ?_
  refine zt rfl (zc rfl (strO (.inl rfl) (by simp only [List.length_append, List.length_cons, List.length_nil]; omega))) ?_
  refine zv1 ?_
  refine zrt ?_
  refine ResQ_1 rfl hcl trivial (Ret_of ?_)
  rw [show i = l.length by omega, List.take_length]; rfl
end Lg
namespace Lg
open Go
variable [GLay] {σ : List AO}
theorem bsc1 (c : UInt8) : srcv σ (.sl true 1 [[.int .u8 (c.toNat : Int)]]) = some (bcells ⟨#[c]⟩, 1) := rfl
theorem bsc2 (c d : UInt8) : srcv σ (.sl true 1 [[.int .u8 (c.toNat : Int)], [.int .u8 (d.toNat : Int)]]) = some (bcells ⟨#[c, d]⟩, 2) := rfl
theorem bq1 (x : BL) (c : UInt8) : ba x ++ (⟨#[92]⟩ : ByteArray) ++ (⟨#[c]⟩ : ByteArray) = ba (x ++ [92, c]) := by
  rw [show (⟨#[92]⟩ : ByteArray) = ba [92] from rfl, show (⟨#[c]⟩ : ByteArray) = ba [c] from rfl, ba_app, ba_app]; simp
theorem bq2 (x : BL) (c d : UInt8) : ba x ++ (⟨#[92, 117, 48, 48]⟩ : ByteArray) ++ (⟨#[c, d]⟩ : ByteArray) = ba (x ++ [92, 117, 48, 48, c, d]) := by
  rw [show (⟨#[92, 117, 48, 48]⟩ : ByteArray) = ba [92, 117, 48, 48] from rfl, show (⟨#[c, d]⟩ : ByteArray) = ba [c, d] from rfl, ba_app, ba_app]; simp
theorem bq3 (x : BL) (c : UInt8) : ba x ++ (⟨#[c]⟩ : ByteArray) = ba (x ++ [c]) := by
  rw [show (⟨#[c]⟩ : ByteArray) = ba [c] from rfl, ba_app]
end Lg
set_option maxRecDepth 20000
set_option maxHeartbeats 4000000
namespace Lg
open Go Go.Proofs Go.RowKit
variable [GLay] 
theorem rquote_c (l : BL) (σ : List AO) (hl : l.length ≤ 1000000) : ACalls Tryd.prog 40 [.str (ba l)] σ (Ret (.str (ba (quoteL l))) σ) := by
 refine ACalls_body Tryd.func40 rfl Tryd.ntmps40 (res1 Tryd.results40) (Nat.le_of_ble_eq_true rfl) (fun hcl hal => ?_)
 have hbs : (ba l).size = l.length := ba_size l
 have h1s : ∀ x, (ByteArray.mk #[x]).size = 1 := fun x => rfl
 have h2s : ∀ x y, (ByteArray.mk #[x, y]).size = 2 := fun x y => rfl
 have h4s : (ByteArray.mk #[92, 117, 48, 48]).size = 4 := rfl
 have h92 := h1s 92
 have h34 := h1s 34
 refine zw1 ?_
 refine zw1 ?_
 refine AWp_seq ?_
 refine zw1 ?_
 refine AWp_block ?_
 -- loop 0 LIVE 0:param 2:assign 3:assign 4:assign
 refine AWp_loop (ι := Nat) (fun i => i ≤ l.length) (fun i => ⟨[], [(0, .str (ba l)), (3, .str (ba (34 :: qbody (l.take i)))), (4, .int .i64 (i : Int))]⟩) (fun i => σ) (fun i => l.length - i) (0) (Nat.zero_le _) ?_ rfl (fun i hi => ?_)
 ·exact ⟨rfl, rfl, rfl, rfl, trivial⟩
 have hqt := qbody_len (l.take i)
 rw [List.length_take] at hqt
 have hbq : (ba (34 :: qbody (l.take i))).size = (qbody (l.take i)).length + 1 := by rw [ba_size]; rfl
 refine AWp_seq ?_
 refine zw4 ?_
 refine AWp_cond rfl (fun h1 => ?_) (fun h1 => ?_)
 ·(try rw [h1]); replace h1 := zcl h1
  refine AWp_skip ?_
  refine AWp_seq ?_
  refine AWp_block ?_
  refine zu3 ?_
  simp only [Int.toNat_natCast]
  rw [show bat (ba l) i = l.getD i 0 from bat_ba l i]
  have hc := qbody_take (l := l) (i := i) (by omega)
  generalize l.getD i 0 = c at hc ⊢
  refine zv1 ?_
  refine zu3 ?_
  refine zsp 18 rfl (fun h2 => ?_) fun h2 => ?_
  ·rw [h2]; replace h2 := zcl h2
   refine zv3 ?_
   refine AWp_condT rfl ?_
   refine AWp_regL ?_
   refine zg2 ?_
   have h1c := h1s c
   have hsa := ByteArray.size_append (a := ba (34 :: qbody (l.take i))) (b := (⟨#[92]⟩ : ByteArray))
   refine zg1 ?_
   refine zt rfl (op_buildSlice [[_]] rfl Tryd.underlying56 Tryd.sizeOf5 Tryd.zeroValue5 rfl (by decide) (by decide) rfl rfl rfl rfl rfl) ?_
   refine zt rfl (op_bytesStr (b := _) (m := 1) rfl Tryd.underlying56 Tryd.underlying5 Tryd.underlying9 (bsc1 c) rfl rfl) ?_
   refine zv2 ?_
   refine AWp_regL ?_
   refine zv3 ?_
   refine ⟨i + 1, σ.length, by omega, by omega, Nat.le_refl _, ⟨rfl, rfl, ?_, rfl, trivial⟩, hcl, ?_, List.take_length⟩
   ·rw [hc]; refine congrArg AV.str (?_ : _ = _); first | (rw [qch1 (by omega)]; exact bq1 _ _) | (rw [qch2 (by omega) (by omega)]; exact bq2 _ _ _) | (rw [qch3 (by omega) (by omega)]; exact bq3 _ _)
   ·simp [ltE, AV.lt]
  ·rw [h2]; replace h2 := zcl h2
   refine zv3 ?_
   refine AWp_cond rfl (fun h3 => ?_) (fun h3 => ?_)
   ·(try rw [h3]); replace h3 := zcl h3
    refine AWp_regL ?_
    refine zg2 ?_
    have h1c := h1s c
    have hsa := ByteArray.size_append (a := ba (34 :: qbody (l.take i))) (b := (⟨#[92]⟩ : ByteArray))
    refine zg1 ?_
    refine zt rfl (op_buildSlice [[_]] rfl Tryd.underlying56 Tryd.sizeOf5 Tryd.zeroValue5 rfl (by decide) (by decide) rfl rfl rfl rfl rfl) ?_
    refine zt rfl (op_bytesStr (b := _) (m := 1) rfl Tryd.underlying56 Tryd.underlying5 Tryd.underlying9 (bsc1 c) rfl rfl) ?_
    refine zv2 ?_
    refine AWp_regL ?_
    refine zv3 ?_
    refine ⟨i + 1, σ.length, by omega, by omega, Nat.le_refl _, ⟨rfl, rfl, ?_, rfl, trivial⟩, hcl, ?_, List.take_length⟩
    ·rw [hc]; refine congrArg AV.str (?_ : _ = _); first | (rw [qch1 (by omega)]; exact bq1 _ _) | (rw [qch2 (by omega) (by omega)]; exact bq2 _ _ _) | (rw [qch3 (by omega) (by omega)]; exact bq3 _ _)
    ·simp [ltE, AV.lt]
   ·(try rw [h3]); replace h3 := zcl h3
    refine zw2 ?_
    refine AWp_cond rfl (fun h4 => ?_) (fun h4 => ?_)
    ·(try rw [h4]); replace h4 := zcl h4
     refine zw1 ?_
     refine AWp_drawL #[0, 1, 0, 0, 8, 24, 60, 0, 0, 256, 768, 1920, 4092, 8188, 16383, 32767] Tryd.mixed (by decide +kernel) (by decide +kernel) ?_
     refine zd2 ?_
     have hsa := ByteArray.size_append (a := ba (34 :: qbody (l.take i))) (b := (⟨#[92, 117, 48, 48]⟩ : ByteArray))
     have h2c := h2s (hxd (c.toNat / 16)) (hxd (c.toNat % 16))
     refine zd3 ?_
     refine yA rfl rfl (fun _ => op_quo64 rfl rfl rfl (by omega) (by omega) (by omega)) ?_
     refine yA rfl rfl (fun _ => op_index_strB rfl Tryd.underlying9 rfl rfl (by omega) (by rw [show (ByteArray.mk #[48, 49, 50, 51, 52, 53, 54, 55, 56, 57, 97, 98, 99, 100, 101, 102]).size = 16 from rfl]; have := c.toNat_lt; omega)) ?_
     rw [show ((c.toNat : Int) / 16).toNat = c.toNat / 16 by omega]
     refine zd3 ?_
     refine yA rfl rfl (fun _ => op_rem64 rfl rfl rfl (by omega) (by omega)) ?_
     refine yA rfl rfl (fun _ => op_index_strB rfl Tryd.underlying9 rfl rfl (by omega) (by rw [show (ByteArray.mk #[48, 49, 50, 51, 52, 53, 54, 55, 56, 57, 97, 98, 99, 100, 101, 102]).size = 16 from rfl]; have := c.toNat_lt; omega)) ?_
     rw [show ((c.toNat : Int) % 16).toNat = c.toNat % 16 by omega]
     refine yA rfl rfl (fun _ => op_buildSlice [[_], [_]] rfl Tryd.underlying56 Tryd.sizeOf5 Tryd.zeroValue5 rfl (by decide) (by decide) rfl rfl rfl rfl rfl) ?_
     refine yA rfl rfl (fun _ => op_bytesStr (b := _) (m := 2) rfl Tryd.underlying56 Tryd.underlying5 Tryd.underlying9 (bsc2 (hxd (c.toNat / 16)) (hxd (c.toNat % 16))) rfl rfl) ?_
     refine zd2 ?_
     refine RP.nil rfl ?_
     refine AWp_regL ?_
     refine zv3 ?_
     refine ⟨i + 1, σ.length, by omega, by omega, Nat.le_refl _, ⟨rfl, rfl, ?_, rfl, trivial⟩, hcl, ?_, List.take_length⟩
     ·rw [hc]; refine congrArg AV.str (?_ : _ = _); first | (rw [qch1 (by omega)]; exact bq1 _ _) | (rw [qch2 (by omega) (by omega)]; exact bq2 _ _ _) | (rw [qch3 (by omega) (by omega)]; exact bq3 _ _)
     ·simp [ltE, AV.lt]
    ·(try rw [h4]); replace h4 := zcl h4
     refine AWp_regL ?_
     refine zg2 ?_
     have h1c := h1s c
     refine zt rfl (op_buildSlice [[_]] rfl Tryd.underlying56 Tryd.sizeOf5 Tryd.zeroValue5 rfl (by decide) (by decide) rfl rfl rfl rfl rfl) ?_
     refine zt rfl (op_bytesStr (b := _) (m := 1) rfl Tryd.underlying56 Tryd.underlying5 Tryd.underlying9 (bsc1 c) rfl rfl) ?_
     refine zv2 ?_
     refine AWp_regL ?_
     refine zv3 ?_
     refine ⟨i + 1, σ.length, by omega, by omega, Nat.le_refl _, ⟨rfl, rfl, ?_, rfl, trivial⟩, hcl, ?_, List.take_length⟩
     ·rw [hc]; refine congrArg AV.str (?_ : _ = _); first | (rw [qch1 (by omega)]; exact bq1 _ _) | (rw [qch2 (by omega) (by omega)]; exact bq2 _ _ _) | (rw [qch3 (by omega) (by omega)]; exact bq3 _ _)
     ·simp [ltE, AV.lt]
 ·(try rw [h1]); replace h1 := zcl h1
  refine AWp_exit ?_
  refine zw3 ?_
  refine zrt ?_
  refine ResQ_10 rfl hcl trivial (Ret_of ?_)
  rw [show i = l.length by omega, List.take_length]; exact congrArg AV.str (bq3 _ 34)
end Lg
namespace Lg
open Go Go.RowKit
variable [GLay]
/-! ### A call beside which more objects lie -/
structure Agr (s s' : CS) : Prop where
  objs : ∀ p o, s.σ[p]? = some o → s'.σ[p]? = some o ∧ s'.μ p = s.μ p
  ok : ∀ b, s.ok b ↔ s'.ok b
  w : s'.w = s.w
section
variable {s s' : CS}
theorem ArrAt.agr {p g : Nat} {R : Nat → Pl → Prop} (x : Agr s s') (h : ArrAt s p g R) : ArrAt s' p g R := by
  unfold ArrAt at h ⊢
  cases e : s.σ[p]? with
  | none => rw [e] at h; exact h.elim
  | some o => obtain ⟨h1, h2⟩ := x.objs p o e; rw [h1, h2]; rw [e] at h; exact h
theorem BAt.agr {p n : Nat} {R : Pl → Prop} (x : Agr s s') (h : BAt s p n R) : BAt s' p n R := by
  unfold BAt at h ⊢
  cases e : s.σ[p]? with
  | none => rw [e] at h; exact h.elim
  | some o => obtain ⟨h1, h2⟩ := x.objs p o e; rw [h1, h2]; rw [e] at h; exact h
theorem BoxOf.agr {p n : Nat} {T : TypeId} (x : Agr s s') (h : BoxOf s p T n) : BoxOf s' p T n := by
  unfold BoxOf at h ⊢
  cases e : s.σ[p]? with
  | none => rw [e] at h; exact h.elim
  | some o => obtain ⟨h1, h2⟩ := x.objs p o e; rw [h1, h2, x.w]; rw [e] at h; exact h
theorem V.agr (x : Agr s s') {a : AV} {v : Value} (h : V s a v) : V s' a v := by
  induction h with
  | any v => exact .any v
  | bool b => exact .bool b
  | int k n => exact .int k n
  | str x => exact .str x
  | nilp => exact .nilp
  | nilT p T n h => exact .nilT p T n (h.agr x)
  | ptr p off o h hb =>
    obtain ⟨h1, h2⟩ := x.objs p o h
    rw [← h2]; exact .ptr p off o h1 hb
  | pel p gg i v h1 h => exact .pel p gg i v h1 (h.agr x)
  | pp cs b off vs hok hl hc hv ih => exact .pp cs b off vs ((x.ok b).1 hok) hl (by rw [x.w]; exact hc) ih
  | nils => exact .nils
  | sl full sz es b off cap vs hok hsz hl hc hv hcap hf ih => exact .sl full sz es b off cap vs (hok.imp id (x.ok b).1) hsz hl (by rw [x.w]; exact hc) ih hcap hf
  | sl0 full sz ad => exact .sl0 full sz ad
  | arr p gg sz off len v h1 h => exact .arr p gg sz off len v h1 (h.agr x)
  | bts p n v h1 h => exact .bts p n v h1 (h.agr x)
  | btp p n v h1 h => exact .btp p n v h1 (h.agr x)
  | nilm => exact .nilm
  | func fn f c vf vc hf hc h1 h2 ih1 ih2 => exact .func fn f c vf vc hf hc ih1 ih2
  | nilf => exact .nilf
  | iface T a v h ih => exact .iface T a v ih
  | nili => exact .nili
  | agg cs vs hl hv ih => exact .agg cs vs hl ih
  | tup cs vs hl hv ih => exact .tup cs vs hl ih
theorem PW.agr (x : Agr s s') {cs : List AV} {vs : List Value} (h : PW s cs vs) : PW s' cs vs := ⟨h.1, fun i c v h1 h2 => (h.2 i c v h1 h2).agr x⟩
theorem ORep.agr (x : Agr s s') {p : Nat} {o : AO} (hm : s'.μ p = s.μ p) (h : ORep s p o) : ORep s' p o := by
  cases o with
  | box cs => obtain ⟨h1, vs, T, h2, h3⟩ := h; exact ⟨by rw [hm]; exact fun k => h1 ((x.ok _).2 k), vs, T, by rw [hm, x.w]; exact h2, h3.agr x⟩
  | arr sz gg cs =>
    rcases h with ⟨h1, h2⟩ | ⟨h0, h1, vs, T, h2, h3, h4, h5⟩
    · exact .inl ⟨by rw [hm]; exact h1, h2⟩
    · exact .inr ⟨by rw [hm]; exact h0, by rw [hm]; exact fun k => h1 ((x.ok _).2 k), vs, T, by rw [hm, x.w]; exact h2, by rw [hm]; exact h3, by rw [hm]; exact h4, by rw [hm]; exact h5.agr x⟩
  | bytes T l =>
    rcases h with ⟨h1, h2⟩ | ⟨h0, h1, vs, h2, h3, h4, h5⟩
    · exact .inl ⟨by rw [hm]; exact h1, h2⟩
    · exact .inr ⟨by rw [hm]; exact h0, by rw [hm]; exact fun k => h1 ((x.ok _).2 k), vs, by rw [hm, x.w]; exact h2, by rw [hm]; exact h3, by rw [hm]; exact h4, h5⟩
  | gone => trivial
  | dead => trivial
theorem ORep.dead {p : Nat} (hm : s'.μ p = s.μ p) {o : AO} (ho : s.σ[p]? = some o) (h : ORep s p o) (hl : ¬ s.live p) : ORep s' p o := by
  unfold CS.live at hl; rw [ho] at hl
  cases o with
  | box cs => exact absurd trivial hl
  | arr sz gg cs =>
    rcases h with ⟨h1, h2⟩ | ⟨h0, _⟩
    · exact .inl ⟨by rw [hm]; exact h1, h2⟩
    · exact absurd h0 hl
  | bytes T l =>
    rcases h with ⟨h1, h2⟩ | ⟨h0, _⟩
    · exact .inl ⟨by rw [hm]; exact h1, h2⟩
    · exact absurd h0 hl
  | gone => trivial
  | dead => trivial
end
theorem Good.glue {s t : CS} {n : Nat} (g : Good s) (gt : Good t) (x : Ext (s.cut n) t) (hn : n ≤ s.σ.length) (hl : t.σ.length = n) :
    ∃ s', s'.σ = t.σ ++ s.σ.drop n ∧ s'.w = t.w ∧ Good s' ∧ Ext s s' ∧ Agr t s' := by
  let s' : CS := { σ := t.σ ++ s.σ.drop n, μ := fun p => if p < n then t.μ p else s.μ p, ok := t.ok, w := t.w }
  have hlo : ∀ {p : Nat}, p < n → s'.σ[p]? = t.σ[p]? ∧ s'.μ p = t.μ p := fun {p} h => ⟨List.getElem?_append_left (by omega), if_pos h⟩
  have hhi : ∀ {p : Nat}, n ≤ p → s'.σ[p]? = s.σ[p]? ∧ s'.μ p = s.μ p := fun {p} h => ⟨by
    show (t.σ ++ s.σ.drop n)[p]? = _
    rw [List.getElem?_append_right (by omega), List.getElem?_drop]; congr 1; omega, if_neg (by omega)⟩
  have hcut : ∀ {p : Nat}, p < n → (s.cut n).σ[p]? = s.σ[p]? := fun {p} h => by show (s.σ.take n)[p]? = _; rw [List.getElem?_take, if_pos h]
  have lcut : ∀ {p : Nat}, p < n → s.live p → (s.cut n).live p := fun {p} h k => by unfold CS.live at *; rw [hcut h]; exact k
  have lcut' : ∀ {p : Nat}, (s.cut n).live p → p < n ∧ s.live p := fun {p} k => by
    have h1 := CS.live_lt k
    have h2 : (s.cut n).σ.length = n := by show (s.σ.take n).length = n; rw [List.length_take]; omega
    refine ⟨by omega, ?_⟩
    unfold CS.live at *; rw [hcut (by omega)] at k; exact k
  have llo : ∀ {p : Nat}, p < n → s'.live p → t.live p := fun {p} h k => by unfold CS.live at *; rw [(hlo h).1, (hlo h).2] at k; exact k
  have lhi : ∀ {p : Nat}, n ≤ p → s'.live p → s.live p := fun {p} h k => by unfold CS.live at *; rw [(hhi h).1, (hhi h).2] at k; exact k
  have hfr : ∀ b, b < s.w.heap.size → (∀ p, s.live p → (s.μ p).b ≠ b) → t.w.heap[b]? = s.w.heap[b]? := fun b hb hp => x.frame b hb (fun p hp' => hp p (lcut' hp').2)
  have hhb : ∀ {p : Nat}, n ≤ p → s.live p → t.w.heap[(s.μ p).b]? = s.w.heap[(s.μ p).b]? := fun {p} h k => x.frame _ (g.live_lt k).1 (fun q hq => g.inj q p (by have := (lcut' hq).1; omega) (lcut' hq).2 k)
  have hho : ∀ {p : Nat}, n ≤ p → s.live p → ¬ t.ok (s.μ p).b := fun {p} h k ho => by
    rcases x.okn _ ho with h1 | h1 | ⟨q, h1, h2⟩
    · exact (g.live_lt k).2 h1
    · have := (g.live_lt k).1; have : s.w.heap.size ≤ (s.μ p).b := h1; omega
    · exact g.inj q p (by have := (lcut' h1).1; omega) (lcut' h1).2 k h2
  have hx : Ext s s' := {
    objs := fun p o h => by
      rcases Nat.lt_or_ge p n with hp | hp
      · obtain ⟨o', h1, h2, h3⟩ := x.objs p o ((hcut hp).trans h)
        exact ⟨o', (hlo hp).1.trans h1, h2, fun hs => (hlo hp).2.trans (h3 hs)⟩
      · exact ⟨o, (hhi hp).1.trans h, OLe.refl o, fun _ => (hhi hp).2⟩
    ok := fun b h => x.ok b h
    okn := fun b h => by
      rcases x.okn b h with h1 | h1 | ⟨q, h1, h2⟩
      · exact .inl h1
      · exact .inr (.inl h1)
      · exact .inr (.inr ⟨q, (lcut' h1).2, h2⟩)
    mun := fun p h => by
      rcases Nat.lt_or_ge p n with hp | hp
      · rw [(hlo hp).2]
        rcases x.mun p (llo hp h) with ⟨h1, h2, h3⟩ | h1
        · exact .inl ⟨by omega, (lcut' h2).2, h3⟩
        · exact .inr h1
      · have k := lhi hp h
        exact .inl ⟨CS.live_lt k, k, by rw [(hhi hp).2]⟩
    frame := hfr
    size := x.size
    shp := fun p cs cs' z h1 h2 h3 => by
      rcases Nat.lt_or_ge p n with hp | hp
      · rw [(hlo hp).2]; exact x.shp p cs cs' z ((hcut hp).trans h1) ((hlo hp).1.symm.trans h2) h3
      · have k : s.live p := by unfold CS.live; rw [h1]; trivial
        rw [(hhi hp).2]; exact (shape_eq (hhb hp k)).trans h3
    tape := x.tape
    os := x.os
    output := x.output }
  have ha : Agr t s' := ⟨fun p o h => by
    have hp : p < n := by have := (List.getElem?_eq_some_iff.1 h).1; omega
    exact ⟨(hlo hp).1.trans h, (hlo hp).2⟩, fun b => Iff.rfl, rfl⟩
  refine ⟨s', rfl, rfl, ⟨gt.okb, fun p o ho => ?_, fun p q hpq hp hq => ?_, gt.glob⟩, hx, ha⟩
  · rcases Nat.lt_or_ge p n with hp | hp
    · exact (gt.obj p o ((hlo hp).1.symm.trans ho)).agr ha (hlo hp).2
    · have ho' := (hhi hp).1.symm.trans ho
      by_cases k : s.live p
      · exact (g.obj p o ho').mono g hx (hhi hp).2 (fun _ => hho hp k) (fun vs T hb _ => (hhb hp k).trans hb)
      · exact ORep.dead (hhi hp).2 ho' (g.obj p o ho') k
  · rcases Nat.lt_or_ge p n with hp' | hp' <;> rcases Nat.lt_or_ge q n with hq' | hq'
    · rw [(hlo hp').2, (hlo hq').2]; exact gt.inj p q hpq (llo hp' hp) (llo hq' hq)
    · rw [(hlo hp').2, (hhi hq').2]
      have k := lhi hq' hq
      rcases x.mun p (llo hp' hp) with ⟨h1, h2, h3⟩ | h1
      · rw [h3]; exact g.inj p q hpq (lcut' h2).2 k
      · have := (g.live_lt k).1; have : s.w.heap.size ≤ (t.μ p).b := h1; omega
    · rw [(hhi hp').2, (hlo hq').2]
      have k := lhi hp' hp
      rcases x.mun q (llo hq' hq) with ⟨h1, h2, h3⟩ | h1
      · rw [h3]; exact g.inj p q hpq k (lcut' h2).2
      · have := (g.live_lt k).1; have : s.w.heap.size ≤ (t.μ q).b := h1; omega
    · rw [(hhi hp').2, (hhi hq').2]; exact g.inj p q hpq (lhi hp' hp) (lhi hq' hq)
/-- What a call does it does with more objects behind its own, too. -/
theorem ACalls_suffix {P : Program} {f : FuncId} {args : List AV} {σ ρ : List AO} {R : Out → List AO → Prop} (h : ACalls P f args σ R) (hc : closed σ.length σ) (ha : AV.ltL σ.length args) (hl : ∀ r τ, R r τ → τ.length = σ.length) :
    ACalls P f args (σ ++ ρ) fun r τ => ∃ τ0, τ = τ0 ++ ρ ∧ R r τ0 := by
  intro s cargs hs g hp
  have hn : σ.length ≤ s.σ.length := by rw [hs]; simp
  have htake : s.σ.take σ.length = σ := by rw [hs]; simp
  have hdrop : s.σ.drop σ.length = ρ := by rw [hs]; simp
  have g1 : Good (s.cut σ.length) := g.cut fun p o hpn ho => hc p o hpn (by rw [hs, List.getElem?_append_left hpn] at ho; exact ho)
  have hp1 : PW (s.cut σ.length) args cargs := ⟨hp.1, fun i c v h1 h2 => (hp.2 i c v h1 h2).cut ((AV.ltL_iff _ _).1 ha c (List.mem_of_getElem? h1))⟩
  refine (h (s.cut σ.length) cargs htake g1 hp1).mono fun e w' hq => ?_
  obtain ⟨t, rfl, gt, xt, hr⟩ := hq
  cases e with
  | returned cv =>
    obtain ⟨v, hv, hR⟩ := hr
    obtain ⟨s', e1, e2, e3, e4, e5⟩ := g.glue gt xt hn (hl _ _ hR)
    exact ⟨s', e2, e3, e4, v, hv.agr e5, t.σ, by rw [e1, hdrop], hR⟩
  | outgrown => exact hr.elim
  | panicked ch =>
    cases ch with
    | nil => exact hr.elim
    | cons en r =>
      cases r with
      | nil =>
        obtain ⟨h1, v, hv, hR⟩ := hr
        obtain ⟨s', e1, e2, e3, e4, e5⟩ := g.glue gt xt hn (hl _ _ hR)
        exact ⟨s', e2, e3, e4, h1, v, hv.agr e5, t.σ, by rw [e1, hdrop], hR⟩
      | cons => exact hr.elim
theorem ACalls_suf {P : Program} {f : FuncId} {args : List AV} {σ ρ σ' : List AO} {v : AV} (h : ACalls P f args σ (Ret v σ')) (hc : closed σ.length σ) (ha : AV.ltL σ.length args) (hl : σ'.length = σ.length) : ACalls P f args (σ ++ ρ) (Ret v (σ' ++ ρ)) :=
  (ACalls_suffix (ρ := ρ) h hc ha (fun r τ hr => by rw [hr.2]; exact hl)).mono fun r τ hr => by
    obtain ⟨τ0, h1, h2⟩ := hr
    exact ⟨h2.1, by rw [h1, h2.2]⟩
end Lg
namespace Lg
open Go
/-! ### A value's canonical text -/
def nullL : BL := [110, 117, 108, 108]
def trueL : BL := [116, 114, 117, 101]
def falseL : BL := [102, 97, 108, 115, 101]
mutual
def jtx : JV → BL
  | .mk k b n s l m => if k = 1 then (if b then trueL else falseL) else if k = 2 then (jshow n).data.toList else if k = 3 then quoteL s.data.toList else
    if k = 4 then ljw 91 l ++ (if l.length = 0 then [91, 93] else [93]) else if k = 5 then mjw 123 m ++ (if m.length = 0 then [123, 125] else [125]) else nullL
def ljw (c : UInt8) : List JV → BL
  | [] => []
  | x :: r => c :: (jtx x ++ ljw 44 r)
def mjw (c : UInt8) : List (ByteArray × JV) → BL
  | [] => []
  | (k, x) :: r => c :: (quoteL k.data.toList ++ 58 :: (jtx x ++ mjw 44 r))
end
theorem jtx_eq (v : JV) : jtx v = if v.kind = 1 then (if v.b then trueL else falseL) else if v.kind = 2 then (jshow v.n).data.toList else if v.kind = 3 then quoteL v.s.data.toList else
    if v.kind = 4 then ljw 91 v.l ++ (if v.l.length = 0 then [91, 93] else [93]) else if v.kind = 5 then mjw 123 v.m ++ (if v.m.length = 0 then [123, 125] else [125]) else nullL := by
  cases v; rw [jtx]; rfl
theorem ljw_snoc : ∀ (l : List JV) (c : UInt8) (x : JV), ljw c (l ++ [x]) = ljw c l ++ (if l.length = 0 then c else 44) :: jtx x
  | [], c, x => by simp [ljw]
  | y :: r, c, x => by
    rw [List.cons_append, ljw, ljw_snoc r 44 x, ljw]
    cases r <;> simp
theorem mjw_snoc : ∀ (l : List (ByteArray × JV)) (c : UInt8) (x : ByteArray × JV), mjw c (l ++ [x]) = mjw c l ++ (if l.length = 0 then c else 44) :: (quoteL x.1.data.toList ++ 58 :: jtx x.2)
  | [], c, x => by simp [mjw]
  | y :: r, c, x => by
    rw [List.cons_append, mjw, mjw_snoc r 44 x, mjw]
    cases r <;> simp
theorem ltake_succ {α : Type} {l : List α} {i : Nat} {x : α} (h : l[i]? = some x) : l.take (i + 1) = l.take i ++ [x] := by rw [List.take_add_one, h]; rfl
theorem ljw_take {l : List JV} {i : Nat} {x : JV} (c : UInt8) (h : l[i]? = some x) : ljw c (l.take (i + 1)) = ljw c (l.take i) ++ (if i = 0 then c else 44) :: jtx x := by
  have hi := (List.getElem?_eq_some_iff.1 h).1
  rw [ltake_succ h, ljw_snoc, List.length_take, Nat.min_eq_left (by omega)]
theorem mjw_take {l : List (ByteArray × JV)} {i : Nat} {x : ByteArray × JV} (c : UInt8) (h : l[i]? = some x) : mjw c (l.take (i + 1)) = mjw c (l.take i) ++ (if i = 0 then c else 44) :: (quoteL x.1.data.toList ++ 58 :: jtx x.2) := by
  have hi := (List.getElem?_eq_some_iff.1 h).1
  rw [ltake_succ h, mjw_snoc, List.length_take, Nat.min_eq_left (by omega)]
theorem ljw_head (c : UInt8) (l : List JV) : ljw c l = if l.length = 0 then [] else c :: (ljw 44 l).tail := by cases l <;> simp [ljw]
theorem mjw_head (c : UInt8) (l : List (ByteArray × JV)) : mjw c l = if l.length = 0 then [] else c :: (mjw 44 l).tail := by
  cases l with
  | nil => simp [mjw]
  | cons x r => obtain ⟨k, y⟩ := x; simp [mjw]
theorem jshow_len (n : JNum) (h : n.digits.size ≤ 1000000) (h0 : -1000000 ≤ n.exp) (h1 : n.exp ≤ 1000000) : (jshow n).size ≤ 1000025 := by
  have := itoa_size (n := n.exp) (by omega) (by omega)
  have e1 : (⟨#[45]⟩ : ByteArray).size = 1 := rfl
  have e2 : (⟨#[101]⟩ : ByteArray).size = 1 := rfl
  have e3 : (⟨#[48]⟩ : ByteArray).size = 1 := rfl
  unfold jshow
  repeat' split
  all_goals (try simp only [ByteArray.size_append, e1, e2, e3])
  all_goals omega
/-- Kinds, strings, and numbers are such as the walk bears. -/
def jnb (n : JNum) : Prop := -1000000 ≤ n.exp ∧ n.exp ≤ 1000000
mutual
def jkb : JV → Prop
  | .mk k _ n _ l m => 0 ≤ k ∧ k ≤ 5 ∧ jnb n ∧ lkb l ∧ mkb m
def lkb : List JV → Prop
  | [] => True
  | v :: r => jkb v ∧ lkb r
def mkb : List (ByteArray × JV) → Prop
  | [] => True
  | (_, v) :: r => jkb v ∧ mkb r
end
theorem jkb_eq (v : JV) : jkb v ↔ 0 ≤ v.kind ∧ v.kind ≤ 5 ∧ jnb v.n ∧ lkb v.l ∧ mkb v.m := by cases v; simp [jkb, JV.kind, JV.n, JV.l, JV.m]
theorem lkb_get {l : List JV} {i : Nat} {x : JV} (h : lkb l) (hx : l[i]? = some x) : jkb x := by
  induction l generalizing i with
  | nil => simp at hx
  | cons a r ih =>
    cases i with
    | zero => simp at hx; subst hx; exact h.1
    | succ i => exact ih h.2 (by simpa using hx)
theorem mkb_get {l : List (ByteArray × JV)} {i : Nat} {x : ByteArray × JV} (h : mkb l) (hx : l[i]? = some x) : jkb x.2 := by
  induction l generalizing i with
  | nil => simp at hx
  | cons a r ih =>
    cases i with
    | zero => simp at hx; subst hx; exact h.1
    | succ i => exact ih h.2 (by simpa using hx)
theorem lkb_of : ∀ {l : List JV}, (∀ (i : Nat) x, l[i]? = some x → jkb x) → lkb l
  | [], _ => trivial
  | a :: r, h => ⟨h 0 a rfl, lkb_of fun i x hx => h (i + 1) x (by simpa using hx)⟩
theorem mkb_of : ∀ {l : List (ByteArray × JV)}, (∀ (i : Nat) x, l[i]? = some x → jkb x.2) → mkb l
  | [], _ => trivial
  | a :: r, h => ⟨h 0 a rfl, mkb_of fun i x hx => h (i + 1) x (by simpa using hx)⟩
theorem may_nb {n : JNum} (h : NumMay n) : jnb n := by
  rcases h with ⟨_, _, h⟩ | ⟨_, _, _, _, _, h1, h2⟩
  · unfold jnb; omega
  · unfold jnb; omega
theorem may_kb : ∀ (n : Nat) (v : JV), jsize v ≤ n → jmay v → jkb v := by
  intro n
  induction n with
  | zero => intro v h; have := jsize_pos v; omega
  | succ n ih =>
    intro v hn hm
    have hs := jsize_eq v
    have hl := lsize_nn v.l
    have hmm := msize_nn v.m
    obtain ⟨⟨h1, h2, h3, h4, h5⟩, h6, h7⟩ := (jmay_eq v).1 hm
    refine (jkb_eq v).2 ⟨h1, h2, may_nb h4, lkb_of fun i x hx => ih x ?_ (h7 i x hx), mkb_of fun i x hx => ih x.2 ?_ (h6 i x (List.getElem?_eq_some_iff.1 hx).1 hx).2⟩
    · have := lsize_mem hx; omega
    · have := msize_mem hx; omega
mutual
theorem jtx_len : ∀ v : JV, jb v → jkb v → ((jtx v).length : Int) + 7000010 ≤ 20000000 * jsize v
  | .mk k b n s l m => fun hb hk => by
    obtain ⟨b1, b2, b3, b4, b5, b6⟩ := hb
    obtain ⟨k1, k2, k3, k4, k5⟩ := hk
    have h1 := ljw_len l 91 b5 k4
    have h2 := mjw_len m 123 b6 k5
    have h3 := lsize_nn l
    have h4 := msize_nn m
    have h5 := jshow_len n b1 k3.1 k3.2
    have h6 := qbody_len s.data.toList
    have h7 : s.data.toList.length = s.size := Array.length_toList ..
    have h8 : (quoteL s.data.toList).length = (qbody s.data.toList).length + 2 := by unfold quoteL; simp
    have h9 : (jshow n).data.toList.length = (jshow n).size := Array.length_toList ..
    simp only [jtx, jsize, trueL, falseL, nullL]
    repeat' split
    all_goals (try simp only [List.length_append, List.length_cons, List.length_nil])
    all_goals omega
theorem ljw_len : ∀ (l : List JV) (c : UInt8), lb l → lkb l → ((ljw c l).length : Int) ≤ 20000000 * lsize l
  | [], c => fun _ _ => by simp [ljw, lsize]
  | x :: r, c => fun hb hk => by
    have h1 := jtx_len x hb.1 hk.1
    have h2 := ljw_len r 44 hb.2 hk.2
    simp only [ljw, lsize, List.length_append, List.length_cons]
    omega
theorem mjw_len : ∀ (l : List (ByteArray × JV)) (c : UInt8), mb l → mkb l → ((mjw c l).length : Int) ≤ 20000000 * msize l
  | [], c => fun _ _ => by simp [mjw, msize]
  | (k, x) :: r, c => fun hb hk => by
    have h1 := jtx_len x hb.2.1 hk.1
    have h2 := mjw_len r 44 hb.2.2 hk.2
    have h6 := qbody_len k.data.toList
    have h7 : k.data.toList.length = k.size := Array.length_toList ..
    have h8 : (quoteL k.data.toList).length = (qbody k.data.toList).length + 2 := by unfold quoteL; simp
    have h9 := hb.1
    simp only [mjw, msize, List.length_append, List.length_cons]
    omega
end
end Lg
namespace Lg
open Go Go.RowKit
variable [GLay] {P : Program} {τ ρ : List AO} {E : TypeId} {a a' : AV} {l l' : List UInt8}
/-! ### A Builder of the caller's, more objects behind it -/
theorem bldr_app : bldr τ a E l ++ ρ = τ ++ (.box [a, .bts (τ.length + 1) l.length] :: .bytes E l :: ρ) := by unfold bldr; rw [List.append_assoc]; rfl
theorem bldr_len : (bldr τ a E l).length = τ.length + 2 := by simp [bldr]
theorem sufB {f : FuncId} {args : List AV} {v : AV} (h : ACalls P f args (bldr τ a E l) (Ret v (bldr τ a' E l'))) (hτ : closed τ.length τ) (ha : a.lt (τ.length + 2)) (hargs : AV.ltL (τ.length + 2) args) :
    ACalls P f args (τ ++ (.box [a, .bts (τ.length + 1) l.length] :: .bytes E l :: ρ)) (Ret v (τ ++ (.box [a', .bts (τ.length + 1) l'.length] :: .bytes E l' :: ρ))) := by
  rw [← bldr_app, ← bldr_app]
  exact ACalls_suf h (by rw [bldr_len]; exact closed_bldr hτ ha) (by rw [bldr_len]; exact hargs) (by rw [bldr_len, bldr_len])
theorem ResQ_B {R : Out → List AO → Prop} {el : List (Nat × AV)} (hτ : closed τ.length τ) (ha : a'.lt (τ.length + 2)) (hR : R (.ret (.tup [])) (bldr τ a' E l')) :
    ResQ (bldr τ a E l).length [] R .normal ⟨[], el⟩ (τ ++ (.box [a', .bts (τ.length + 1) l'.length] :: .bytes E l' :: ρ)) := by
  refine ⟨rfl, τ.length + 2, by rw [bldr_len]; exact Nat.le_refl _, ?_, trivial, ?_⟩
  · exact closed_own 2 hτ (by simp [ownLt, AO.cells, AV.ltL, AV.lt, ha])
  · rw [take_own]; exact hR
end Lg
namespace Lg
open Go
theorem lb_take : ∀ (l : List JV) (i : Nat), lb l → lb (l.take i)
  | [], i, _ => by simp [lb]
  | a :: r, 0, _ => by simp [lb]
  | a :: r, i + 1, h => ⟨h.1, lb_take r i h.2⟩
theorem lkb_take : ∀ (l : List JV) (i : Nat), lkb l → lkb (l.take i)
  | [], i, _ => by simp [lkb]
  | a :: r, 0, _ => by simp [lkb]
  | a :: r, i + 1, h => ⟨h.1, lkb_take r i h.2⟩
theorem mb_take : ∀ (l : List (ByteArray × JV)) (i : Nat), mb l → mb (l.take i)
  | [], i, _ => by simp [mb]
  | a :: r, 0, _ => by simp [mb]
  | (k, x) :: r, i + 1, h => ⟨h.1, h.2.1, mb_take r i h.2.2⟩
theorem mkb_take : ∀ (l : List (ByteArray × JV)) (i : Nat), mkb l → mkb (l.take i)
  | [], i, _ => by simp [mkb]
  | a :: r, 0, _ => by simp [mkb]
  | (k, x) :: r, i + 1, h => ⟨h.1, mkb_take r i h.2⟩
def sgn (c : UInt8) : Nat → UInt8
  | 0 => c
  | _ + 1 => 44
theorem sgn_eq (c : UInt8) (i : Nat) : sgn c i = if i = 0 then c else 44 := by cases i <;> simp [sgn]
theorem ljw_step {l : List JV} {i : Nat} {x : JV} (c : UInt8) (h : l[i]? = some x) (p : BL) : p ++ ljw c (l.take i) ++ [sgn c i] ++ jtx x = p ++ ljw c (l.take (i + 1)) := by
  rw [ljw_take c h, sgn_eq]; simp
theorem mjw_step {l : List (ByteArray × JV)} {i : Nat} {x : ByteArray × JV} (c : UInt8) (h : l[i]? = some x) (p : BL) : p ++ mjw c (l.take i) ++ (sgn c i :: (quoteL x.1.data.toList ++ [58])) ++ jtx x.2 = p ++ mjw c (l.take (i + 1)) := by
  rw [mjw_take c h, sgn_eq]; simp
theorem ljw_le {l : List JV} (c : UInt8) (h1 : lb l) (h2 : lkb l) (i : Nat) : ((ljw c (l.take i)).length : Int) ≤ 20000000 * lsize (l.take i) ∧ lsize (l.take i) ≤ lsize l := ⟨ljw_len _ c (lb_take l i h1) (lkb_take l i h2), lsize_take_le l i⟩
theorem mjw_le {l : List (ByteArray × JV)} (c : UInt8) (h1 : mb l) (h2 : mkb l) (i : Nat) : ((mjw c (l.take i)).length : Int) ≤ 20000000 * msize (l.take i) ∧ msize (l.take i) ≤ msize l := ⟨mjw_len _ c (mb_take l i h1) (mkb_take l i h2), msize_take_le l i⟩
theorem tail_txt (x y : UInt8) (n : Nat) : ((⟨#[x, y]⟩ : ByteArray).extract (min (n : Int) 1).toNat ((2 : Nat) : Int).toNat).data.toList = if n = 0 then [x, y] else [y] := by
  by_cases h : n = 0
  · subst h; rw [if_pos rfl]; rfl
  · rw [if_neg h, show (min (n : Int) 1).toNat = 1 by omega]; rfl
theorem quote_size {s : ByteArray} (h : s.size ≤ 1000000) : (quoteL s.data.toList).length ≤ 6000002 := by
  have h6 := qbody_len s.data.toList
  have h7 : s.data.toList.length = s.size := Array.length_toList ..
  unfold quoteL; simp; omega
end Lg
set_option maxRecDepth 20000
set_option maxHeartbeats 4000000
namespace Lg
open Go Go.Proofs Go.RowKit
variable [GLay] [S10]
theorem quoteT_c (s : ByteArray) (σ : List AO) (hs : s.size ≤ 1000000) : ACalls Tryd.prog 10 [.str s] σ (Ret (.str (ba (quoteL s.data.toList))) σ) := by
  have h := quote_c s.data.toList σ hs
  rwa [← ba_eta] at h
theorem rquoteT_c (s : ByteArray) (σ : List AO) (hs : s.size ≤ 1000000) : ACalls Tryd.prog 40 [.str s] σ (Ret (.str (ba (quoteL s.data.toList))) σ) := by
  have h := rquote_c s.data.toList σ hs
  rwa [← ba_eta] at h
theorem okA_lt {τ : List AO} {a : AV} (ha : a = .ptr τ.length 0 ∨ ∃ U n, a = .nilT τ.length U n ∧ liesAt Tryd.prog Tryd.prog.depth U (n / Tryd.prog.cellsOf U) 0 58 1 = true) : a.lt (τ.length + 2) := by
  rcases ha with rfl | ⟨U, n, rfl, _⟩ <;> simp [AV.lt]
theorem wsL (t : BL) {τ ρ : List AO} {a : AV} {l : BL} (ha : a = .ptr τ.length 0 ∨ ∃ U n, a = .nilT τ.length U n ∧ liesAt Tryd.prog Tryd.prog.depth U (n / Tryd.prog.cellsOf U) 0 58 1 = true) (hτ : closed τ.length τ) (hlen : (l.length : Int) + t.length ≤ 100000000000000) : ACalls Tryd.prog 32 [.ptr τ.length 0, .str (ba t)] (τ ++ (.box [a, .bts (τ.length + 1) (l).length] :: .bytes 5 (l) :: ρ)) (Ret (.tup [.int .i64 (ba t).size, .nili]) (τ ++ (.box [.ptr τ.length 0, .bts (τ.length + 1) (l ++ t).length] :: .bytes 5 (l ++ t) :: ρ))) := by
  have h := wsO (ba t) (σ := τ) (l := l) ha (by rw [ba_size]; omega)
  rw [ba_toList] at h
  exact sufB h hτ (okA_lt ha) (by simp [AV.ltL, AV.lt])
theorem put_any (n : Nat) : ∀ (v : JV) {τ : List AO} {a : AV} {l : BL}, jsize v ≤ n → jb v → jkb v → (l.length : Int) + 20000000 * jsize v ≤ 100000000000000 → (a = .ptr τ.length 0 ∨ ∃ U n, a = .nilT τ.length U n ∧ liesAt Tryd.prog Tryd.prog.depth U (n / Tryd.prog.cellsOf U) 0 58 1 = true) → closed τ.length τ → ACalls Tryd.prog 38 [.ptr τ.length 0, .agg (vcells v)] (bldr τ a 5 l) (Ret (.tup []) (bldr τ (.ptr τ.length 0) 5 (l ++ jtx v))) := by
 induction n with
 | zero => intro v τ a l h; have := jsize_pos v; omega
 | succ n ih =>
 intro v τ a l hn hjb hkb hlen ha hτ
 have hvs := jsize_eq v
 have hv1 := jsize_pos v
 have hl0 := lsize_nn v.l
 have hm0 := msize_nn v.m
 obtain ⟨hb1, hb2, hb3, hb4, hb5, hb6⟩ := (jb_eq v).1 hjb
 obtain ⟨hk1, hk2, hk3, hk4, hk5⟩ := (jkb_eq v).1 hkb
 refine ACalls_body Tryd.func38 rfl Tryd.ntmps38 (res0 Tryd.results38) (Nat.le_of_ble_eq_true rfl) (fun hcl hal => ?_)
 rw [vcells_eq v]
 refine AWp_heap (σ' := τ ++ [.box [a, .bts (τ.length + 1) (l).length], .bytes 5 (l)]) rfl ?_
 refine zw1 ?_
 refine zw2 ?_
 refine AWp_block ?_
 refine zw2 ?_
 refine AWp_cond rfl (fun h1 => ?_) (fun h1 => ?_)
 ·(try rw [h1]); replace h1 := zcl h1
  refine zw2 ?_
  refine AWp_cond rfl (fun h2 => ?_) (fun h2 => ?_)
  ·(try rw [h2]); replace h2 := zcl h2
   refine AWp_regL ?_
   refine zg1 ?_
   refine zt rfl (zc rfl (wsL trueL ha hτ (by rw [show trueL.length = 4 from rfl]; omega))) ?_
   refine zon ?_
   (try simp only [blockQ, thenQ])
   have hE : jtx v = trueL := by rw [jtx_eq, if_pos h1, if_pos h2]
   rw [hE]
   exact ResQ_B hτ (by simp [AV.lt]) ⟨rfl, rfl⟩
  ·(try rw [h2]); replace h2 := zcl h2
   refine AWp_regL ?_
   refine zg1 ?_
   refine zt rfl (zc rfl (wsL falseL ha hτ (by rw [show falseL.length = 5 from rfl]; omega))) ?_
   refine zon ?_
   (try simp only [blockQ, thenQ])
   have hE : jtx v = falseL := by rw [jtx_eq, if_pos h1, if_neg (by rw [h2]; decide)]
   rw [hE]
   exact ResQ_B hτ (by simp [AV.lt]) ⟨rfl, rfl⟩
 ·(try rw [h1]); replace h1 := zcl h1
  refine zw2 ?_
  refine AWp_cond rfl (fun h3 => ?_) (fun h3 => ?_)
  ·(try rw [h3]); replace h3 := zcl h3
   refine AWp_regL ?_
   refine zg3 ?_
   refine zt rfl (zc rfl (pshow_c v.n _ ⟨by omega, hk3.1, hk3.2⟩)) ?_
   refine zt rfl (zc rfl (ba_eta (jshow v.n) ▸ wsL (jshow v.n).data.toList ha hτ (by have := jshow_len v.n hb1 hk3.1 hk3.2; have h9 : (jshow v.n).data.toList.length = (jshow v.n).size := Array.length_toList ..; omega))) ?_
   refine zon ?_
   (try simp only [blockQ, thenQ])
   have hE : jtx v = (jshow v.n).data.toList := by rw [jtx_eq, if_neg (by omega), if_pos (by omega)]
   rw [hE]
   exact ResQ_B hτ (by simp [AV.lt]) ⟨rfl, rfl⟩
  ·(try rw [h3]); replace h3 := zcl h3
   refine zw2 ?_
   refine AWp_cond rfl (fun h4 => ?_) (fun h4 => ?_)
   ·(try rw [h4]); replace h4 := zcl h4
    refine AWp_regL ?_
    refine zg3 ?_
    refine zt rfl (zc rfl (quoteT_c v.s _ (by omega))) ?_
    refine zt rfl (zc rfl (wsL (quoteL v.s.data.toList) ha hτ (by have := quote_size hb2; omega))) ?_
    refine zon ?_
    (try simp only [blockQ, thenQ])
    have hE : jtx v = quoteL v.s.data.toList := by rw [jtx_eq, if_neg (by omega), if_neg (by omega), if_pos (by omega)]
    rw [hE]
    exact ResQ_B hτ (by simp [AV.lt]) ⟨rfl, rfl⟩
   ·(try rw [h4]); replace h4 := zcl h4
    refine zw2 ?_
    refine AWp_cond rfl (fun h5 => ?_) (fun h5 => ?_)
    ·(try rw [h5]); replace h5 := zcl h5
     refine zw1 ?_
     refine AWp_seq ?_
     refine zw4 ?_
     refine AWp_block ?_
     -- loop 0 LIVE 0:param 3:box 4:assign 11:load 39:load 40:call 41:move
     refine AWp_loop (ι := Nat × BL × AV) (fun z => z.1 ≤ v.l.length ∧ z.2.1 = l ++ ljw 91 (v.l.take z.1) ∧ (z.2.2 = .ptr τ.length 0 ∨ ∃ U n, z.2.2 = .nilT τ.length U n ∧ liesAt Tryd.prog Tryd.prog.depth U (n / Tryd.prog.cellsOf U) 0 58 1 = true)) (fun z => ⟨[], [(0, .ptr τ.length 0), (3, .ptr (τ.length + 2) 0), (4, .str (ba [sgn 91 z.1])), (39, .sl false 8 (lcells v.l)), (40, .int .i64 (v.l.length : Int)), (41, .int .i64 (z.1 : Int))]⟩) (fun z => τ ++ [.box [z.2.2, .bts (τ.length + 1) (z.2.1).length], .bytes 5 (z.2.1), .box [.int .i64 v.kind, .bool v.b, .bool v.n.neg, .str v.n.digits, .int .i64 v.n.exp, .str v.s, .sl false 8 (lcells v.l), .sl false 9 (mcells v.m)]]) (fun z => v.l.length - z.1) ((0, l, a)) (⟨Nat.zero_le _, by simp [ljw], ha⟩) ?_ rfl (fun z hz => ?_)
     ·refine ⟨rfl, rfl, rfl, rfl, rfl, ?_, rfl, trivial⟩
      rw [← lcells_length]; rfl
     obtain ⟨i, cl, ca⟩ := z
     obtain ⟨hi, hcl2, hca⟩ := hz
     simp only at hi hcl2 hca ⊢
     have hle := ljw_le (l := v.l) 91 hb5 hk4 i
     have hcll : (cl.length : Int) = l.length + (ljw 91 (v.l.take i)).length := by rw [hcl2, List.length_append]; omega
     refine zw1 ?_
     refine AWp_seq ?_
     refine AWp_cond rfl (fun h6 => ?_) (fun h6 => ?_)
     ·(try rw [h6]); replace h6 := zcl h6
      obtain ⟨x, hx⟩ : ∃ x, v.l[i]? = some x := ⟨_, List.getElem?_eq_getElem (show i < v.l.length by omega)⟩
      have hxs := lsize_take v.l i x hx
      have hxl := (ljw_le (l := v.l) 91 hb5 hk4 (i + 1)).2
      refine AWp_skip ?_
      refine AWp_seq ?_
      refine AWp_block ?_
      refine zu1 ?_
      rw [vcells_eq x]
      refine zv3 ?_
      refine zu2 ?_
      refine zt rfl (zc rfl (wsL [sgn 91 i] hca hτ (by simp only [List.length_cons, List.length_nil]; omega))) ?_
      refine zon ?_
      refine zu2 ?_
      refine zt rfl (zc rfl (vcells_eq x ▸ sufB (ih x (by omega) (lb_get hb5 hx) (lkb_get hk4 hx) (by simp only [List.length_append, List.length_cons, List.length_nil]; omega) (.inl rfl) hτ) hτ (by simp [AV.lt]) (by simp [AV.ltL, AV.lt]))) ?_
      refine zon ?_
      refine AWp_regL ?_
      refine zv1 ?_
      refine AWp_regL ?_
      refine zv2 ?_
      refine ⟨(i + 1, _, .ptr τ.length 0), τ.length + 3, ⟨by simp only; omega, by simp only; rw [hcl2]; exact ljw_step 91 hx l, .inl rfl⟩, by simp only; omega, by simp, ⟨rfl, rfl, rfl, rfl, rfl, rfl, rfl, trivial⟩, closed_own 3 hτ ?_, ?_, take_own 3⟩
      ·simp [ownLt, AO.cells, AV.ltL, AV.lt]
      ·simp [ltE, AV.lt]
     ·(try rw [h6]); replace h6 := zcl h6
      have hie : i = v.l.length := by omega
      subst hie
      rw [List.take_length] at *
      refine AWp_exit ?_
      refine AWp_regL ?_
      refine zg5 ?_
      rw [lcells_length]
      refine zt rfl (op_slice_str (min (v.l.length : Int) 1) ((2 : Nat) : Int) rfl Tryd.underlying9 rfl ⟨_, rfl⟩ rfl (by omega) (by omega) (by show ((2 : Nat) : Int) ≤ ((2 : Nat) : Int); omega)) ?_
      refine zt rfl (zc rfl (ba_eta _ ▸ wsL (ByteArray.extract ⟨#[91, 93]⟩ (min (v.l.length : Int) 1).toNat ((2 : Nat) : Int).toNat).data.toList hca hτ (by rw [tail_txt]; split <;> simp only [List.length_cons, List.length_nil] <;> omega))) ?_
      refine zon ?_
      (try simp only [blockQ, thenQ])
      have hE : jtx v = ljw 91 v.l ++ (if v.l.length = 0 then [91, 93] else [93]) := by rw [jtx_eq, if_neg (by omega), if_neg (by omega), if_neg (by omega), if_pos (by omega)]
      rw [hE, ← List.append_assoc, ← hcl2, ← tail_txt]
      exact ResQ_B hτ (by simp [AV.lt]) ⟨rfl, rfl⟩
    ·(try rw [h5]); replace h5 := zcl h5
     refine zw2 ?_
     refine AWp_cond rfl (fun h7 => ?_) (fun h7 => ?_)
     ·(try rw [h7]); replace h7 := zcl h7
      refine zw1 ?_
      refine AWp_seq ?_
      refine zw4 ?_
      refine AWp_block ?_
      -- loop 1 LIVE 0:param 3:box 7:assign 62:load 63:call 64:move
      refine AWp_loop (ι := Nat × BL × AV) (fun z => z.1 ≤ v.m.length ∧ z.2.1 = l ++ mjw 123 (v.m.take z.1) ∧ (z.2.2 = .ptr τ.length 0 ∨ ∃ U n, z.2.2 = .nilT τ.length U n ∧ liesAt Tryd.prog Tryd.prog.depth U (n / Tryd.prog.cellsOf U) 0 58 1 = true)) (fun z => ⟨[], [(0, .ptr τ.length 0), (3, .ptr (τ.length + 2) 0), (7, .str (ba [sgn 123 z.1])), (62, .sl false 9 (mcells v.m)), (63, .int .i64 (v.m.length : Int)), (64, .int .i64 (z.1 : Int))]⟩) (fun z => τ ++ [.box [z.2.2, .bts (τ.length + 1) (z.2.1).length], .bytes 5 (z.2.1), .box [.int .i64 v.kind, .bool v.b, .bool v.n.neg, .str v.n.digits, .int .i64 v.n.exp, .str v.s, .sl false 8 (lcells v.l), .sl false 9 (mcells v.m)]]) (fun z => v.m.length - z.1) ((0, l, a)) (⟨Nat.zero_le _, by simp [mjw], ha⟩) ?_ rfl (fun z hz => ?_)
      ·refine ⟨rfl, rfl, rfl, rfl, rfl, ?_, rfl, trivial⟩
       rw [← mcells_length]; rfl
      obtain ⟨i, cl, ca⟩ := z
      obtain ⟨hi, hcl2, hca⟩ := hz
      simp only at hi hcl2 hca ⊢
      have hle := mjw_le (l := v.m) 123 hb6 hk5 i
      have hcll : (cl.length : Int) = l.length + (mjw 123 (v.m.take i)).length := by rw [hcl2, List.length_append]; omega
      refine zw1 ?_
      refine AWp_seq ?_
      refine AWp_cond rfl (fun h8 => ?_) (fun h8 => ?_)
      ·(try rw [h8]); replace h8 := zcl h8
       obtain ⟨q, hq⟩ : ∃ q, v.m[i]? = some q := ⟨_, List.getElem?_eq_getElem (show i < v.m.length by omega)⟩
       have hxs := msize_take v.m i q hq
       have hxl := (mjw_le (l := v.m) 123 hb6 hk5 (i + 1)).2
       have hqb := mb_get hb6 hq
       refine AWp_skip ?_
       refine AWp_seq ?_
       refine AWp_block ?_
       refine zu1 ?_
       rw [vcells_eq q.2]
       refine zv3 ?_
       refine zu4 ?_
       refine zt rfl (zc rfl (quoteT_c q.1 _ hqb.1)) ?_
       have z1 : (ba [sgn 123 i]).size = 1 := ba_size _
       have z2 : (ba (quoteL q.1.data.toList)).size = (quoteL q.1.data.toList).length := ba_size _
       have z3 := quote_size hqb.1
       have z4 := ByteArray.size_append (a := ba [sgn 123 i]) (b := ba (quoteL q.1.data.toList))
       have z5 : (ByteArray.mk #[58]).size = 1 := rfl
       refine zg2 ?_
       rw [show ba [sgn 123 i] ++ ba (quoteL q.1.data.toList) ++ (⟨#[58]⟩ : ByteArray) = ba (sgn 123 i :: (quoteL q.1.data.toList ++ [58])) by rw [show (⟨#[58]⟩ : ByteArray) = ba [58] from rfl, ba_app, ba_app]; simp]
       refine zt rfl (zc rfl (wsL (sgn 123 i :: (quoteL q.1.data.toList ++ [58])) hca hτ (by have := quote_size hqb.1; simp only [List.length_append, List.length_cons, List.length_nil]; omega))) ?_
       refine zon ?_
       refine zu3 ?_
       refine zt rfl (zc rfl (vcells_eq q.2 ▸ sufB (ih q.2 (by omega) hqb.2 (mkb_get hk5 hq) (by have := quote_size hqb.1; simp only [List.length_append, List.length_cons, List.length_nil]; omega) (.inl rfl) hτ) hτ (by simp [AV.lt]) (by simp [AV.ltL, AV.lt]))) ?_
       refine zon ?_
       refine AWp_regL ?_
       refine zv1 ?_
       refine AWp_regL ?_
       refine zv2 ?_
       refine ⟨(i + 1, _, .ptr τ.length 0), τ.length + 3, ⟨by simp only; omega, by simp only; rw [hcl2]; exact mjw_step 123 hq l, .inl rfl⟩, by simp only; omega, by simp, ⟨rfl, rfl, rfl, rfl, rfl, rfl, rfl, trivial⟩, closed_own 3 hτ ?_, ?_, take_own 3⟩
       ·simp [ownLt, AO.cells, AV.ltL, AV.lt]
       ·simp [ltE, AV.lt]
      ·(try rw [h8]); replace h8 := zcl h8
       have hie : i = v.m.length := by omega
       subst hie
       rw [List.take_length] at *
       refine AWp_exit ?_
       refine AWp_regL ?_
       refine zg5 ?_
       rw [mcells_length]
       refine zt rfl (op_slice_str (min (v.m.length : Int) 1) ((2 : Nat) : Int) rfl Tryd.underlying9 rfl ⟨_, rfl⟩ rfl (by omega) (by omega) (by show ((2 : Nat) : Int) ≤ ((2 : Nat) : Int); omega)) ?_
       refine zt rfl (zc rfl (ba_eta _ ▸ wsL (ByteArray.extract ⟨#[123, 125]⟩ (min (v.m.length : Int) 1).toNat ((2 : Nat) : Int).toNat).data.toList hca hτ (by rw [tail_txt]; split <;> simp only [List.length_cons, List.length_nil] <;> omega))) ?_
       refine zon ?_
       (try simp only [blockQ, thenQ])
       have hE : jtx v = mjw 123 v.m ++ (if v.m.length = 0 then [123, 125] else [125]) := by rw [jtx_eq, if_neg (by omega), if_neg (by omega), if_neg (by omega), if_neg (by omega), if_pos (by omega)]
       rw [hE, ← List.append_assoc, ← hcl2, ← tail_txt]
       exact ResQ_B hτ (by simp [AV.lt]) ⟨rfl, rfl⟩
     ·(try rw [h7]); replace h7 := zcl h7
      refine AWp_regL ?_
      refine zg1 ?_
      refine zt rfl (zc rfl (wsL nullL ha hτ (by rw [show nullL.length = 4 from rfl]; omega))) ?_
      refine zon ?_
      (try simp only [blockQ, thenQ])
      have hE : jtx v = nullL := by rw [jtx_eq, if_neg (by omega), if_neg (by omega), if_neg (by omega), if_neg (by omega), if_neg (by omega)]
      rw [hE]
      exact ResQ_B hτ (by simp [AV.lt]) ⟨rfl, rfl⟩
end Lg
namespace Lg
open Go Go.Lib
/-! ### UTF-8, put together -/
def u8L (l : List UInt8) : Nat := u8N l.length (l.getD 0 0).toNat (l.getD 1 0).toNat (l.getD 2 0).toNat (l.getD 3 0).toNat
theorem validD_u8 (l : List UInt8) (hne : l ≠ []) : validD l = if u8L l = 0 then false else validD (l.drop (u8L l)) := by
  rw [validD_step _ hne]
  have hw := decodeL_width l
  rw [decodeL_N] at hw ⊢
  unfold u8L u8N
  by_cases hc : (decodeN l.length (l.getD 0 0).toNat (l.getD 1 0).toNat (l.getD 2 0).toNat (l.getD 3 0).toNat).1 = 65533 ∧ (decodeN l.length (l.getD 0 0).toNat (l.getD 1 0).toNat (l.getD 2 0).toNat (l.getD 3 0).toNat).2 = 1
  · rw [if_pos hc, if_pos hc, if_pos rfl]
  · rw [if_neg hc, if_neg hc, if_neg (by omega)]
theorem u8N_pre {n b0 b1 b2 b3 n' c0 c1 c2 c3 w : Nat} (hb0 : b0 < 256) (h : u8N n b0 b1 b2 b3 = w) (hw : w ≠ 0) (hl : w ≤ n') (h0 : c0 = b0) (h1 : 1 < w → c1 = b1) (h2 : 2 < w → c2 = b2) (h3 : 3 < w → c3 = b3) (hn : 1 ≤ n) :
    u8N n' c0 c1 c2 c3 = w ∧ w ≤ n := by
  subst h0
  by_cases k0 : c0 < 128
  · rw [u8N_1 k0] at h; subst h; exact ⟨u8N_1 k0, hn⟩
  by_cases k1 : c0 < 192 ∨ 248 ≤ c0
  · rw [u8N_0 (by omega) hb0] at h; exact absurd h.symm hw
  by_cases k2 : c0 < 224
  · rw [u8N_2 (by omega) k2] at h
    split at h
    · subst h
      have := h1 (by omega); subst this
      rw [u8N_2 (by omega) k2, if_pos (by omega)]; omega
    · exact absurd h.symm hw
  by_cases k3 : c0 < 240
  · rw [u8N_3 (by omega) k3 rfl] at h
    split at h
    · subst h
      have := h1 (by omega); subst this
      have := h2 (by omega); subst this
      rw [u8N_3 (by omega) k3 rfl, if_pos (by omega)]; omega
    · exact absurd h.symm hw
  · rw [u8N_4 (by omega) (by omega) rfl] at h
    split at h
    · subst h
      have := h1 (by omega); subst this
      have := h2 (by omega); subst this
      have := h3 (by omega); subst this
      rw [u8N_4 (by omega) (by omega) rfl, if_pos (by omega)]; omega
    · exact absurd h.symm hw
theorem u8L_pre {L L' : List UInt8} (hne : L ≠ []) (hw : u8L L ≠ 0) (hl : u8L L ≤ L'.length) (hp : ∀ k, k < u8L L → L'.getD k 0 = L.getD k 0) : u8L L' = u8L L ∧ u8L L ≤ L.length := by
  have hn : 1 ≤ L.length := by cases L with
    | nil => exact absurd rfl hne
    | cons => simp
  exact u8N_pre (L.getD 0 0).toNat_lt (rfl : u8L L = u8L L) hw hl (by rw [hp 0 (by omega)]) (fun h => by rw [hp 1 h]) (fun h => by rw [hp 2 h]) (fun h => by rw [hp 3 h]) hn
theorem validD_app (m : List UInt8) (hm : validD m = true) : ∀ (n : Nat) (l : List UInt8), l.length ≤ n → validD l = true → validD (l ++ m) = true := by
  intro n
  induction n with
  | zero => intro l hl _; have : l = [] := List.eq_nil_of_length_eq_zero (by omega); subst this; exact hm
  | succ n ih =>
    intro l hl h
    by_cases hne : l = []
    · subst hne; exact hm
    rw [validD_u8 l hne] at h
    split at h
    · cases h
    · rename_i hw
      have hle := (u8L_pre hne hw (L' := l ++ List.replicate (u8L l) 0) (by simp) (fun k hk => by
        by_cases hkl : k < l.length
        · simp [List.getD_eq_getElem?_getD, List.getElem?_append_left hkl]
        · simp only [List.getD_eq_getElem?_getD]
          rw [List.getElem?_append_right (by omega), List.getElem?_eq_none (l := l) (by omega)]
          rw [List.getElem?_replicate]; split <;> rfl)).2
      have he := (u8L_pre hne hw (L' := l ++ m) (by simp; omega) (fun k hk => by
        simp [List.getD_eq_getElem?_getD, List.getElem?_append_left (show k < l.length by omega)])).1
      rw [validD_u8 (l ++ m) (by simp [hne]), he, if_neg hw, List.drop_append_of_le_length hle]
      exact ih _ (by rw [List.length_drop]; omega) h
theorem Utf.app {a b : ByteArray} (ha : Utf a) (hb : Utf b) : Utf (a ++ b) := by
  unfold Utf at *
  have : (a ++ b).data.toList = a.data.toList ++ b.data.toList := by simp
  rw [this]
  exact validD_app _ hb _ _ (Nat.le_refl _) ha
theorem u8L_bat (s : ByteArray) (i : Nat) : u8L (s.data.toList.drop i) = u8 s i := by
  have hg : ∀ k, (s.data.toList.drop i).getD k 0 = bat s (i + k) := fun k => by simp [bat, List.getD, List.getElem?_drop]
  unfold u8L u8
  rw [hg, hg, hg, hg, List.length_drop, Array.length_toList]; rfl
theorem Utf.ext {s : ByteArray} {i : Nat} (h : i < s.size) (hu : ¬ u8 s i = 0) : Utf (s.extract i (i + u8 s i)) := by
  have hne : s.data.toList.drop i ≠ [] := by
    intro e
    have := congrArg List.length e
    rw [List.length_drop, Array.length_toList] at this
    have h' : i < s.data.size := h
    simp at this; omega
  have hle := u8_le h
  have hsz : s.data.size = s.size := rfl
  have hlist : (s.extract i (i + u8 s i)).data.toList = (s.data.toList.drop i).take (u8 s i) := by
    simp [ByteArray.data_extract, List.extract_eq_take_drop]
  have hlen : ((s.data.toList.drop i).take (u8 s i)).length = u8 s i := by simp; omega
  unfold Utf
  rw [hlist]
  have he := (u8L_pre hne (by rw [u8L_bat]; exact hu) (L' := (s.data.toList.drop i).take (u8 s i)) (by rw [hlen, u8L_bat]; exact Nat.le_refl _) (fun k hk => by
    rw [u8L_bat] at hk
    simp only [List.getD_eq_getElem?_getD, List.getElem?_take, hk, if_true])).1
  rw [u8L_bat] at he
  rw [validD_u8 _ (fun e => by rw [e] at hlen; simp at hlen; omega), he, if_neg hu, List.drop_eq_nil_of_le (by omega)]
  rfl
theorem u8b_nat {n : Int} (h0 : 0 ≤ n) (h1 : n < 256) : (u8b n).toNat = n.toNat := by
  have := u8b_toNat h0 h1; omega
theorem Utf.char {v : Int} (h0 : 0 ≤ v) (h1 : v < 1114112) (h2 : ¬ (55296 ≤ v ∧ v < 57344)) : Utf (rchar v) := by
  unfold Utf rchar
  split
  · show validD [u8b v] = true
    rw [validD_cons _ _ (by rw [u8b_nat h0 (by omega)]; omega)]; rfl
  split
  · show validD [u8b (192 + v / 64), u8b (128 + v % 64)] = true
    have e : u8L [u8b (192 + v / 64), u8b (128 + v % 64)] = 2 := by
      show u8N 2 (u8b (192 + v / 64)).toNat (u8b (128 + v % 64)).toNat 0 0 = 2
      rw [u8b_nat (by omega) (by omega), u8b_nat (by omega) (by omega), u8N_2 (by omega) (by omega), if_pos (by omega)]
    rw [validD_u8 _ (by simp), e]; rfl
  split
  · show validD [u8b (224 + v / 4096), u8b (128 + v / 64 % 64), u8b (128 + v % 64)] = true
    have e : u8L [u8b (224 + v / 4096), u8b (128 + v / 64 % 64), u8b (128 + v % 64)] = 3 := by
      show u8N 3 (u8b (224 + v / 4096)).toNat (u8b (128 + v / 64 % 64)).toNat (u8b (128 + v % 64)).toNat 0 = 3
      rw [u8b_nat (by omega) (by omega), u8b_nat (by omega) (by omega), u8b_nat (by omega) (by omega), u8N_3 (by omega) (by omega) rfl, if_pos (by omega)]
    rw [validD_u8 _ (by simp), e]; rfl
  · show validD [u8b (240 + v / 262144), u8b (128 + v / 4096 % 64), u8b (128 + v / 64 % 64), u8b (128 + v % 64)] = true
    have e : u8L [u8b (240 + v / 262144), u8b (128 + v / 4096 % 64), u8b (128 + v / 64 % 64), u8b (128 + v % 64)] = 4 := by
      show u8N 4 (u8b (240 + v / 262144)).toNat (u8b (128 + v / 4096 % 64)).toNat (u8b (128 + v / 64 % 64)).toNat (u8b (128 + v % 64)).toNat = 4
      rw [u8b_nat (by omega) (by omega), u8b_nat (by omega) (by omega), u8b_nat (by omega) (by omega), u8b_nat (by omega) (by omega), u8N_4 (by omega) (by omega) rfl, if_pos (by omega)]
    rw [validD_u8 _ (by simp), e]; rfl
theorem esc_ok {c b : Nat} (h : esc c = some b) : b < 128 := by
  unfold esc at h
  rw [Option.map_eq_some_iff] at h
  obtain ⟨q, hq, rfl⟩ := h
  have := List.mem_of_find?_eq_some hq
  revert this
  have : ∀ q ∈ escL, q.2 < 128 := by decide
  exact this q
theorem Utf.asc {b : Nat} (h : b < 128) : Utf ⟨#[UInt8.ofNat b]⟩ := by
  unfold Utf
  show validD [UInt8.ofNat b] = true
  rw [validD_cons _ _ (by rw [UInt8.toNat_ofNat']; omega)]; rfl
/-- What a text in quotes comes to. -/
def UOK (s : ByteArray) (a : Nat) (u : UR) : Prop := (u.bad = 0 ∧ 0 ≤ u.n ∧ (a : Int) + u.n ≤ s.size ∧ Utf u.s ∧ (u.s.size : Int) ≤ u.n) ∨ ((u.bad = 1 ∨ u.bad = 2) ∧ u.n = 0 ∧ u.s = e0)
theorem unqF_ok (s : ByteArray) (a : Nat) : ∀ (k i : Nat) (out : ByteArray), s.size - i ≤ k → a < i → Utf out → out.size ≤ i - a → UOK s a (unqF s a i out) := by
  intro k
  induction k with
  | zero => intro i out hk hi hu ho; rw [unqF_end (by omega)]; exact .inr ⟨.inl rfl, rfl, rfl⟩
  | succ k ih =>
    intro i out hk hi hu ho
    by_cases h : s.size ≤ i
    · rw [unqF_end h]; exact .inr ⟨.inl rfl, rfl, rfl⟩
    by_cases h1 : (bat s i).toNat = 34
    · rw [unqF_q (by omega) h1]; exact .inl ⟨rfl, by dsimp only; omega, by dsimp only; omega, hu, by dsimp only; omega⟩
    by_cases h2 : (bat s i).toNat < 32
    · rw [unqF_ctl (by omega) h2]; exact .inr ⟨.inl rfl, rfl, rfl⟩
    by_cases h3 : (bat s i).toNat = 92
    · by_cases h4 : i + 1 = s.size
      · rw [unqF_last h4 h3]; exact .inr ⟨.inl rfl, rfl, rfl⟩
      by_cases h5 : (bat s (i + 1)).toNat = 117
      · by_cases h6 : 0 ≤ (rhex s (i + 2)).2
        · rw [unqF_hb (by omega) h3 h5 h6]; exact .inr ⟨.inl rfl, rfl, rfl⟩
        have hx := rhex_ok s (i + 2)
        have hl := rlow_ok s (i + 6)
        by_cases h7 : 55296 ≤ (rhex s (i + 2)).1 ∧ (rhex s (i + 2)).1 < 56320 ∧ 0 ≤ rlow s (i + 6)
        · rw [unqF_pair (by omega) h3 h5 (by omega) h7]
          have hs := rchar_size (65536 + 1024 * ((rhex s (i + 2)).1 - 55296) + rlow s (i + 6) - 56320)
          exact ih _ _ (by omega) (by omega) (hu.app (Utf.char (by omega) (by omega) (by omega))) (by rw [ByteArray.size_append]; omega)
        by_cases h8 : 55296 ≤ (rhex s (i + 2)).1 ∧ (rhex s (i + 2)).1 < 57344
        · rw [unqF_sur (by omega) h3 h5 (by omega) h7 h8]; exact .inr ⟨.inr rfl, rfl, rfl⟩
        · rw [unqF_u (by omega) h3 h5 (by omega) h7 h8]
          have hs := rchar_size (rhex s (i + 2)).1
          exact ih _ _ (by omega) (by omega) (hu.app (Utf.char (by omega) (by omega) h8)) (by rw [ByteArray.size_append]; omega)
      · cases h6 : esc (bat s (i + 1)).toNat with
        | none => rw [unqF_eb (by omega) h3 h5 h6]; exact .inr ⟨.inl rfl, rfl, rfl⟩
        | some b =>
          rw [unqF_e (by omega) h3 h5 h6]
          have h1b : (ByteArray.mk #[UInt8.ofNat b]).size = 1 := rfl
          exact ih _ _ (by omega) (by omega) (hu.app (Utf.asc (esc_ok h6))) (by rw [ByteArray.size_append]; omega)
    · by_cases h4 : u8 s i = 0
      · rw [unqF_bad (by omega) h1 (by omega) h3 h4]; exact .inr ⟨.inr rfl, rfl, rfl⟩
      · rw [unqF_plain (by omega) h1 (by omega) h3 h4]
        exact ih _ _ (by omega) (by omega) (hu.app (Utf.ext (by omega) h4)) (by rw [ByteArray.size_append, ByteArray.size_extract]; omega)
theorem rUnq_ok (s : ByteArray) (a : Nat) : UOK s a (rUnq s (a : Int)) := by
  unfold rUnq
  split
  · exact .inr ⟨.inl rfl, rfl, rfl⟩
  split
  · exact .inr ⟨.inl rfl, rfl, rfl⟩
  · rw [Int.toNat_natCast]
    exact unqF_ok s a _ _ _ (Nat.le_refl _) (by omega) rfl (Nat.zero_le _)
end Lg
namespace Lg
open Go
/-! ### The reader, plainly -/
structure RS where
  a : Nat
  deep : Int
  bad : Int
  spot : Int
abbrev rbox (s : ByteArray) (r : RS) : AO := .box [.str s, .int .i64 (r.a : Int), .int .i64 r.deep, .int .i64 r.bad, .int .i64 r.spot]
def rfail (r : RS) (a b : Int) : RS := ⟨r.a, r.deep, if r.bad = 0 then b else r.bad, if r.bad = 0 then a else r.spot⟩
def rblank (s : ByteArray) (r : RS) : RS := ⟨if r.bad = 0 then blk s r.a else r.a, r.deep, r.bad, r.spot⟩
def ropen (s : ByteArray) (r : RS) : RS :=
  ⟨if (if r.deep = 32 then (if r.bad = 0 then 3 else r.bad) else r.bad) = 0 then blk s (r.a + 1) else r.a + 1, r.deep + 1, if r.deep = 32 then (if r.bad = 0 then 3 else r.bad) else r.bad, if r.deep = 32 then (if r.bad = 0 then (r.a : Int) else r.spot) else r.spot⟩
def rinc (r : RS) : RS := ⟨r.a + 1, r.deep, r.bad, r.spot⟩
def wstep (s : ByteArray) (c : UInt8) (r : RS) : RS := if pkv s r.a r.bad = c.toNat then rinc r else rinc (rfail r r.a 1)
def wantF (s lit : ByteArray) (i : Nat) (r : RS) : RS := if i < lit.size ∧ r.bad = 0 then wantF s lit (i + 1) (wstep s (bat lit i) r) else r
termination_by lit.size - i
def rwant (s lit : ByteArray) (r : RS) : RS := wantF s lit 0 r
def rtext (s : ByteArray) (r : RS) : ByteArray × RS :=
  if r.bad = 0 then ((rUnq s r.a).s, ⟨r.a + (rUnq s r.a).n.toNat, r.deep, (rUnq s r.a).bad, if (rUnq s r.a).bad = 0 then r.spot else (rUnq s r.a).at_⟩) else (e0, r)
def rdec (r : RS) : RS := ⟨r.a, r.deep - 1, r.bad, r.spot⟩
section
variable (rv : RS → JV × RS) (s : ByteArray)
def rarrF : Nat → List JV → RS → List JV × RS
  | 0, l, r => (l, r)
  | k + 1, l, r => if r.bad = 0 ∧ (¬ pkv s r.a r.bad = 93 ∨ 0 < l.length) then
      (if pkv s (rv r).2.a (rv r).2.bad = 44 then rarrF k (l ++ [(rv r).1]) (rinc (rv r).2) else (l ++ [(rv r).1], (rv r).2))
    else (l, r)
def rb1 : ByteArray := ⟨#[93]⟩
def rb2 : ByteArray := ⟨#[125]⟩
def rb3 : ByteArray := ⟨#[58]⟩
def rarr (r : RS) : JV × RS := (.mk 4 false {} e0 (rarrF rv s (s.size + 2) [] (ropen s r)).1 [], rdec (rwant s rb1 (rarrF rv s (s.size + 2) [] (ropen s r)).2))
def rinsK (m : List (ByteArray × JV)) (key : ByteArray) : Nat := (m.takeWhile fun q => blt q.1 key).length
def rins (m : List (ByteArray × JV)) (key : ByteArray) (x : JV) : List (ByteArray × JV) := m.take (rinsK m key) ++ (key, x) :: m.drop (rinsK m key)
def mkO (m : List (ByteArray × JV)) : JV := .mk 5 false {} e0 [] m
/-- Behind a member's key: a key that was there is amiss. -/
def rk2 (m : List (ByteArray × JV)) (r : RS) : RS := if (jfind (mkO m) (rtext s (rblank s r)).1).isSome = true then rfail (rtext s (rblank s r)).2 (rblank s r).a 4 else (rtext s (rblank s r)).2
/-- A member's key, and what stands behind it: up to its value. -/
def rkey (m : List (ByteArray × JV)) (r : RS) : ByteArray × RS := ((rtext s (rblank s r)).1, rwant s rb3 (rblank s (rk2 s m r)))
def robjF : Nat → List (ByteArray × JV) → RS → List (ByteArray × JV) × RS
  | 0, m, r => (m, r)
  | k + 1, m, r => if r.bad = 0 ∧ (¬ pkv s r.a r.bad = 125 ∨ 0 < m.length) then
      (if pkv s (rv (rkey s m r).2).2.a (rv (rkey s m r).2).2.bad = 44 then robjF k (rins m (rkey s m r).1 (rv (rkey s m r).2).1) (rinc (rv (rkey s m r).2).2) else (rins m (rkey s m r).1 (rv (rkey s m r).2).1, (rv (rkey s m r).2).2))
    else (m, r)
def robj (r : RS) : JV × RS := (mkO (robjF rv s (s.size + 2) [] (ropen s r)).1, rdec (rwant s rb2 (robjF rv s (s.size + 2) [] (ropen s r)).2))
end
def lNull : ByteArray := ⟨#[110, 117, 108, 108]⟩
def lTrue : ByteArray := ⟨#[116, 114, 117, 101]⟩
def lFalse : ByteArray := ⟨#[102, 97, 108, 115, 101]⟩
noncomputable def rnumv (s : ByteArray) (r : RS) : JV × RS :=
  (.mk 2 false (rNum (s.extract r.a (rEnd s r.a).1)).1 e0 [] [],
   ⟨(rEnd s r.a).1, r.deep, (if (rNum (s.extract r.a (rEnd s r.a).1)).2 = 0 then (if (rEnd s r.a).2 = true then r else rfail r (rEnd s r.a).1 1) else rfail (if (rEnd s r.a).2 = true then r else rfail r (rEnd s r.a).1 1) r.a 5).bad,
    (if (rNum (s.extract r.a (rEnd s r.a).1)).2 = 0 then (if (rEnd s r.a).2 = true then r else rfail r (rEnd s r.a).1 1) else rfail (if (rEnd s r.a).2 = true then r else rfail r (rEnd s r.a).1 1) r.a 5).spot⟩)
/-- What a byte begins. -/
noncomputable def rone (rv : RS → JV × RS) (s : ByteArray) (r : RS) : JV × RS :=
  if pkv s r.a r.bad = 123 then robj rv s r else
  if pkv s r.a r.bad = 91 then rarr rv s r else
  if pkv s r.a r.bad = 34 then (.mk 3 false {} (rtext s r).1 [] [], (rtext s r).2) else
  if pkv s r.a r.bad = 110 then (vz, rwant s lNull r) else
  if pkv s r.a r.bad = 116 then (.mk 1 true {} e0 [] [], rwant s lTrue r) else
  if pkv s r.a r.bad = 102 then (.mk 1 false {} e0 [] [], rwant s lFalse r) else
  if pkv s r.a r.bad = 45 ∨ (48 ≤ pkv s r.a r.bad ∧ pkv s r.a r.bad ≤ 57) then rnumv s r else (vz, rfail r r.a 1)
noncomputable def rval : Nat → ByteArray → RS → JV × RS
  | 0, s, r => (vz, r)
  | n + 1, s, r => ((rone (rval n s) s (rblank s r)).1, rblank s (rone (rval n s) s (rblank s r)).2)
noncomputable def rpar (s : ByteArray) : JV × RS := rval (s.size + 2) s ⟨0, 0, 0, 0⟩
noncomputable def rparE (s : ByteArray) : RS := if (rpar s).2.bad = 0 ∧ (rpar s).2.a < s.size then rfail (rpar s).2 (rpar s).2.a 1 else (rpar s).2
noncomputable def rParse (s : ByteArray) : JV × Int × Int :=
  if 20000 < s.size then (vz, 5, 20000) else if (rparE s).bad = 0 then ((rpar s).1, 0, 0) else (vz, (rparE s).bad, (rparE s).spot)

/-! ### How far the reader comes -/
structure ROK (s : ByteArray) (r : RS) : Prop where
  a : r.a ≤ s.size + 1
  b : r.bad = 0 → r.a ≤ s.size
  d0 : 0 ≤ r.deep
  d1 : r.deep ≤ r.a
/-- From r on to r'. -/
structure RTo (s : ByteArray) (r r' : RS) : Prop where
  a : r.a ≤ r'.a
  ok : ROK s r'
  b : r'.bad = 0 → r.bad = 0
theorem RTo.refl {s : ByteArray} {r : RS} (h : ROK s r) : RTo s r r := ⟨Nat.le_refl _, h, id⟩
theorem RTo.trans {s : ByteArray} {r r' r'' : RS} (h : RTo s r r') (k : RTo s r' r'') : RTo s r r'' := ⟨Nat.le_trans h.a k.a, k.ok, fun e => h.b (k.b e)⟩
theorem rfail_bad {r : RS} {a b : Int} (hb : b ≠ 0) : (rfail r a b).bad ≠ 0 := by
  unfold rfail; dsimp only; split <;> assumption
theorem rfail_to {s : ByteArray} {r : RS} (h : ROK s r) {a b : Int} (hb : b ≠ 0) : RTo s r (rfail r a b) := by
  have hbad := rfail_bad (r := r) (a := a) hb
  exact ⟨Nat.le_refl _, ⟨h.a, fun e => absurd e hbad, h.d0, h.d1⟩, fun e => absurd e hbad⟩
theorem rblank_to {s : ByteArray} {r : RS} (h : ROK s r) : RTo s r (rblank s r) := by
  have h1 := blk_le s r.a
  have h2 := h.a; have h3 := h.d1
  by_cases hb : r.bad = 0
  · have h4 := h.b hb
    refine ⟨?_, ⟨?_, ?_, h.d0, ?_⟩, fun _ => hb⟩ <;> simp only [rblank, if_pos hb] <;> omega
  · refine ⟨?_, ⟨?_, ?_, h.d0, ?_⟩, id⟩ <;> simp only [rblank, if_neg hb] <;> omega
theorem rblank_deep (s : ByteArray) (r : RS) : (rblank s r).deep = r.deep := rfl
theorem ropen_to {s : ByteArray} {r : RS} (h : ROK s r) (hb : r.bad = 0) (ha : r.a < s.size) : RTo s r (ropen s r) ∧ r.a + 1 ≤ (ropen s r).a ∧ (ropen s r).deep = r.deep + 1 := by
  have h1 := blk_le s (r.a + 1)
  have h2 := h.d1; have h3 := h.d0
  by_cases hd : r.deep = 32
  · have e : ropen s r = ⟨r.a + 1, r.deep + 1, 3, r.a⟩ := by simp [ropen, hd, hb]
    rw [e]
    exact ⟨⟨by dsimp only; omega, ⟨by dsimp only; omega, fun e => absurd e (show ¬ (3 : Int) = 0 by decide), by dsimp only; omega, by dsimp only; omega⟩, fun e => absurd e (show ¬ (3 : Int) = 0 by decide)⟩, Nat.le_refl _, rfl⟩
  · have e : ropen s r = ⟨blk s (r.a + 1), r.deep + 1, 0, r.spot⟩ := by simp [ropen, hd, hb]
    rw [e]
    exact ⟨⟨by dsimp only; omega, ⟨by dsimp only; omega, fun _ => by dsimp only; omega, by dsimp only; omega, by dsimp only; omega⟩, fun _ => hb⟩, by dsimp only; omega, rfl⟩
theorem rinc_to {s : ByteArray} {r : RS} (h : ROK s r) (ha : 0 ≤ pkv s r.a r.bad) : RTo s r (rinc r) := by
  have h1 := pk_yes ha
  have h2 := h.d1
  exact ⟨by dsimp only [rinc]; omega, ⟨by dsimp only [rinc]; omega, fun _ => by dsimp only [rinc]; omega, h.d0, by dsimp only [rinc]; omega⟩, id⟩
theorem wstep_to {s : ByteArray} {c : UInt8} {r : RS} (h : ROK s r) (hb : r.bad = 0) : RTo s r (wstep s c r) ∧ (wstep s c r).deep = r.deep := by
  have h2 := h.d1; have h3 := h.b hb
  unfold wstep
  split
  · rename_i hp; exact ⟨rinc_to h (by omega), rfl⟩
  · have hbad := rfail_bad (r := r) (a := (r.a : Int)) (b := 1) (by decide)
    exact ⟨⟨by dsimp only [rinc, rfail]; omega, ⟨by dsimp only [rinc, rfail]; omega, fun e => absurd e hbad, h.d0, by dsimp only [rinc, rfail]; omega⟩, fun _ => hb⟩, rfl⟩
theorem wantF_to {s lit : ByteArray} : ∀ (k i : Nat) (r : RS), lit.size - i ≤ k → ROK s r → RTo s r (wantF s lit i r) ∧ (wantF s lit i r).deep = r.deep := by
  intro k
  induction k with
  | zero => intro i r hk h; rw [wantF, if_neg (by omega)]; exact ⟨.refl h, rfl⟩
  | succ k ih =>
    intro i r hk h
    rw [wantF]
    split
    · rename_i hc
      have h1 := wstep_to (s := s) (c := bat lit i) h hc.2
      have h2 := ih (i + 1) _ (by omega) h1.1.ok
      exact ⟨h1.1.trans h2.1, h2.2.trans h1.2⟩
    · exact ⟨.refl h, rfl⟩
theorem rwant_to {s lit : ByteArray} {r : RS} (h : ROK s r) : RTo s r (rwant s lit r) ∧ (rwant s lit r).deep = r.deep := wantF_to _ 0 r (Nat.le_refl _) h
/-- A bracket that is wanted is gone over. -/
theorem rwant1 {s lit : ByteArray} {r : RS} (h : ROK s r) (h1 : lit.size = 1) (hb : r.bad = 0) : r.a + 1 ≤ (rwant s lit r).a := by
  have e : rwant s lit r = wstep s (bat lit 0) r := by
    unfold rwant
    rw [wantF, if_pos ⟨by omega, hb⟩, wantF, if_neg (by omega)]
  rw [e]; unfold wstep; split <;> exact Nat.le_refl _
theorem rtext_to {s : ByteArray} {r : RS} (h : ROK s r) : RTo s r (rtext s r).2 ∧ (rtext s r).2.deep = r.deep ∧ Utf (rtext s r).1 ∧ r.a + (rtext s r).1.size ≤ (rtext s r).2.a := by
  have h2 := h.d1; have h4 := h.a
  unfold rtext
  split
  · rename_i hb
    have h3 := h.b hb
    rcases rUnq_ok s r.a with ⟨q1, q2, q3, q4, q5⟩ | ⟨q1, q2, q3⟩
    · exact ⟨⟨by dsimp only; omega, ⟨by dsimp only; omega, fun _ => by dsimp only; omega, h.d0, by dsimp only; omega⟩, fun _ => hb⟩, rfl, q4, by dsimp only; omega⟩
    · exact ⟨⟨by dsimp only; omega, ⟨by dsimp only; omega, fun e => by dsimp only at e; omega, h.d0, by dsimp only; omega⟩, fun _ => hb⟩, rfl, by dsimp only; rw [q3]; rfl, by dsimp only; rw [q3]; show r.a + 0 ≤ _; omega⟩
  · exact ⟨.refl h, rfl, rfl, Nat.le_refl _⟩
end Lg
