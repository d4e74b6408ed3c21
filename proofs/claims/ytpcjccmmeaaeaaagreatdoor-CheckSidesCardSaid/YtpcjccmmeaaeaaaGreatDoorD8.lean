/- A part of the proof of A value passes the const and the one-element enum of itself; numbers pass minimum, maximum, const as they stand to each other; a doubled list is not unique.: Lg51 Lg52 Lg56 Lg58 Lg59 Lc4 Lg54 Lc5 Ld1 Sh7 Ld2 D1 W8 W3 K3 K4 K5 D4 D5 D2 D3 Lc9 Ld3 D6 X4 S1. -/
import Derived.Test.YtpcjccmmeaaeaaaGreatDoorD7
import Derived.Test.YtpcjccmmeaaeaaaGreatDoorD3
import Derived.Test.YtpcjccmmeaaeaaaGreatDoorD5
import Derived.Test.YtpcjccmmeaaeaaaGreatDoorD4
import Derived.Test.YtpcjccmmeaaeaaaGreatDoorD6
import Derived.Lib.RuneCount
import Derived.Lib.TrimUEq
import Derived.Shelf.Utf8.RuneCount
import Derived.Test.YtpcjccmmeaaeaaaGreatDoorProg
set_option linter.unusedVariables false
set_option linter.unusedSimpArgs false
set_option linter.unusedSectionVars false
namespace Lg
open Go Go.RowKit
variable [GLay]
section sound
variable {P : Program} {N : Nat} {ops : Array Oper} {tb : Array Nat} {Q : Env → List AO → Prop} {B : AO} {L : Nat}
structure InvG (ops : Array Oper) (N f : Nat) (E : Nat → Env) (H : Bool → Nat → List AO) (val : Nat → AV) (kd : Nat → Kd) (s0 : CS) (listed : Array Bool) (a : Act) (w : World) : Prop where
  size : listed.size = ops.size
  dn : ∀ j o, ops[j]? = some o → listed.getD j false = true → ∀ ed ∈ o.after.toList, Region.binds .any ed = true → listed.getD ed.on false = true
  st : ∃ s q, s.w = w ∧ Good s ∧ Ext s0 s ∧ q ≤ ops.size ∧ (∀ j, j < q → kd j = .eff → listed.getD j false = true) ∧ (q < ops.size → kd q = .eff ∧ listed.getD q false = false) ∧ s.σ = H (listed.getD f false) q ∧
    a.tmps.size = N ∧ DefOK s (E 0).D a.defers ∧ ∀ t, V s (preA ops (E 0) val (fun j => listed.getD j false) ops.size t) (a.eval (.tmp t))
theorem InvG.way {f : Nat} {E : Nat → Env} {H : Bool → Nat → List AO} {val : Nat → AV} {kd : Nat → Kd} {s0 : CS} {listed : Array Bool} {a : Act} {w : World} (c : Chk ops tb) (h : InvG ops N f E H val kd s0 listed a w) :
    ∀ (j : Nat) (o : Oper), ops[j]? = some o → (∀ ed ∈ o.after.toList, Region.binds .any ed = true → listed.getD ed.on false = true) → ∀ i, i < ops.size → befB tb i j = true → listed.getD i false = true := by
  intro j
  induction j using Nat.strongRecOn with
  | _ j ih =>
    intro o ho hdeps i hi hb
    obtain ⟨ed, hed, hbd, h1⟩ := c.way i j o ho hi hb
    have hon := hdeps ed hed hbd
    rcases h1 with h1 | h1
    · rw [← h1]; exact hon
    · have hlt := (c.edge j o ho ed hed hbd).1
      have hjn : ed.on < ops.size := by have := (Array.getElem?_eq_some_iff.1 ho).1; omega
      have ho' := Array.getElem?_eq_getElem hjn
      exact ih ed.on hlt _ ho' (h.dn ed.on _ ho' hon) i hi h1
theorem TrG.step {i0 f : Nat} {E : Nat → Env} {H : Bool → Nat → List AO} {val : Nat → AV} {kd : Nat → Kd} (ht : TrG P N ops tb B L Q i0 f E H val kd) : ∀ i, i0 ≤ i → i < ops.size → ∃ o, ops[i]? = some o ∧ (∀ d, o.dst = some d → d < N) ∧ E (i + 1) = (E i).put o.dst (val i) ∧ GuardA ops N (E i) o true := fun i h0 hi => by
  rcases Nat.lt_trichotomy i f with h | h | h
  · obtain ⟨o, a1, a2, a3, a4, _⟩ := ht.pre i h0 h; exact ⟨o, a1, a2, a3, a4⟩
  · subst h; obtain ⟨o, a1, a2, a3, a4, _⟩ := ht.flt; exact ⟨o, a1, a2, a3, a4⟩
  · obtain ⟨o, a1, a2, a3, a4, _⟩ := ht.tail i h hi; exact ⟨o, a1, a2, a3, a4⟩
theorem TrG.hconst {i0 f : Nat} {E : Nat → Env} {H : Bool → Nat → List AO} {val : Nat → AV} {kd : Nat → Kd} (ht : TrG P N ops tb B L Q i0 f E H val kd) (z : Bool) : ∀ (b a : Nat), i0 ≤ a → a ≤ b → b ≤ ops.size → (∀ j, a ≤ j → j < b → kd j ≠ .eff) → H z a = H z b
  | 0, a, _, h, _, _ => by have : a = 0 := by omega
                           subst this; rfl
  | b + 1, a, h0, h, hb, hk => by
    by_cases e : a = b + 1
    · subst e; rfl
    · have ih := ht.hconst z b a h0 (by omega) (by omega) (fun j h1 h2 => hk j h1 (by omega))
      have hkb := hk b (by omega) (by omega)
      have : H z (b + 1) = H z b := by
        rcases Nat.lt_trichotomy b f with h1 | h1 | h1
        · obtain ⟨o, _, _, _, _, hc⟩ := ht.pre b (by omega) h1
          rcases hc with ⟨_, h2, _⟩ | ⟨h2, _⟩
          · exact (h2 z).2
          · exact absurd h2 hkb
        · subst h1
          obtain ⟨o, _, _, _, _, _, h2, _⟩ := ht.flt
          exact h2 z
        · obtain ⟨o, _, _, _, _, h2, _⟩ := ht.tail b h1 (by omega)
          exact absurd h2 hkb
      rw [ih, this]
theorem rg_sound {f : Nat} {E : Nat → Env} {H : Bool → Nat → List AO} {val : Nat → AV} {kd : Nat → Kd} {s0 : CS} {QA' : QA} (c : Chk ops tb) (ht : TrG P N ops tb B L Q 0 f E H val kd)
    (hQ : ∀ e σ, Q e σ → QA' .normal e σ) :
    ∀ (fuel : Nat) (listed : Array Bool) (a : Act) (w : World), InvG ops N f E H val kd s0 listed a w → (List.range ops.size).countP (fun i => !listed.getD i false) ≤ fuel →
      wpAny P .any ops (Post s0 N QA') fuel listed a w := by
  -- what the plan says of the slots
  have hlook : ∀ i, i ≤ ops.size → ∀ t, (E i).look t = preA ops (E 0) val (fun _ => true) i t := by
    intro i
    induction i with
    | zero => intro _ t; simp [preA, lw]
    | succ i ih =>
      intro hi t
      obtain ⟨o, ho, _, hE, _⟩ := ht.step i (Nat.zero_le _) (by omega)
      rw [hE, put_look, ih (by omega) t]
      have hd : dstOf ops i = o.dst := by simp [dstOf, ho]
      simp only [preA, lw, hd, true_and]
      by_cases e : o.dst = some t
      · simp [e]
      · simp [e]
  have hD : ∀ i, i ≤ ops.size → (E i).D = (E 0).D := by
    intro i
    induction i with
    | zero => intro _; rfl
    | succ i ih =>
      intro hi
      obtain ⟨o, ho, _, hE, _⟩ := ht.step i (Nat.zero_le _) (by omega)
      rw [hE, put_D, ih (by omega)]
  have hend : ∀ {listed : Array Bool} {a : Act} {w : World}, InvG ops N f E H val kd s0 listed a w → (∀ i, i < ops.size → listed.getD i false = true) → Post s0 N QA' .normal a w := by
    intro listed a w inv hall
    obtain ⟨s, q, hw, g, x, hq, hq1, hq2, hσ, hN, hdf, hV⟩ := inv.st
    have hqm : q = ops.size := by
      rcases Nat.lt_or_ge q ops.size with h | h
      · have h1 := (hq2 h).2
        rw [hall q (by omega)] at h1; cases h1
      · omega
    subst hqm
    rw [hall f ht.fl] at hσ
    refine ⟨s, hw, g, x, E ops.size, ⟨hN, by rw [hD ops.size (Nat.le_refl _)]; exact hdf, fun t => ?_⟩, hQ _ _ (by rw [hσ]; exact ht.fin)⟩
    rw [hlook ops.size (Nat.le_refl _) t]
    have h1 := hV t
    have h2 : lw ops (fun j => listed.getD j false) t ops.size = lw ops (fun _ => true) t ops.size := lw_congr fun j hj _ => hall j hj
    unfold preA at h1 ⊢
    rw [h2] at h1
    exact h1
  have hallOf : ∀ {listed : Array Bool} {a : Act} {w : World}, InvG ops N f E H val kd s0 listed a w → Region.ready .any ops listed = [] → ∀ i, i < ops.size → listed.getD i false = true := by
    intro listed a w inv hr i
    induction i using Nat.strongRecOn with
    | _ i ih =>
      intro hi
      cases hl : listed.getD i false with
      | true => rfl
      | false =>
        have ho := Array.getElem?_eq_getElem hi
        have : i ∈ Region.ready .any ops listed := (ready_iff inv.size).2 ⟨_, ho, hl, fun ed hed hb => by
          have h1 := (c.edge i _ ho ed hed hb).1
          exact ih ed.on h1 (by omega)⟩
        rw [hr] at this; cases this
  intro fuel
  induction fuel with
  | zero =>
    intro listed a w inv hc
    have hall : ∀ i, i < ops.size → listed.getD i false = true := fun i hi => by
      have h0 : (List.range ops.size).countP (fun i => !listed.getD i false) = 0 := by omega
      have := List.countP_eq_zero.1 h0 i (List.mem_range.2 hi)
      simpa using this
    refine ⟨?_, hend inv hall⟩
    cases hr : Region.ready .any ops listed with
    | nil => rfl
    | cons i r =>
      have : i ∈ Region.ready .any ops listed := by rw [hr]; simp
      obtain ⟨o, ho, h1, _⟩ := (ready_iff inv.size).1 this
      rw [hall i (Array.getElem?_eq_some_iff.1 ho).1] at h1; cases h1
  | succ fuel ih =>
    intro listed a w inv hc
    refine ⟨fun hr => hend inv (hallOf inv hr), fun i hi => ?_⟩
    obtain ⟨o, ho, hnl, hdeps⟩ := (ready_iff inv.size).1 hi
    have hin : i < ops.size := (Array.getElem?_eq_some_iff.1 ho).1
    have hway := inv.way c i o ho hdeps
    obtain ⟨s, q, hw, g, x, hq, hq1, hq2, hσ, hN, hdf, hV⟩ := inv.st
    subst hw
    have hdsti : dstOf ops i = o.dst := by simp [dstOf, ho]
    have him : i ≤ ops.size := Nat.le_of_lt hin
    -- what i looks at is as the plan has it
    have hpre : ∀ t, (t ∈ readsOf ops o) → V s ((E i).look t) (a.eval (.tmp t)) := fun t hmem => by
      rw [hlook i him t]
      have h1 := hV t
      have h2 : lw ops (fun j => listed.getD j false) t ops.size = lw ops (fun _ => true) t i := by
        rw [lw_cut (i := i) (by omega) fun j h3 h4 hd => ?_]
        · refine lw_congr fun j hj hd => ?_
          exact hway j (by omega) ((c.rd i j t o ho hd (by omega) hmem).1 hj)
        · cases hl : listed.getD j false with
          | false => rfl
          | true =>
            by_cases e : j = i
            · subst e; rw [hnl] at hl; cases hl
            · have hb := (c.rd i j t o ho hd e hmem).2 (by omega)
              have hoj := Array.getElem?_eq_getElem h4
              have := inv.way c j _ hoj (inv.dn j _ hoj hl) i hin hb
              rw [hnl] at this; cases this
      unfold preA at h1 ⊢
      rw [h2] at h1
      exact h1
    have hops : ∀ y ∈ o.op.operands, V s (opv (E i) y) (a.eval y) := fun y hy => by
      cases y with
      | tmp t =>
        refine hpre t ?_
        unfold readsOf
        refine List.mem_append_left _ (List.mem_filterMap.2 ⟨.tmp t, Array.mem_toList_iff.2 hy, rfl⟩)
      | const v => exact V_ofConst s v
      | global gg => exact .any _
      | func f => exact V.func (s := s) (.func f) [] [] [] [] rfl rfl (fun i a v h => by simp at h) (fun i a v h => by simp at h)
    have hguard : ∀ t, GuardA ops N (E i) o t → Region.wanted o (yielded ops a.tmps) = t := fun t hg => by
      unfold GuardA at hg
      unfold Region.wanted
      cases hgd : o.guard with
      | none => rw [hgd] at hg; simp [hg]
      | some jw =>
        obtain ⟨j, want⟩ := jw
        rw [hgd] at hg
        obtain ⟨d, hd1, hd2, hd3⟩ := hg
        have hmem : d ∈ readsOf ops o := by
          unfold readsOf
          refine List.mem_append_right _ ?_
          rw [hgd]
          simp [hd1]
        have hlt : d < a.tmps.size := by rw [hN]; exact hd2
        rcases hd3 with hd3 | ⟨ht, hd3⟩
        rotate_left
        · subst ht
          have h1 := (hd3 ▸ hpre d hmem).inv_undef
          simp only [Act.eval] at h1
          have h3 : a.tmps[d]? = some undef := by
            rw [Array.getD_eq_getD_getElem?, Array.getElem?_eq_getElem hlt] at h1
            rw [Array.getElem?_eq_getElem hlt]
            simpa using h1
          simp only [yielded, hd1, Option.bind_some, h3]
          simp [undef]
        have h1 := (hd3 ▸ hpre d hmem).inv_bool
        simp only [Act.eval] at h1
        have h3 : a.tmps[d]? = some (.bool (if t = true then want else !want)) := by
          rw [Array.getD_eq_getD_getElem?, Array.getElem?_eq_getElem hlt] at h1
          rw [Array.getElem?_eq_getElem hlt]
          simpa using h1
        simp only [yielded, hd1, Option.bind_some, h3]
        cases t <;> cases want <;> simp
    have hcount : (List.range ops.size).countP (fun j => !(listed.setIfInBounds i true).getD j false) ≤ fuel := by
      have hsz : i < listed.size := by rw [inv.size]; exact hin
      have := count_drop (p := fun j => !listed.getD j false) (q := fun j => !(listed.setIfInBounds i true).getD j false) (i := i) (l := List.range ops.size) List.nodup_range (List.mem_range.2 hin)
        (by simp only [hnl]; rfl) (by simp only [set_get _ _ hsz]; simp) (fun j hj => by simp only [set_get _ _ hsz]; simp [hj])
      omega
    have hsz : i < listed.size := by rw [inv.size]; exact hin
    -- behind the step
    have hnext : ∀ {s' : CS} {cv : Value} {q' : Nat}, (∀ d, o.dst = some d → d < N) → Good s' → Ext s s' → V s' (val i) cv → q' ≤ ops.size → (∀ j, j < q' → kd j = .eff → j = i ∨ listed.getD j false = true) →
        (q' < ops.size → kd q' = .eff ∧ q' ≠ i ∧ listed.getD q' false = false) → s'.σ = H ((listed.setIfInBounds i true).getD f false) q' → InvG ops N f E H val kd s0 (listed.setIfInBounds i true) (a.put o.dst cv) s'.w := by
      intro s' cv q' hdN g' x' hv hq' hb1 hb2 hσ'
      refine ⟨by simp [inv.size], fun j oj hoj hl ed hed hb => ?_, s', q', rfl, g', x.trans x', hq', fun j h1 h2 => ?_, fun h1 => ?_, hσ', ?_, ?_, fun t => ?_⟩
      · rw [set_get _ _ hsz] at hl ⊢
        by_cases e : ed.on = i
        · simp [e]
        · rw [if_neg e]
          by_cases e' : j = i
          · subst e'; rw [ho] at hoj; cases hoj; exact hdeps ed hed hb
          · rw [if_neg e'] at hl; exact inv.dn j oj hoj hl ed hed hb
      · rw [set_get _ _ hsz]
        rcases hb1 j h1 h2 with e | e
        · simp [e]
        · by_cases e' : j = i
          · simp [e']
          · rw [if_neg e']; exact e
      · obtain ⟨b1, b2, b3⟩ := hb2 h1
        exact ⟨b1, by rw [set_get _ _ hsz, if_neg b2]; exact b3⟩
      · cases hd : o.dst <;> simp [Act.put, hN]
      · have := hdf.mono g x'
        cases hd : o.dst <;> simpa [Act.put] using this
      · by_cases hd : o.dst = some t
        · have h1 : lw ops (fun j => (listed.setIfInBounds i true).getD j false) t ops.size = some i := by
            refine lw_hit hin (by simp only [set_get _ _ hsz]; simp) (by rw [hdsti]; exact hd) fun j h1 h2 h3 => ?_
            simp only [set_get _ _ hsz]
            rw [if_neg (by omega)]
            cases hl : listed.getD j false with
            | false => rfl
            | true =>
              have hb := (c.wr i j t o ho h3 (by omega) hd).2 h1
              have hoj := Array.getElem?_eq_getElem h2
              have := inv.way c j _ hoj (inv.dn j _ hoj hl) i hin hb
              rw [hnl] at this; cases this
          unfold preA
          rw [h1]
          have hlt2 : t < a.tmps.size := by rw [hN]; exact hdN t hd
          have : (a.put o.dst cv).eval (.tmp t) = cv := by simp [hd, Act.put, Act.eval, hlt2]
          rw [this]; exact hv
        · have h1 : lw ops (fun j => (listed.setIfInBounds i true).getD j false) t ops.size = lw ops (fun j => listed.getD j false) t ops.size := by
            refine lw_congr fun j hj h3 => ?_
            simp only [set_get _ _ hsz]
            rw [if_neg (fun e => by subst e; rw [hdsti] at h3; exact hd h3)]
          have h2 : (a.put o.dst cv).eval (.tmp t) = a.eval (.tmp t) := by
            cases hd' : o.dst with
            | none => rfl
            | some d =>
              have : ¬ d = t := fun e => hd (by rw [hd', e])
              simp [Act.put, Act.eval, Array.getD_eq_getD_getElem?, this]
          rw [h2]
          unfold preA
          rw [h1]
          exact (hV t).mono g x'
    unfold wpOp
    rw [ho]
    simp only
    rcases Nat.lt_trichotomy i f with hif | hif | hif
    · obtain ⟨o', ho', hdN, hE, hg, hcase⟩ := ht.pre i (Nat.zero_le _) hif
      rw [ho] at ho'; cases ho'
      rw [if_pos (by rw [hguard true hg])]
      have hfl : (listed.setIfInBounds i true).getD f false = listed.getD f false := by rw [set_get _ _ hsz, if_neg (by omega)]
      rcases hcase with ⟨hk, h12, h3, h4⟩ | ⟨hk, h1, h2⟩
      · have hop : AOp P (H (listed.getD f false) q) (E i) o (val i) (H (listed.getD f false) q) := by
          rcases Nat.lt_or_ge q i with hqi | hqi
          · obtain ⟨b1, b2⟩ := hq2 (by omega)
            refine (h3 q (Nat.zero_le _) hqi b1).resolve_left (fun hb => ?_) _
            rw [hway q (by omega) hb] at b2; cases b2
          · rcases exists_last (fun j => decide (kd j = .eff)) (i + 1) q (by
              have hne : q ≠ i := fun e => by
                rcases Nat.lt_or_ge q ops.size with h | h
                · have := (hq2 h).1
                  rw [e, hk] at this; cases this
                · omega
              omega) with hn | ⟨j, j1, j2, j3, j4⟩
            · have e1 := ht.hconst (listed.getD f false) q (i + 1) (Nat.zero_le _) (by
                have hne : q ≠ i := fun e => by
                  rcases Nat.lt_or_ge q ops.size with h | h
                  · have := (hq2 h).1
                    rw [e, hk] at this; cases this
                  · omega
                omega) hq (fun j h5 h6 => by have := hn j h5 h6; simpa using this)
              rw [← e1, (h12 _).2]; exact (h12 _).1
            · have hje : kd j = .eff := by simpa using j3
              have hjl := hq1 j j2 hje
              have hjn : j < ops.size := by omega
              have hoj := Array.getElem?_eq_getElem hjn
              have hnb : ¬ befB tb i j = true := fun hb => by
                have := inv.way c j _ hoj (inv.dn j _ hoj hjl) i hin hb
                rw [hnl] at this; cases this
              rcases Nat.lt_trichotomy j f with hjf | hjf | hjf
              · have e1 := ht.hconst (listed.getD f false) q (j + 1) (Nat.zero_le _) (by omega) hq (fun k h5 h6 => by have := j4 k (by omega) h6; simpa using this)
                rw [← e1]
                exact (h4 j (by omega) hjf hje).resolve_left hnb _
              · subst hjf
                obtain ⟨_, _, _, _, _, h6, _⟩ := ht.flt
                rw [h6] at hje; cases hje
              · obtain ⟨_, _, _, _, _, _, _, h6⟩ := ht.tail j hjf hjn
                exact absurd (h6 i (by omega)) hnb
        refine .inl (hop s a hσ g hops _ _ (fun v cv s' hN' g' x' hv => ?_) (fun _ _ _ hx => hx.elim))
        obtain ⟨rfl, hσ'⟩ := hN'
        refine ih _ _ _ (hnext hdN g' x' hv hq (fun j h5 h6 => .inr (hq1 j h5 h6)) (fun h5 => ?_) (by rw [hfl]; exact hσ')) hcount
        obtain ⟨b1, b2⟩ := hq2 h5
        exact ⟨b1, (fun e => by rw [e, hk] at b1; cases b1), b2⟩
      · have hqi : q = i := by
          rcases Nat.lt_trichotomy q i with h | h | h
          · obtain ⟨b1, b2⟩ := hq2 (by omega)
            rw [hway q (by omega) (h2 q (Nat.zero_le _) h b1)] at b2; cases b2
          · exact h
          · rw [hq1 i h hk] at hnl; cases hnl
        subst hqi
        obtain ⟨q', n1, n2, n3, n4⟩ := exists_next (fun j => decide (kd j = .eff)) ops.size (ops.size - (q + 1)) (q + 1) rfl (by omega)
        have e1 := ht.hconst (listed.getD f false) q' (q + 1) (Nat.zero_le _) n1 n2 (fun j h5 h6 => by have := n3 j h5 h6; simpa using this)
        refine .inl (h1 _ s a hσ g hops _ _ (fun v cv s' hN' g' x' hv => ?_) (fun _ _ _ hx => hx.elim))
        obtain ⟨rfl, hσ'⟩ := hN'
        refine ih _ _ _ (hnext hdN g' x' hv n2 (fun j h5 h6 => ?_) (fun h5 => ?_) (by rw [hfl, hσ', e1])) hcount
        · rcases Nat.lt_trichotomy j q with h | h | h
          · exact .inr (hq1 j h h6)
          · exact .inl h
          · have := n3 j (by omega) h5
            simp [h6] at this
        · have hke : kd q' = .eff := by simpa using n4 h5
          refine ⟨hke, by omega, ?_⟩
          cases hl : listed.getD q' false with
          | false => rfl
          | true =>
            have hoj := Array.getElem?_eq_getElem h5
            have hb : befB tb q q' = true := by
              rcases Nat.lt_trichotomy q' f with hjf | hjf | hjf
              · obtain ⟨_, _, _, _, _, hc'⟩ := ht.pre q' (Nat.zero_le _) hjf
                rcases hc' with ⟨h6, _⟩ | ⟨_, _, h7⟩
                · rw [h6] at hke; cases hke
                · exact h7 q (Nat.zero_le _) (by omega) hk
              · subst hjf
                obtain ⟨_, _, _, _, _, h6, _⟩ := ht.flt
                rw [h6] at hke; cases hke
              · obtain ⟨_, _, _, _, _, _, _, h6⟩ := ht.tail q' hjf h5
                exact h6 q (by omega)
            have := inv.way c q' _ hoj (inv.dn q' _ hoj hl) q hin hb
            rw [hnl] at this; cases this
    · subst hif
      obtain ⟨o', ho', hdN, hE, hg, hk, hHc, hal⟩ := ht.flt
      rw [ho] at ho'; cases ho'
      rw [if_pos (by rw [hguard true hg])]
      rw [hnl] at hσ
      have hfl : (listed.setIfInBounds i true).getD i false = true := by rw [set_get _ _ hsz, if_pos rfl]
      have hqf : q ≤ i + 1 := by
        refine Nat.le_of_not_lt fun h => ?_
        obtain ⟨_, _, _, _, _, h6, _, h7⟩ := ht.tail (i + 1) (by omega) (by omega)
        have hl := hq1 (i + 1) h h6
        have hoj := Array.getElem?_eq_getElem (show i + 1 < ops.size by omega)
        have := inv.way c (i + 1) _ hoj (inv.dn (i + 1) _ hoj hl) i hin (h7 i (by omega))
        rw [hnl] at this; cases this
      have htw : (H false q).length = L ∧ H true q = H false q ++ [B] := by
        by_cases hq' : q = i + 1
        · rw [hq', hHc, hHc]; exact ht.twin i (Nat.zero_le _) (Nat.le_refl _)
        · exact ht.twin q (Nat.zero_le _) (by omega)
      refine .inl (hal (H false q) htw.1 s a hσ g hops _ _ (fun v cv s' hN' g' x' hv => ?_) (fun _ _ _ hx => hx.elim))
      obtain ⟨rfl, hσ'⟩ := hN'
      refine ih _ _ _ (hnext hdN g' x' hv hq (fun j h5 h6 => .inr (hq1 j h5 h6)) (fun h5 => ?_) (by rw [hfl, hσ', htw.2])) hcount
      obtain ⟨b1, b2⟩ := hq2 h5
      exact ⟨b1, (fun e => by rw [e, hk] at b1; cases b1), b2⟩
    · obtain ⟨o', ho', hdN, hE, hg, hk, h1, h2⟩ := ht.tail i hif hin
      rw [ho] at ho'; cases ho'
      rw [if_pos (by rw [hguard true hg])]
      have hlf : listed.getD f false = true := hway f ht.fl (h2 f hif)
      have hfl : (listed.setIfInBounds i true).getD f false = true := by rw [set_get _ _ hsz, if_neg (by omega)]; exact hlf
      have hqi : q = i := by
        rcases Nat.lt_trichotomy q i with h | h | h
        · obtain ⟨b1, b2⟩ := hq2 (by omega)
          rw [hway q (by omega) (h2 q h)] at b2; cases b2
        · exact h
        · rw [hq1 i h hk] at hnl; cases hnl
      subst hqi
      rw [hlf] at hσ
      obtain ⟨q', n1, n2, n3, n4⟩ := exists_next (fun j => decide (kd j = .eff)) ops.size (ops.size - (q + 1)) (q + 1) rfl (by omega)
      have e1 := ht.hconst true q' (q + 1) (Nat.zero_le _) n1 n2 (fun j h5 h6 => by have := n3 j h5 h6; simpa using this)
      refine .inl (h1 s a hσ g hops _ _ (fun v cv s' hN' g' x' hv => ?_) (fun _ _ _ hx => hx.elim))
      obtain ⟨rfl, hσ'⟩ := hN'
      refine ih _ _ _ (hnext hdN g' x' hv n2 (fun j h5 h6 => ?_) (fun h5 => ?_) (by rw [hfl, hσ', e1])) hcount
      · rcases Nat.lt_trichotomy j q with h | h | h
        · exact .inr (hq1 j h h6)
        · exact .inl h
        · have := n3 j (by omega) h5
          simp [h6] at this
      · have hke : kd q' = .eff := by simpa using n4 h5
        refine ⟨hke, by omega, ?_⟩
        cases hl : listed.getD q' false with
        | false => rfl
        | true =>
          have hoj := Array.getElem?_eq_getElem h5
          obtain ⟨_, _, _, _, _, _, _, h6⟩ := ht.tail q' (by omega) h5
          have := inv.way c q' _ hoj (inv.dn q' _ hoj hl) q hin (h6 q (by omega))
          rw [hnl] at this; cases this
theorem AWp_drawG {id : Nat} {e : Env} {ol : List Oper} {QA' : QA} {σ : List AO} (tb : Array Nat) (B : AO) (hm : P.follows .mixedOrders = true) (h1 : rchk ol.toArray tb = true) (h2 : tbOK ol.toArray tb = true)
    (h : RG P N ol.toArray tb B σ.length (fun e σ => QA' .normal e σ) 0 e (fun b => σ ++ bif b then [B] else []) [] []) : AWp P N (.region id ol.toArray true) e σ QA' := by
  intro s0 s a hs g x he
  obtain ⟨f, E, H, val, kd, hE, hH, ht, _⟩ := h.trace ⟨by simp, by simp⟩
  have c := Chk.of h1 h2
  generalize ol.toArray = ops at *
  refine wp_region_any hm ?_
  obtain ⟨g', x'⟩ := g.grow (w' := { s.w with drawn := s.w.drawn + 1 }) (Below.refl _ _).drew
  refine rg_sound c ht (fun _ _ h => h) ops.size _ a _ ?_ ?_
  · obtain ⟨q, n1, n2, n3, n4⟩ := exists_next (fun j => decide (kd j = .eff)) ops.size (ops.size - 0) 0 rfl (Nat.zero_le _)
    have hrep : ∀ j : Nat, (Array.replicate ops.size false).getD j false = false := fun j => by
      simp only [Array.getD_eq_getD_getElem?, Array.getElem?_replicate]
      split <;> rfl
    refine ⟨by simp, (fun j o _ hl => by rw [hrep] at hl; cases hl), _, q, rfl, g', x.trans x', n2, (fun j h3 h4 => by have := n3 j (Nat.zero_le _) h3; simp [h4] at this), (fun h3 => ⟨by simpa using n4 h3, hrep q⟩), ?_, he.size, (by rw [hE]; exact he.defers.mono g x'), fun t => ?_⟩
    · have e1 := ht.hconst false q 0 (Nat.zero_le _) (Nat.zero_le _) n2 (fun j h5 h6 => by have := n3 j h5 h6; simpa using this)
      rw [hrep, ← e1, hH]; simpa using hs
    · have h3 : lw ops (fun j => (Array.replicate ops.size false).getD j false) t ops.size = none := by
        rw [lw_cut (i := 0) (Nat.zero_le _) fun j _ _ _ => hrep j]; rfl
      unfold preA
      rw [h3, hE]
      exact (he.tmps t).mono g x'
  · have h3 := List.countP_le_length (l := List.range ops.size) (p := fun i => !(Array.replicate ops.size false).getD i false)
    rwa [List.length_range] at h3
end sound
end Lg
namespace Lg
open Go Go.RowKit
variable [GLay]
section
variable {P : Program} {N : Nat} {σ l : List AO} {e : Env} {o : Oper} {Q : QA}
theorem AWp_ghostHO {c : Code} (sz : Nat) (k : AWp P N c e (σ ++ (l ++ [AO.arr sz 0 []])) Q) : AWp P N c e (σ ++ l) Q := fun s0 s a hs g x he => by
  obtain ⟨s1, e1, e2, g1, x1⟩ := g.ghost sz
  have := k s0 s1 a (by rw [e1, hs, List.append_assoc]) g1 (x.trans x1) (he.mono g x1)
  rw [e2] at this; exact this
theorem op_buildSlice0GT {T E : TypeId} {sz g : Nat} (k : Nat) (ho : o.op = .buildSlice T 0 #[]) (hu : P.underlying T = some (.slice E)) (hsz : ∀ w, (Go.sizeOf E).run P w = Result.ok sz w) (hk : l[k]? = some (.arr sz g [])) : AOp P (σ ++ l) e o (.arr (σ.length + k) g sz 0 0) (σ ++ l) := by
  intro s a hs gd hv K Q hK _
  have hσ : s.σ[σ.length + k]? = some (.arr sz g []) := by rw [hs, get_own]; exact hk
  obtain ⟨s', e1, e2, g', x', hok⟩ := gd.row [] E
  refine wp_value (w' := s'.w) ?_ (hK _ (.slice (some ⟨s.w.heap.size, 0, none⟩) 0 0) s' ⟨rfl, by rw [e1, hs]⟩ g' x' (.arr _ _ _ _ _ _ rfl (.mk (cs := []) (by rw [e1]; exact hσ) ⟨rfl, .inl ⟨_, rfl, rfl⟩⟩)))
  rw [e2]
  simp only [execOp, ho, Instr.buildSlice, Sem.run_bind, run_underlying hu, hsz, Result.andThen_ok, Sem.run_ite, Nat.zero_mul, if_true, Sem.run_pure]
  rw [if_neg (by omega)]
  simp [newRow, newObj, Sem.run, Instr.fill]
  congr 2
  exact Array.eq_empty_of_size_eq_zero (by simp)
theorem AWp_drawGO {id : Nat} {ol : List Oper} (n : Nat) (hn : l.length = n) (tb : Array Nat) (B : AO) (hm : P.follows .mixedOrders = true) (h1 : rchk ol.toArray tb = true) (h2 : tbOK ol.toArray tb = true)
    (h : RG P N ol.toArray tb B (σ.length + n) (fun e σ => Q .normal e σ) 0 e (fun b => σ ++ (l ++ bif b then [B] else [])) [] []) : AWp P N (.region id ol.toArray true) e (σ ++ l) Q := by
  refine AWp_drawG tb B hm h1 h2 ?_
  have e1 : (σ ++ l).length = σ.length + n := by simp [hn]
  rw [e1]
  simpa only [List.append_assoc] using h
theorem twin_lit {B : AO} {n : Nat} (hn : l.length = n) : Twin B (σ.length + n) fun b => σ ++ (l ++ bif b then [B] else []) := ⟨by simp [hn], by simp⟩
end
section
variable {P : Program} {N : Nat} {ops : Array Oper} {tb : Array Nat} {B : AO} {L : Nat} {QR : Env → List AO → Prop} {i : Nat} {D : List (FuncId × List AV)} {el : List (Nat × AV)} {σ : Bool → List AO} {past : List (Nat × (Bool → List AO))} {held : List (Nat × (List AO → Prop))} {o : Oper} {v : AV} {d : Nat}
theorem gP (ho : nthO ops.toList i = some o) (h0 : stO N o = some d) (h : ∀ b, AOp P (σ b) ⟨D, el⟩ o v (σ b)) (hp : PastG P tb i ⟨D, el⟩ o v past) (k : RG P N ops tb B L QR (i + 1) ⟨D, (d, v) :: el⟩ σ past ((i, fun σ' => AOp P σ' ⟨D, el⟩ o v σ') :: held)) : RG P N ops tb B L QR i ⟨D, el⟩ σ past held := by
  have ⟨h1, h2, h3⟩ := stO_eq h0
  exact .pure o v (nthA ho) (GuardA_none h1 rfl) (fun t ht => by rw [h2] at ht; cases ht; rwa [Nat.blt_eq] at h3) h hp (by rw [h2]; exact k)
theorem gE {σ' : Bool → List AO} (ho : nthO ops.toList i = some o) (h0 : stO N o = some d) (h : ∀ b, AOp P (σ b) ⟨D, el⟩ o v (σ' b)) (ht : Twin B L σ') (hh : HeldG tb i σ' held) (hc : ChainG tb i past) (k : RG P N ops tb B L QR (i + 1) ⟨D, (d, v) :: el⟩ σ' ((i, σ) :: past) held) : RG P N ops tb B L QR i ⟨D, el⟩ σ past held := by
  have ⟨h1, h2, h3⟩ := stO_eq h0
  exact .eff o v σ' (nthA ho) (GuardA_none h1 rfl) (fun t ht => by rw [h2] at ht; cases ht; rwa [Nat.blt_eq] at h3) h ht hh hc (by rw [h2]; exact k)
theorem gF {T : TypeId} {z : Value} {cs : List AV} {τ : List AO} (ho : nthO ops.toList i = some o) (h0 : stO N o = some d) (ha : o.op = .alloc T) (hz : ∀ w, (zeroValue T).run P w = Result.ok z w) (hx : z.cells.toList.map ofConst1 = cs) (hB : B = .box cs) (hτ : σ true = τ)
    (k : RT P N ops tb QR (i + 1) ⟨D, (d, .ptr L 0) :: el⟩ τ) : RG P N ops tb B L QR i ⟨D, el⟩ σ past held := by
  have ⟨h1, h2, h3⟩ := stO_eq h0
  subst hB
  subst hτ
  exact .flt o (nthA ho) (GuardA_none h1 rfl) (fun t ht => by rw [h2] at ht; cases ht; rwa [Nat.blt_eq] at h3) (fun τ hτ => by rw [← hτ]; exact op_alloc ha hz hx) (by rw [h2]; exact k)
theorem tN {τ τ' : List AO} {e : Env} (ho : nthO ops.toList i = some o) (hg : o.guard = none) (hd : o.dst = none) (h : AOp P τ e o v τ') (hall : ((List.range i).all fun j => befB tb j i) = true) (k : RT P N ops tb QR (i + 1) e τ') : RT P N ops tb QR i e τ :=
  .op o v τ' (nthA ho) (GuardA_none hg rfl) (fun t ht => by rw [hd] at ht; cases ht) h hall (by rw [hd]; exact k)
end
end Lg
namespace Lg
open Go Go.RowKit
variable [GLay]
section
variable {P : Program} {N : Nat} {e : Env} {σ : List AO} {Q : QA}
end
end Lg
namespace Lg
open Go Go.RowKit
variable [GLay]
section
variable {P : Program} {N : Nat} {σ l : List AO} {e : Env} {Q : QA}
theorem AWp_arrLe {c : Code} (q : Nat) {sz gg : Nat} {bs bs' : List AV} (hq : σ[q]? = some (.arr sz gg bs)) (hb0 : bs ≠ []) (hle : AVleL bs bs') (k : AWp P N c e (σ.set q (.arr sz gg bs')) Q) : AWp P N c e σ Q := fun s0 s a hs g x he => by
  subst hs
  have hrep := g.obj q _ hq
  have hne : (s.μ q).tot ≠ 0 := by
    rcases hrep with ⟨_, h⟩ | ⟨h, _⟩
    · exact absurd h hb0
    · exact h
  have hlive : s.live q := by unfold CS.live; rw [hq]; exact hne
  obtain ⟨_, vs, T, hb, hp⟩ := g.rep hq hlive
  have hnew : RepW s (s.μ q) vs T (.arr sz gg bs') := ⟨hp.1, hp.2.1, by have := hp.2.2.1; rw [← hle.len]; exact this, by have := hle.pw hp.2.2.2; rw [← hle.len]; exact this⟩
  obtain ⟨s2, f1, f2, g2, x2, _⟩ := g.setObj hq hlive (o' := .arr sz gg bs') (.arr _ _ _ _ _ (Nat.le_refl _) (fun _ => hle.len)) rfl (hnew.any rfl)
  have hw : s2.w = s.w := by rw [f2, setRow_self _ _ _ _ _ hb]
  have := k s0 s2 a f1 g2 (x.trans x2) (he.mono g x2)
  rwa [hw] at this
theorem AWp_arrLeO {c : Code} (k : Nat) {sz gg : Nat} {bs bs' : List AV} (hq : l[k]? = some (.arr sz gg bs)) (hb0 : bs ≠ []) (hle : AVleL bs bs') (h : AWp P N c e (σ ++ l.set k (.arr sz gg bs')) Q) : AWp P N c e (σ ++ l) Q :=
  AWp_arrLe (σ.length + k) (by rw [get_ownT rfl]; exact hq) hb0 hle (by rw [set_ownT rfl]; exact h)
theorem op_storeEl1 {o : Oper} {T : TypeId} {x y : Operand} {j g sz off i : Nat} {cs : List AV} {b : AV} (ho : o.op = .store T x y) (hz : ∀ w, (Go.sizeOf T).run P w = Result.ok 1 w) (hy : opO e y = some b) (hbc : b.cells = [b]) (h1 : ones [b] = true) (hx : opO e x = some (.pel (σ.length + j) g off)) (hoff : off = i)
    (hl : l[j]? = some (.arr sz g cs)) (hi : i < cs.length) : AOp P (σ ++ l) e o .any (σ ++ l.set j (.arr sz g (cs.set i b))) := by
  subst hoff
  have e1 := opO_eq hy
  have := op_store (P := P) (σ := σ ++ l) (e := e) (p := σ.length + j) (O := .arr sz g (cs.set off b)) ho hz (by rw [e1, hbc]; rfl) (by rw [e1, hbc]; exact h1) (by
    rw [e1, hbc, opO_eq hx]
    show stv (σ ++ l) [b] (.pel (σ.length + j) g off) = _
    simp only [stv, get_own, hl, if_true, spl_set _ _ _ hi, Option.map_some]) (by decide)
  rw [set_own] at this
  exact this
end
end Lg
namespace Lg
open Go Go.RowKit
variable [GLay]
theorem ResQ_KN {n0 : Nat} {el : List (Nat × AV)} {σ : List AO} {R : Out → List AO → Prop} (m : Nat) (hm : n0 ≤ m) (hc : closed m σ) (hR : R (.ret (.tup [])) (σ.take m)) : ResQ n0 [] R .normal ⟨[], el⟩ σ :=
  ⟨rfl, m, hm, hc, trivial, hR⟩
theorem ResQ_KR {n0 : Nat} {el : List (Nat × AV)} {σ : List AO} {R : Out → List AO → Prop} (m : Nat) (hm : n0 ≤ m) (hc : closed m σ) (hR : R (.ret (.tup [])) (σ.take m)) : ResQ n0 [] R .ret ⟨[], el⟩ σ :=
  ⟨rfl, m, hm, hc, trivial, hR⟩
end Lg
namespace Lg
open Go Go.RowKit
variable [GLay]
section
variable {P : Program} {N : Nat} {σ l : List AO} {e : Env} {o : Oper}
theorem run_makeSlice1 {T E : TypeId} {i : TypeInfo} {n : Nat} {z c : Value} {w : World} (hu : P.underlying T = some (.slice E)) (hi : P.info? E = some i) (hz : i.zero = some z) (hsz : i.size = 1) (hzc : z.cells = #[c]) (hpos : 0 < n) (hn : n ≤ 1000000000) (hby : i.bytes ≤ 100) :
    (Instr.makeSlice T (.int .i64 (n : Int)) (.int .i64 (n : Int))).run P w = .ok (.slice (some ⟨w.heap.size, 0, none⟩) n n) (w.alloc (.cells (List.replicate n c).toArray E (0, 0))) := by
  have hw : (IntKind.i64.wrap (n : Int)) = (n : Int) := wrap64_in (by omega) (by omega)
  have hmul : i.bytes * n ≤ 100 * n := Nat.mul_le_mul_right _ hby
  have h3 : ¬ ((i.bytes : Int) * (n : Int) > 2 ^ 48) := by
    have : ((i.bytes * n : Nat) : Int) ≤ 100 * (n : Int) := by exact_mod_cast hmul
    rw [Int.natCast_mul] at this
    omega
  have h5 : ¬ n = 0 := by omega
  have g1 : ¬ ((n : Int) < 0) := by omega
  simp [Instr.makeSlice, run_underlying hu, asInt, asIntOf, typeInfo, hi, hw, Go.sizeOf, zeroValue, hz, hsz, hzc, askRoom, h5, g1, newRow, newObj, Sem.run]
  rw [if_neg (by omega)]
  have h7 : Array.map (fun x => ([c] : List Value)[x % 1]?.getD default) (Array.range n) = Array.replicate n c := by
    apply Array.ext
    · simp
    · intro j h1 h2; simp [Nat.mod_one]
  rw [h7]
theorem op_makeSlice1 {T E : TypeId} {x y : Operand} {i : TypeInfo} {n : Nat} {z c : Value} {b : AV} (ho : o.op = .makeSlice T x y) (hu : P.underlying T = some (.slice E)) (hi : P.info? E = some i) (hz : i.zero = some z) (hsz : i.size = 1) (hzc : z.cells = #[c]) (hb : ∀ s, V s b c)
    (hx : opv e x = .int .i64 (n : Int)) (hy : opv e y = .int .i64 (n : Int)) (hpos : 0 < n) (hn : n ≤ 1000000000) (hby : i.bytes ≤ 100) : AOp P σ e o (.arr σ.length 0 1 0 n) (σ ++ [.arr 1 0 (List.replicate n b)]) := by
  intro s a hs g hv K Q hk _
  subst hs
  have e1 : a.eval x = .int .i64 (n : Int) := by
    have h := hv x (by simp [ho, Op.operands]); rw [hx] at h; exact h.inv_int
  have e2 : a.eval y = .int .i64 (n : Int) := by
    have h := hv y (by simp [ho, Op.operands]); rw [hy] at h; exact h.inv_int
  have hpw : PW s (List.replicate n b) (List.replicate n c) := by
    refine ⟨by simp, fun i cc v h1 h2 => ?_⟩
    rw [List.getElem?_replicate] at h1 h2
    split at h1
    · cases h1
      rw [if_pos (by assumption)] at h2
      cases h2; exact hb s
    · cases h1
  obtain ⟨s', f1, f2, g', x', hμ⟩ := g.newArr (sz := 1) (cs := List.replicate n b) (vs := List.replicate n c) (by simpa using hpw) (by simp) E (Below.refl _ _) rfl
  have hw : (IntKind.i64.wrap (n : Int)) = (n : Int) := wrap64_in (by omega) (by omega)
  have hmul : i.bytes * n ≤ 100 * n := Nat.mul_le_mul_right _ hby
  refine wp_value (w' := s'.w) ?_ (hk _ (.slice (some ⟨s.w.heap.size, 0, none⟩) n n) s' ⟨rfl, f1⟩ g' x' ?_)
  · rw [f2]
    simp only [execOp, ho, e1, e2]
    rw [Sem.run_bind, run_makeSlice1 hu hi hz hsz hzc hpos hn hby]
    rfl
  · refine V.newArr (cs := List.replicate n b) (by rw [f1]; simp) hμ (Nat.le_refl _) (by simp)
end
end Lg
namespace Lg
open Go
structure BQ (o : List JNode) (i : Nat) (c : Option Nat) (D : List Nat) (T : List Nat) (S : List Bool) : Prop where
  len : S.length = o.length
  tin : ∀ t ∈ T, t < o.length ∧ (t = i ∨ Rch o i t)
  cin : ∀ t, c = some t → t = i ∨ Rch o i t
  snd : ∀ u : Nat, S[u]? = some true → Rch o i u
  cls : ∀ u : Nat, (u = i ∨ S[u]? = some true) → u ∉ T → ¬ c = some u → ∀ n, o[u]? = some n → ∀ v ∈ outs n.keys, S[v]? = some true
  dne : ∀ v ∈ D, S[v]? = some true
theorem BQ_start {o : List JNode} {i : Nat} (hi : i < o.length) : BQ o i none [] [i] (List.replicate o.length false) where
  len := by simp
  tin := by intro t ht; rw [List.mem_singleton.1 ht]; exact ⟨hi, .inl rfl⟩
  cin := by intro t h; cases h
  snd := by intro u h; rw [List.getElem?_replicate] at h; split at h <;> simp at h
  cls := by
    intro u hu hT
    rcases hu with rfl | h
    · exact absurd (List.mem_singleton.2 rfl) hT
    · rw [List.getElem?_replicate] at h; split at h <;> simp at h
  dne := by intro v h; cases h
theorem BQ_pop {o : List JNode} {i t : Nat} {T : List Nat} {S : List Bool} (h : BQ o i none [] (t :: T) S) : BQ o i (some t) [] T S where
  len := h.len
  tin := fun u hu => h.tin u (.tail _ hu)
  cin := by intro u hu; cases hu; exact (h.tin t (.head _)).2
  snd := h.snd
  cls := fun u hu hT hc => h.cls u hu (fun hm => by
    rcases List.mem_cons.1 hm with rfl | hm
    · exact hc rfl
    · exact hT hm) (by simp)
  dne := by intro v h; cases h
theorem BQ_old {o : List JNode} {i : Nat} {c : Option Nat} {D T : List Nat} {S : List Bool} {v : Nat} (h : BQ o i c D T S) (hv : S[v]? = some true) : BQ o i c (D ++ [v]) T S where
  len := h.len
  tin := h.tin
  cin := h.cin
  snd := h.snd
  cls := h.cls
  dne := by
    intro u hu
    rcases List.mem_append.1 hu with hu | hu
    · exact h.dne u hu
    · rw [List.mem_singleton.1 hu]; exact hv
theorem BQ_new {o : List JNode} {i t : Nat} {D T : List Nat} {S : List Bool} {v : Nat} {n : JNode} (h : BQ o i (some t) D T S) (hn : o[t]? = some n) (hv : v ∈ outs n.keys) (hvl : v < o.length) : BQ o i (some t) (D ++ [v]) (T ++ [v]) (S.set v true) := by
  have hl := h.len
  have hself : (S.set v true)[v]? = some true := List.getElem?_set_self (by omega)
  have hmono : ∀ u : Nat, S[u]? = some true → (S.set v true)[u]? = some true := by
    intro u hu
    by_cases e : v = u
    · subst e; exact hself
    · rw [List.getElem?_set_ne e]; exact hu
  have hR : Rch o i v := by
    rcases h.cin t rfl with rfl | hr
    · exact .one hn hv
    · exact .more hr hn hv
  refine ⟨by simp [hl], ?_, h.cin, ?_, ?_, ?_⟩
  · intro u hu
    rcases List.mem_append.1 hu with hu | hu
    · exact h.tin u hu
    · rw [List.mem_singleton.1 hu]; exact ⟨hvl, .inr hR⟩
  · intro u hu
    by_cases e : v = u
    · subst e; exact hR
    · rw [List.getElem?_set_ne e] at hu; exact h.snd u hu
  · intro u hu hT hc x hx w hw
    have hne : ¬ v = u := fun e => hT (List.mem_append_right _ (List.mem_singleton.2 e.symm))
    refine hmono w (h.cls u (hu.imp id fun hu => ?_) (fun hm => hT (List.mem_append_left _ hm)) hc x hx w hw)
    rwa [List.getElem?_set_ne hne] at hu
  · intro u hu
    rcases List.mem_append.1 hu with hu | hu
    · exact hmono u (h.dne u hu)
    · rw [List.mem_singleton.1 hu]; exact hself
theorem BQ_done {o : List JNode} {i t : Nat} {D T : List Nat} {S : List Bool} {n : JNode} (h : BQ o i (some t) D T S) (hn : o[t]? = some n) (hD : D = outs n.keys) : BQ o i none [] T S where
  len := h.len
  tin := h.tin
  cin := by intro u hu; cases hu
  snd := h.snd
  cls := by
    intro u hu hT _ x hx w hw
    by_cases e : t = u
    · subst e; rw [hn] at hx; cases hx; exact h.dne w (hD ▸ hw)
    · exact h.cls u hu hT (fun e2 => e (Option.some.inj e2)) x hx w hw
  dne := by intro v h; cases h
noncomputable def reachL (o : List JNode) (i : Nat) : List Bool := (List.range o.length).map fun u => pb (Rch o i u)
theorem BQ_end {o : List JNode} {i : Nat} {S : List Bool} (h : BQ o i none [] [] S) : S = reachL o i := by
  apply List.ext_getElem?
  intro u
  unfold reachL
  by_cases hu : u < o.length
  · rw [List.getElem?_map, List.getElem?_range hu, Option.map_some]
    have hS : u < S.length := by rw [h.len]; exact hu
    cases hx : S[u] with
    | true =>
      have h1 : S[u]? = some true := by rw [List.getElem?_eq_getElem hS, hx]
      rw [h1, pb_t (h.snd u h1)]
    | false =>
      have h1 : S[u]? = some false := by rw [List.getElem?_eq_getElem hS, hx]
      rw [h1, pb_f]
      intro hR
      have := Rch.closed (fun a => S[a]? = some true) (fun n hn b hb => h.cls i (.inl rfl) (by simp) (by simp) n hn b hb) (fun a n ha hn b hb => h.cls a (.inr ha) (by simp) (by simp) n hn b hb) hR
      rw [h1] at this; cases this
  · rw [List.getElem?_eq_none (by rw [h.len]; omega), List.getElem?_eq_none (by simp; omega)]
theorem outs_take {l : List JKey} {k : Nat} {x : JKey} (hx : l[k]? = some x) : outs (l.take (k + 1)) = outs (l.take k) ++ outK x := by
  rw [List.take_add_one, hx]; simp [outs]
theorem outD_take {l : List JKid} {k : Nat} {x : JKid} (hx : l[k]? = some x) : outD (l.take (k + 1)) = outD (l.take k) ++ [x.node.toNat] := by
  rw [List.take_add_one, hx]; simp [outD]
theorem mem_outs {l : List JKey} {k : Nat} {x : JKey} (hx : l[k]? = some x) (hp : plc x.name = true) {j : Nat} {d : JKid} (hd : x.kids[j]? = some d) : d.node.toNat ∈ outs l := by
  refine List.mem_flatMap.2 ⟨x, List.mem_of_getElem? hx, ?_⟩
  rw [outK, if_pos hp]
  exact List.mem_map.2 ⟨d, List.mem_of_getElem? hd, rfl⟩
def intc (l : List Nat) : List AV := l.map fun (t : Nat) => .int .i64 (t : Int)
def boolc (l : List Bool) : List AV := l.map .bool
theorem intc_len (l : List Nat) : (intc l).length = l.length := by simp [intc]
theorem boolc_len (l : List Bool) : (boolc l).length = l.length := by simp [boolc]
theorem boolc_get {l : List Bool} {i : Nat} {x : Bool} (h : l[i]? = some x) : (boolc l)[i]? = some (.bool x) := by simp [boolc, h]
theorem boolc_set (l : List Bool) (i : Nat) (b : Bool) : (boolc l).set i (.bool b) = boolc (l.set i b) := by simp [boolc, List.map_set]
theorem intc_head (p : List Nat) (t : Nat) (r : List Nat) : (intc (p ++ t :: r))[p.length]? = some (.int .i64 (t : Int)) := by simp [intc]
theorem intc_drop (p r : List Nat) (v : Nat) : (intc (p ++ r)).drop (p.length * 1) ++ [.int .i64 (v : Int)] = intc ([] ++ (r ++ [v])) := by simp [intc]
section
variable [GLay]
@[simp] theorem intc_lt (n : Nat) (l : List Nat) : AV.ltL n (intc l) := by
  rw [AV.ltL_iff]; intro a ha; simp [intc] at ha; obtain ⟨x, _, rfl⟩ := ha; trivial
@[simp] theorem boolc_lt (n : Nat) (l : List Bool) : AV.ltL n (boolc l) := by
  rw [AV.ltL_iff]; intro a ha; simp [boolc] at ha; rcases ha with ⟨_, rfl⟩ | ⟨_, rfl⟩ <;> trivial
end
def boolr (l : List Bool) : List (List AV) := l.map fun b => [.bool b]
theorem boolr_flat (l : List Bool) : (boolr l).flatten = boolc l := by
  induction l with
  | nil => rfl
  | cons a r ih => simp only [boolr, List.map_cons, List.flatten_cons] at ih ⊢; rw [ih]; rfl
end Lg
namespace Lg
open Go
section
variable [GLay]
@[simp] theorem boolr_lt (n : Nat) (l : List Bool) : AV.ltLL n (boolr l) := by
  rw [AV.ltLL_iff]; intro e he; simp only [boolr, List.mem_map] at he; obtain ⟨x, _, rfl⟩ := he; exact ⟨trivial, trivial⟩
theorem boolr_el (l : List Bool) : ∀ r ∈ boolr l, r.length = 1 := by
  intro r hr; simp only [boolr, List.mem_map] at hr; obtain ⟨x, _, rfl⟩ := hr; rfl
theorem boolr_len (l : List Bool) : (boolr l).length = l.length := by simp [boolr]
structure LOK (o : List JNode) : Prop where
  kr : ∀ n ∈ o, KR o.length n
  kz : ∀ n ∈ o, KZ n
  le : o.length ≤ 200
  sz : ∀ n ∈ o, n.path.size ≤ 100000000000
theorem LOK.out {o : List JNode} (h : LOK o) : OR o := by
  intro n hn d hd
  obtain ⟨k, hk, hd⟩ := List.mem_flatMap.1 hd
  unfold outK at hd
  split at hd
  · obtain ⟨x, hx, rfl⟩ := List.mem_map.1 hd
    have := h.kr n hn k hk x hx
    omega
  · cases hd
end
end Lg
namespace Lg
open Go Go.RowKit
variable [GLay]
section
variable {P : Program} {σ : List AO} {e : Env} {o : Oper}
end
end Lg
namespace Lg
open Go Go.RowKit
variable [GLay]
section
variable {P : Program} {σ σ' : List AO} {e : Env} {o : Oper}
theorem AOp.resLe {v w : AV} (h : AOp P σ e o v σ') (hle : AVle v w) : AOp P σ e o w σ' := by
  intro s a hs g hv K Q hk hq
  exact h s a hs g hv K Q (fun v' cv s' ⟨hv', hs'⟩ g' x' hV => hk w cv s' ⟨rfl, hs'⟩ g' x' (hle _ _ (hv' ▸ hV))) hq
end
end Lg
namespace Lg
open Go
section
variable [GLay]
theorem lk1_ref {l : List JNode} {q : JKey} (h : q.name = cREF) (ht : ¬ tgtI q.v.s l < 0) : lk1 l q = some ⟨q.name, q.v, [⟨e0, tgtI q.v.s l⟩]⟩ := by unfold lk1; rw [if_pos h, if_neg ht]
theorem lk1_bad {l : List JNode} {q : JKey} (h : q.name = cREF) (ht : tgtI q.v.s l < 0) : lk1 l q = none := by unfold lk1; rw [if_pos h, if_pos ht]
theorem lk1_no {l : List JNode} {q : JKey} (h : ¬ q.name = cREF) : lk1 l q = some q := by unfold lk1; rw [if_neg h]
theorem lkk_bad {l : List JNode} {q : JKey} {r a : List JKey} (h : lk1 l q = none) : lkk l (q :: r) a = none := by rw [lkk, h]
theorem lkk_go {l : List JNode} {q q2 : JKey} {r a : List JKey} (h : lk1 l q = some q2) : lkk l (q :: r) a = lkk l r (a ++ [q2]) := by rw [lkk, h]
theorem lkn_bad {l r a : List JNode} {n : JNode} (h : lkk l n.keys [] = none) : lkn l (n :: r) a = ([], 12, n.path ++ cREFP) := by rw [lkn, h]
theorem lkn_go {l r a : List JNode} {n : JNode} {ks : List JKey} (h : lkk l n.keys [] = some ks) : lkn l (n :: r) a = lkn l r (a ++ [⟨n.path, n.all, n.pass, ks⟩]) := by rw [lkn, h]
theorem lkc_y {o r : List JNode} {n : JNode} {i : Nat} (h : pb (Rch o i i) = true) : lkc o (n :: r) i = (13, n.path) := by rw [lkc, if_pos h]
theorem lkc_n {o r : List JNode} {n : JNode} {i : Nat} (h : pb (Rch o i i) = false) : lkc o (n :: r) i = lkc o r (i + 1) := by rw [lkc, if_neg (by rw [h]; decide)]
theorem jlink_r {l : List JNode} {p : ByteArray} (h : lkn l l [] = ([], 12, p)) : jlink l = ([], 12, p) := by unfold jlink; simp [h]
theorem jlink_c {l o : List JNode} {p : ByteArray} (h : lkn l l [] = (o, 0, e0)) (h2 : lkc o o 0 = (13, p)) : jlink l = ([], 13, p) := by unfold jlink; simp [h, h2]
theorem jlink_y {l o : List JNode} (h : lkn l l [] = (o, 0, e0)) (h2 : lkc o o 0 = (0, e0)) : jlink l = (o, 0, e0) := by unfold jlink; simp [h, h2]
theorem lk1_ok {l : List JNode} {q q2 : JKey} {N : Nat} (hN : l.length ≤ N) (h : lk1 l q = some q2) (hd : DR N q.kids) (hz : q.name.size ≤ 1000000 ∧ jb q.v ∧ q.kids.length ≤ 1000000) : DR N q2.kids ∧ q2.name.size ≤ 1000000 ∧ jb q2.v ∧ q2.kids.length ≤ 1000000 := by
  unfold lk1 at h
  split at h
  · split at h
    · cases h
    · rename_i ht
      cases h
      refine ⟨fun d hdm => ?_, hz.1, hz.2.1, by simp⟩
      rw [List.mem_singleton.1 hdm]
      have := (tgtI_lt q.v.s l).1
      exact ⟨by simp only; omega, by simp only; omega⟩
  · cases h; exact ⟨hd, hz⟩
theorem lkk_ok {l : List JNode} {N : Nat} (hN : l.length ≤ N) : ∀ (r a ks : List JKey), lkk l r a = some ks → (YR N r ∧ YZ r) → (YR N a ∧ YZ a) → (YR N ks ∧ YZ ks) ∧ ks.length = a.length + r.length
  | [], a, ks, h, _, ha => by cases h; exact ⟨ha, rfl⟩
  | q :: r, a, ks, h, hr, ha => by
    cases h1 : lk1 l q with
    | none => rw [lkk_bad h1] at h; cases h
    | some q2 =>
      rw [lkk_go h1] at h
      have g := lk1_ok hN h1 (hr.1 q (.head _)) (hr.2 q (.head _))
      have ih := lkk_ok hN r (a ++ [q2]) ks h ⟨fun k hk => hr.1 k (.tail _ hk), fun k hk => hr.2 k (.tail _ hk)⟩ ⟨fun k hk => by
        rcases List.mem_append.1 hk with hk | hk
        · exact ha.1 k hk
        · rw [List.mem_singleton.1 hk]; exact g.1, fun k hk => by
        rcases List.mem_append.1 hk with hk | hk
        · exact ha.2 k hk
        · rw [List.mem_singleton.1 hk]; exact g.2⟩
      refine ⟨ih.1, ?_⟩
      rw [ih.2]; simp; omega
def NG (N : Nat) (n : JNode) : Prop := KR N n ∧ KZ n ∧ n.path.size ≤ 100000000000
theorem lkn_ok {l : List JNode} {N : Nat} (hN : l.length ≤ N) : ∀ (r a o : List JNode) (p : ByteArray), lkn l r a = (o, 0, p) → (∀ n ∈ r, NG N n) → (∀ n ∈ a, NG N n) → (∀ n ∈ o, NG N n) ∧ o.length = a.length + r.length
  | [], a, o, p, h, _, ha => by cases h; exact ⟨ha, rfl⟩
  | n :: r, a, o, p, h, hr, ha => by
    cases h1 : lkk l n.keys [] with
    | none => rw [lkn_bad h1] at h; cases h
    | some ks =>
      rw [lkn_go h1] at h
      have hn := hr n (.head _)
      have g := lkk_ok hN n.keys [] ks h1 ⟨hn.1, hn.2.1.2⟩ ⟨fun k hk => (by cases hk), fun k hk => (by cases hk)⟩
      have ih := lkn_ok hN r _ o p h (fun x hx => hr x (.tail _ hx)) (fun x hx => by
        rcases List.mem_append.1 hx with hx | hx
        · exact ha x hx
        · rw [List.mem_singleton.1 hx]
          exact ⟨g.1.1, ⟨by have := hn.2.1.1; have := g.2; simp at this; show ks.length ≤ _; omega, g.1.2⟩, hn.2.2⟩)
      refine ⟨ih.1, ?_⟩
      rw [ih.2]; simp; omega
theorem lkn_LOK {l o : List JNode} {p : ByteArray} (hl : NOK l) (h : lkn l l [] = (o, 0, p)) : LOK o ∧ o.length = l.length := by
  have := lkn_ok (Nat.le_refl _) l [] o p h (fun n hn => ⟨hl.kr n hn, hl.kz n hn, hl.sz n hn⟩) (fun n hn => by cases hn)
  have e : o.length = l.length := by simpa using this.2
  exact ⟨⟨fun n hn => e ▸ (this.1 n hn).1, fun n hn => (this.1 n hn).2.1, by rw [e]; exact hl.le, fun n hn => (this.1 n hn).2.2⟩, e⟩
theorem reachL_get {o : List JNode} {i : Nat} (hi : i < o.length) : (boolr (reachL o i))[i]? = some [.bool (pb (Rch o i i))] := by
  unfold boolr reachL
  rw [List.getElem?_map, List.getElem?_map, List.getElem?_range hi]; rfl
theorem pth_ref : pth cREF = cREFP := by decide +kernel
end
end Lg
namespace Lg
open Go
def wTYPE : ByteArray := ⟨#[116, 121, 112, 101]⟩
def wENUM : ByteArray := ⟨#[101, 110, 117, 109]⟩
def wCONST : ByteArray := ⟨#[99, 111, 110, 115, 116]⟩
def wMIN : ByteArray := ⟨#[109, 105, 110, 105, 109, 117, 109]⟩
def wMAX : ByteArray := ⟨#[109, 97, 120, 105, 109, 117, 109]⟩
def wMINL : ByteArray := ⟨#[109, 105, 110, 76, 101, 110, 103, 116, 104]⟩
def wMAXL : ByteArray := ⟨#[109, 97, 120, 76, 101, 110, 103, 116, 104]⟩
def wMINI : ByteArray := ⟨#[109, 105, 110, 73, 116, 101, 109, 115]⟩
def wMAXI : ByteArray := ⟨#[109, 97, 120, 73, 116, 101, 109, 115]⟩
def wUNIQ : ByteArray := ⟨#[117, 110, 105, 113, 117, 101, 73, 116, 101, 109, 115]⟩
def wREQ : ByteArray := ⟨#[114, 101, 113, 117, 105, 114, 101, 100]⟩
def wFALSE : ByteArray := ⟨#[102, 97, 108, 115, 101]⟩
def tNULL : ByteArray := ⟨#[110, 117, 108, 108]⟩
def tBOOL : ByteArray := ⟨#[98, 111, 111, 108, 101, 97, 110]⟩
def tNUM : ByteArray := ⟨#[110, 117, 109, 98, 101, 114]⟩
def tINT : ByteArray := ⟨#[105, 110, 116, 101, 103, 101, 114]⟩
def tSTR : ByteArray := ⟨#[115, 116, 114, 105, 110, 103]⟩
def tARR : ByteArray := ⟨#[97, 114, 114, 97, 121]⟩
def tOBJ : ByteArray := ⟨#[111, 98, 106, 101, 99, 116]⟩
def tyN (k : Int) : ByteArray := if k = 0 then tNULL else if k = 1 then tBOOL else if k = 2 then tNUM else if k = 3 then tSTR else if k = 4 then tARR else tOBJ
def ris (v : JV) (s : ByteArray) : Bool := if s = tINT then decide (v.kind = 2) && rWhole v.n else decide (tyN v.kind = s)
def pis (v : JV) (s : ByteArray) : Bool := if s = tNULL then decide (v.kind = 0) else if s = tBOOL then decide (v.kind = 1) else if s = tNUM then decide (v.kind = 2) else if s = tINT then decide (v.kind = 2) && decide (0 ≤ v.n.exp) else if s = tSTR then decide (v.kind = 3) else if s = tARR then decide (v.kind = 4) else decide (v.kind = 5)
theorem aD_digs {n : JNum} (h : digs n.digits n.digits.size) : aD n.digits.data.toList := fun b hb => by
  obtain ⟨i, hi⟩ := List.mem_iff_getElem?.1 hb
  have hlt := (List.getElem?_eq_some_iff.1 hi).1
  have hz : n.digits.data.toList.length = n.digits.size := Array.length_toList ..
  have := h i (by omega)
  unfold dig bat at this
  rw [List.getD_eq_getElem?_getD, hi] at this
  simp only [Option.getD_some] at this
  simp [isD]; omega
theorem numMay_J {n : JNum} (h : NumMay n) : JMay n := by
  rcases h with ⟨h1, h2, h3⟩ | ⟨h1, h2, h3, h4, h5, h6, h7⟩
  · left; exact (jnum_ext _ _).2 ⟨h2, h1, h3⟩
  · right
    have hz : n.digits.data.toList.length = n.digits.size := Array.length_toList ..
    have hp := ba_pos h1
    have hne : n.digits.data.toList ≠ [] := fun e => by rw [e] at hz; simp at hz; omega
    have hg : ∀ i, bat n.digits i = (n.digits.data.toList[i]?).getD 0 := fun i => by unfold bat; rw [List.getD_eq_getElem?_getD]
    refine ⟨n.digits.data.toList, (ba_eta _).symm, hne, aD_digs h2, ?_, ?_, by omega, h6, h7⟩
    · intro e
      rw [hg, ← List.head?_eq_getElem?, e] at h4
      exact h4 rfl
    · intro e
      rw [List.getLast?_eq_getElem?] at e
      rw [hg, ← hz, e] at h5
      exact h5 rfl
theorem pis_ris {v : JV} {s : ByteArray} (hs : tyL.any (fun t => decide (s = t)) = true) (h0 : 0 ≤ v.kind) (h5 : v.kind ≤ 5) (hn : NumMay v.n) : pis v s = ris v s := by
  have hw : decide (0 ≤ v.n.exp) = rWhole v.n := whole_ok (numMay_J hn)
  unfold pis ris
  rw [hw]
  have hk : v.kind = 0 ∨ v.kind = 1 ∨ v.kind = 2 ∨ v.kind = 3 ∨ v.kind = 4 ∨ v.kind = 5 := by omega
  have hs2 : s = tNULL ∨ s = tBOOL ∨ s = tNUM ∨ s = tINT ∨ s = tSTR ∨ s = tARR ∨ s = tOBJ := by
    simpa [tyL, tNULL, tBOOL, tNUM, tINT, tSTR, tARR, tOBJ] using hs
  rcases hk with e | e | e | e | e | e <;> rw [e] <;> rcases hs2 with rfl | rfl | rfl | rfl | rfl | rfl | rfl <;> first | rfl | (simp [tNULL, tBOOL, tNUM, tINT, tSTR, tARR, tOBJ, tyN]; done)
def rcnt (s : ByteArray) : Nat := Lib.runeCount s
noncomputable def ofN (k : Int) : JNum := (pNum (Lib.itoa k)).1
theorem ofN_may (k : Int) : JMay (ofN k) := (pNum_may _).1
def UQ (l : List JV) (i : Nat) : Prop := ∀ (a : Nat) x, a < i → l[a]? = some x → ∀ y ∈ l.take a, ¬ y = x
theorem UQ_0 (l : List JV) : UQ l 0 := fun a x h => absurd h (by omega)
theorem UQ_succ {l : List JV} {i : Nat} {x : JV} (hx : l[i]? = some x) : UQ l (i + 1) ↔ UQ l i ∧ ((l.take i).any fun y => pb (y = x)) = false := by
  constructor
  · intro h
    refine ⟨fun a y ha => h a y (by omega), ?_⟩
    rw [List.any_eq_false]
    intro y hy e
    exact h i x (by omega) hx y hy ((pb_iff _).1 e)
  · intro ⟨h1, h2⟩ a y ha hy z hz e
    by_cases hai : a = i
    · subst hai
      rw [hx] at hy; cases hy
      rw [List.any_eq_false] at h2
      exact h2 z hz (pb_t e)
    · exact h1 a y (by omega) hy z hz e
noncomputable def rpass (nm : ByteArray) (k v : JV) : Bool :=
  if nm = wTYPE then (if k.kind = 3 then [k] else k.l).any (fun x => ris v x.s)
  else if nm = wENUM then k.l.any (fun x => pb (x = v))
  else if nm = wCONST then pb (k = v)
  else if nm = wMIN then !(decide (v.kind = 2) && decide (pCmp v.n k.n < 0))
  else if nm = wMAX then !(decide (v.kind = 2) && decide (0 < pCmp v.n k.n))
  else if nm = wMINL then !(decide (v.kind = 3) && decide (pCmp (ofN (rcnt v.s)) k.n < 0))
  else if nm = wMAXL then !(decide (v.kind = 3) && decide (0 < pCmp (ofN (rcnt v.s)) k.n))
  else if nm = wMINI then !(decide (v.kind = 4) && decide (pCmp (ofN v.l.length) k.n < 0))
  else if nm = wMAXI then !(decide (v.kind = 4) && decide (0 < pCmp (ofN v.l.length) k.n))
  else if nm = wUNIQ then !(k.b && !pb (UQ v.l v.l.length))
  else if nm = wREQ then !(k.l.any fun x => decide (v.kind = 5) && !jfB v x.s)
  else true
noncomputable def jown (n : JNode) (v : JV) : List ByteArray := if n.all = true ∧ n.pass = false then [wFALSE] else (n.keys.filter fun k => !rpass k.name k.v v).map JKey.name
def KM (k : JKey) : Prop := rShape k.name k.v = 0 ∧ jmay k.v
def NM (n : JNode) : Prop := ∀ k ∈ n.keys, KM k
theorem mayM_get {v : JV} (h : jmay v) {i : Nat} {q : BJ} (hq : v.m[i]? = some q) : jmay q.2 := (((jmay_eq v).1 h).2.1 i q (List.getElem?_eq_some_iff.1 hq).1 hq).2
theorem mayL_get {v : JV} (h : jmay v) {i : Nat} {x : JV} (hx : v.l[i]? = some x) : jmay x := ((jmay_eq v).1 h).2.2 i x hx
end Lg
set_option maxRecDepth 20000
set_option maxHeartbeats 4000000
namespace Go.Proofs
open Go.Shelf
def Tryz.lays195_ren : Go.Shelf.Ren := ⟨fun | 195 => 77 | n => n, fun | 9 => 9 | 3 => 3 | 0 => 0 | 4 => 4 | n => n, fun | n => n⟩
theorem Tryz.lays195 : Go.Proofs.Lays.n195 Tryz.prog Tryz.lays195_ren := {
  mixed := by kernel_rfl, f195 := Tryz.func77.trans (congrArg some (by kernel_rfl)), t0 := Tryz.underlying0, a0 := Tryz.isAgg0, z0 := Tryz.sizeOf0, v0 := Tryz.zeroValue0, t3 := Tryz.underlying3, a3 := Tryz.isAgg3, z3 := Tryz.sizeOf3, v3 := Tryz.zeroValue3, t4 := Tryz.underlying4, a4 := Tryz.isAgg4, z4 := Tryz.sizeOf4, v4 := Tryz.zeroValue4, t9 := Tryz.underlying9, a9 := Tryz.isAgg9, z9 := Tryz.sizeOf9, v9 := Tryz.zeroValue9 }
end Go.Proofs
namespace Lg
open Go Go.Proofs Go.RowKit
theorem below_iter (w : World) (s : ByteArray) (pos : Nat) : Below w.heap.size w (w.iter s pos) := (Below.refl _ w).alloc (Nat.le_refl _) _
theorem rcount_c [GLay] (s : ByteArray) (σ : List AO) (hs : s.size ≤ 1000000) : ACalls Tryz.prog 77 [.str s] σ (Ret (.int .i64 (rcnt s)) σ) :=
  ACalls_below fun st cargs g hp => by
    obtain ⟨q, qs, rfl, h1, h2⟩ := hp.inv_cons
    obtain rfl := h2.inv_nil
    obtain rfl := h1.inv_str
    refine ⟨.int .i64 (rcnt s), fun _ => .int _ _, ?_⟩
    exact (Any.utf8_RuneCountInString Tryz.lays195 s st.w (by omega)).mono fun e w' ⟨h1, pos, h2⟩ => ⟨h1, h2 ▸ below_iter _ _ _⟩
end Lg
namespace Lg
open Go
theorem rp_type (k v : JV) : rpass wTYPE k v = (if k.kind = 3 then [k] else k.l).any (fun x => ris v x.s) := by unfold rpass; rw [if_pos rfl]
theorem rp_enum (k v : JV) : rpass wENUM k v = k.l.any (fun x => pb (x = v)) := by unfold rpass; rw [if_neg (by decide), if_pos rfl]
theorem rp_const (k v : JV) : rpass wCONST k v = pb (k = v) := by unfold rpass; rw [if_neg (by decide), if_neg (by decide), if_pos rfl]
theorem rp_min (k v : JV) : rpass wMIN k v = !(decide (v.kind = 2) && decide (pCmp v.n k.n < 0)) := by unfold rpass; rw [if_neg (by decide), if_neg (by decide), if_neg (by decide), if_pos rfl]
theorem rp_max (k v : JV) : rpass wMAX k v = !(decide (v.kind = 2) && decide (0 < pCmp v.n k.n)) := by unfold rpass; rw [if_neg (by decide), if_neg (by decide), if_neg (by decide), if_neg (by decide), if_pos rfl]
theorem rp_minl (k v : JV) : rpass wMINL k v = !(decide (v.kind = 3) && decide (pCmp (ofN (rcnt v.s)) k.n < 0)) := by unfold rpass; rw [if_neg (by decide), if_neg (by decide), if_neg (by decide), if_neg (by decide), if_neg (by decide), if_pos rfl]
theorem rp_maxl (k v : JV) : rpass wMAXL k v = !(decide (v.kind = 3) && decide (0 < pCmp (ofN (rcnt v.s)) k.n)) := by unfold rpass; rw [if_neg (by decide), if_neg (by decide), if_neg (by decide), if_neg (by decide), if_neg (by decide), if_neg (by decide), if_pos rfl]
theorem rp_mini (k v : JV) : rpass wMINI k v = !(decide (v.kind = 4) && decide (pCmp (ofN v.l.length) k.n < 0)) := by unfold rpass; rw [if_neg (by decide), if_neg (by decide), if_neg (by decide), if_neg (by decide), if_neg (by decide), if_neg (by decide), if_neg (by decide), if_pos rfl]
theorem rp_maxi (k v : JV) : rpass wMAXI k v = !(decide (v.kind = 4) && decide (0 < pCmp (ofN v.l.length) k.n)) := by unfold rpass; rw [if_neg (by decide), if_neg (by decide), if_neg (by decide), if_neg (by decide), if_neg (by decide), if_neg (by decide), if_neg (by decide), if_neg (by decide), if_pos rfl]
theorem rp_uniq (k v : JV) : rpass wUNIQ k v = !(k.b && !pb (UQ v.l v.l.length)) := by unfold rpass; rw [if_neg (by decide), if_neg (by decide), if_neg (by decide), if_neg (by decide), if_neg (by decide), if_neg (by decide), if_neg (by decide), if_neg (by decide), if_neg (by decide), if_pos rfl]
theorem rp_req (k v : JV) : rpass wREQ k v = !(k.l.any fun x => decide (v.kind = 5) && !jfB v x.s) := by unfold rpass; rw [if_neg (by decide), if_neg (by decide), if_neg (by decide), if_neg (by decide), if_neg (by decide), if_neg (by decide), if_neg (by decide), if_neg (by decide), if_neg (by decide), if_neg (by decide), if_pos rfl]
theorem rp_none {nm : ByteArray} (k v : JV) (h1 : ¬ nm = wTYPE) (h2 : ¬ nm = wENUM) (h3 : ¬ nm = wCONST) (h4 : ¬ nm = wMIN) (h5 : ¬ nm = wMAX) (h6 : ¬ nm = wMINL) (h7 : ¬ nm = wMAXL) (h8 : ¬ nm = wMINI) (h9 : ¬ nm = wMAXI) (h10 : ¬ nm = wUNIQ) (h11 : ¬ nm = wREQ) : rpass nm k v = true := by
  unfold rpass; rw [if_neg h1, if_neg h2, if_neg h3, if_neg h4, if_neg h5, if_neg h6, if_neg h7, if_neg h8, if_neg h9, if_neg h10, if_neg h11]
theorem kindr {v : JV} (h : jmay v) : 0 ≤ v.kind ∧ v.kind ≤ 5 ∧ NumMay v.n := ⟨((jmay_eq v).1 h).1.1, ((jmay_eq v).1 h).1.2.1, ((jmay_eq v).1 h).1.2.2.2.1⟩
theorem typed_eq {k v : JV} (hk : kOK 1 k = true) (hv : jmay v) : (if k.kind = 3 then [k] else k.l).any (fun x => pis v x.s) = (if k.kind = 3 then [k] else k.l).any (fun x => ris v x.s) := by
  obtain ⟨h0, h5, hn⟩ := kindr hv
  have hall : ∀ x ∈ (if k.kind = 3 then [k] else k.l), tyL.any (fun t => decide (x.s = t)) = true := by
    unfold kOK at hk
    simp only [Bool.or_eq_true, Bool.and_eq_true] at hk
    intro x hx
    rcases hk with h | ⟨⟨h1, h2⟩, h3⟩
    · have ⟨h4, h6⟩ : k.kind = 3 ∧ tyL.any (fun t => decide (k.s = t)) = true := by unfold tyB at h; simpa using h
      rw [if_pos h4] at hx
      rw [List.mem_singleton.1 hx]; exact h6
    · have h4 : k.kind = 4 := by unfold txB at h1; simp at h1; exact h1.2
      rw [if_neg (by omega)] at hx
      have := List.all_eq_true.1 h3 x hx
      unfold tyB at this
      simp only [Bool.and_eq_true] at this
      exact this.2
  rw [Bool.eq_iff_iff, List.any_eq_true, List.any_eq_true]
  constructor
  · rintro ⟨x, hx, h⟩; exact ⟨x, hx, by rw [← pis_ris (hall x hx) h0 h5 hn]; exact h⟩
  · rintro ⟨x, hx, h⟩; exact ⟨x, hx, by rw [pis_ris (hall x hx) h0 h5 hn]; exact h⟩
theorem kok_type {k : JV} (h : rShape wTYPE k = 0) : kOK 1 k = true := by
  have hr : rk wTYPE = 1 := by decide
  unfold rShape at h
  rw [hr, if_neg (by decide)] at h
  by_cases hk : kOK 1 k = true
  · exact hk
  · rw [if_neg hk] at h; exact absurd h (by decide)
theorem no_l {v : JV} (hv : jmay v) (h : ¬ v.kind = 4) : v.l = [] := by
  have hb := ((jmay_eq v).1 hv).1.2.2.1
  unfold jbare at hb
  cases hl : v.l with
  | nil => rfl
  | cons a r => exfalso; simp [h, hl] at hb
noncomputable def jf (v : JV) (ks : List JKey) : List ByteArray := (ks.filter fun k => !rpass k.name k.v v).map JKey.name
theorem jf_n {v : JV} {ks : List JKey} {i : Nat} {q : JKey} (h : ks[i]? = some q) (hp : rpass q.name q.v v = false) : jf v (ks.take (i + 1)) = jf v (ks.take i) ++ [q.name] := by
  unfold jf; rw [List.take_add_one, h]; simp [List.filter_append, hp]
theorem jf_y {v : JV} {ks : List JKey} {i : Nat} {q : JKey} (h : ks[i]? = some q) (hp : rpass q.name q.v v = true) : jf v (ks.take (i + 1)) = jf v (ks.take i) := by
  unfold jf; rw [List.take_add_one, h]; simp [List.filter_append, hp]
theorem jf_len (v : JV) (ks : List JKey) : (jf v ks).length ≤ ks.length := by unfold jf; rw [List.length_map]; exact List.length_filter_le _ _
theorem jown_f {n : JNode} {v : JV} (h1 : n.all = true) (h2 : n.pass = false) : jown n v = [wFALSE] := by unfold jown; rw [if_pos ⟨h1, h2⟩]
theorem jown_k {n : JNode} {v : JV} (h : ¬ (n.all = true ∧ n.pass = false)) : jown n v = jf v n.keys := by unfold jown; rw [if_neg h]; rfl
section
variable [GLay]
def nrow (l : List ByteArray) : List (List AV) := l.map fun x => [AV.str x]
theorem nrow_len (l : List ByteArray) : (nrow l).length = l.length := by simp [nrow]
theorem nrow_el (l : List ByteArray) : ∀ r ∈ nrow l, r.length = 1 := by intro r hr; simp [nrow] at hr; obtain ⟨x, _, rfl⟩ := hr; rfl
theorem nrow_flen (l : List ByteArray) : (nrow l).flatten.length = l.length * 1 := by rw [flatten_len (nrow_el l), nrow_len]
theorem nrow_snoc (l : List ByteArray) (x : ByteArray) : (nrow (l ++ [x])).flatten = (nrow l).flatten ++ [.str x] := by simp [nrow]
theorem nrow_srow (l : List ByteArray) : nrow l = srow (l.map nml) := by
  unfold nrow srow
  rw [List.map_map]
  exact List.map_congr_left fun x _ => by simp only [Function.comp, nml, ← ba_eta]
@[simp] theorem nrow_lt (n : Nat) (l : List ByteArray) : AV.ltLL n (nrow l) := ltLL_str n l
@[simp] theorem nflat1_lt (n : Nat) (l : List ByteArray) : AV.ltL n (nrow l).flatten := fl_lt (nrow_lt n l)
end
end Lg
set_option maxRecDepth 20000
set_option maxHeartbeats 4000000
namespace Lg
open Go Go.Proofs Go.RowKit
variable [GLay] [S10]
theorem pis_c (v : JV) (s : ByteArray) (cs : List AV) (σ : List AO) (hc : vcells v = cs) : ACalls Tryz.prog 112 [.agg cs, .str s] σ (Ret (.bool (pis v s)) σ) := by
 refine ACalls_body Tryz.func112 rfl Tryz.ntmps112 (res1 Tryz.results112) (Nat.le_of_ble_eq_true rfl) (fun hcl hal => ?_)
 subst hc
 rw [vcells_eq v]
 refine zw2 ?_
 refine AWp_seq ?_
 refine zw1 ?_
 refine AWp_block ?_
 refine zw2 ?_
 refine AWp_cond rfl (fun h1 => ?_) (fun h1 => ?_)
 ·(try rw [h1]); replace h1 := zcl h1
  refine zw4 ?_
  refine zrt ?_
  refine ResQ_1 rfl hcl trivial (Ret_of ?_)
  congr 1
  unfold pis
  rw [if_pos (show s = tNULL from h1)]
 ·(try rw [h1]); replace h1 := zcl h1
  refine zw2 ?_
  refine AWp_cond rfl (fun h2 => ?_) (fun h2 => ?_)
  ·(try rw [h2]); replace h2 := zcl h2
   refine zw4 ?_
   refine zrt ?_
   refine ResQ_1 rfl hcl trivial (Ret_of ?_)
   congr 1
   unfold pis
   rw [if_neg (show ¬ s = tNULL from h1), if_pos (show s = tBOOL from h2)]
  ·(try rw [h2]); replace h2 := zcl h2
   refine zw2 ?_
   refine AWp_cond rfl (fun h3 => ?_) (fun h3 => ?_)
   ·(try rw [h3]); replace h3 := zcl h3
    refine zw4 ?_
    refine zrt ?_
    refine ResQ_1 rfl hcl trivial (Ret_of ?_)
    congr 1
    unfold pis
    rw [if_neg (show ¬ s = tNULL from h1), if_neg (show ¬ s = tBOOL from h2), if_pos (show s = tNUM from h3)]
   ·(try rw [h3]); replace h3 := zcl h3
    refine zw2 ?_
    refine AWp_cond rfl (fun h4 => ?_) (fun h4 => ?_)
    ·(try rw [h4]); replace h4 := zcl h4
     refine zu4 ?_
     refine zsp 26 rfl (fun h5 => ?_) fun h5 => ?_
     ·rw [h5]; replace h5 := zcl h5
      refine zg2 ?_
      refine ztG rfl rfl (zc rfl (pwhole_c v.n _)) ?_
      refine zv2 ?_
      refine zrt ?_
      refine ResQ_1 rfl hcl trivial (Ret_of ?_)
      congr 1
      unfold pis
      rw [if_neg (show ¬ s = tNULL from h1), if_neg (show ¬ s = tBOOL from h2), if_neg (show ¬ s = tNUM from h3), if_pos (show s = tINT from h4)]
      simp [h5]
     ·rw [h5]; replace h5 := zcl h5
      refine zv5 ?_
      refine zrt ?_
      refine ResQ_1 rfl hcl trivial (Ret_of ?_)
      congr 1
      unfold pis
      rw [if_neg (show ¬ s = tNULL from h1), if_neg (show ¬ s = tBOOL from h2), if_neg (show ¬ s = tNUM from h3), if_pos (show s = tINT from h4)]
      simp [h5]
    ·(try rw [h4]); replace h4 := zcl h4
     refine zw2 ?_
     refine AWp_cond rfl (fun h6 => ?_) (fun h6 => ?_)
     ·(try rw [h6]); replace h6 := zcl h6
      refine zw4 ?_
      refine zrt ?_
      refine ResQ_1 rfl hcl trivial (Ret_of ?_)
      congr 1
      unfold pis
      rw [if_neg (show ¬ s = tNULL from h1), if_neg (show ¬ s = tBOOL from h2), if_neg (show ¬ s = tNUM from h3), if_neg (show ¬ s = tINT from h4), if_pos (show s = tSTR from h6)]
     ·(try rw [h6]); replace h6 := zcl h6
      refine zw2 ?_
      refine AWp_cond rfl (fun h7 => ?_) (fun h7 => ?_)
      ·(try rw [h7]); replace h7 := zcl h7
       refine zw4 ?_
       refine zrt ?_
       refine ResQ_1 rfl hcl trivial (Ret_of ?_)
       congr 1
       unfold pis
       rw [if_neg (show ¬ s = tNULL from h1), if_neg (show ¬ s = tBOOL from h2), if_neg (show ¬ s = tNUM from h3), if_neg (show ¬ s = tINT from h4), if_neg (show ¬ s = tSTR from h6), if_pos (show s = tARR from h7)]
      ·(try rw [h7]); replace h7 := zcl h7
       refine AWp_skip ?_
       refine zw4 ?_
       refine zrt ?_
       refine ResQ_1 rfl hcl trivial (Ret_of ?_)
       congr 1
       unfold pis
       rw [if_neg (show ¬ s = tNULL from h1), if_neg (show ¬ s = tBOOL from h2), if_neg (show ¬ s = tNUM from h3), if_neg (show ¬ s = tINT from h4), if_neg (show ¬ s = tSTR from h6), if_neg (show ¬ s = tARR from h7)]

theorem ctyp1_c (x v : JV) (σ : List AO) : ACalls Tryz.prog 114 [.agg (vcells x), .pp (vcells v)] σ (Ret (.bool (pis v x.s)) σ) := by
 refine ACalls_body Tryz.func114 rfl Tryz.ntmps114 (res1 Tryz.results114) (Nat.le_of_ble_eq_true rfl) (fun hcl hal => ?_)
 rw [vcells_eq x, vcells_eq v]
 refine zw2 ?_
 refine zu3 ?_
 refine zt rfl (zc rfl (pis_c v x.s _ _ (vcells_eq v))) ?_
 refine zv1 ?_
 refine zrt ?_
 exact ResQ_1 rfl hcl trivial (Ret_of rfl)

theorem typed_c (k v : JV) (c1 c2 : List AV) (σ : List AO) (h1c : vcells k = c1) (h2c : vcells v = c2) (hl : k.l.length ≤ 1000000000) : ACalls Tryz.prog 72 [.agg c1, .agg c2] σ (Ret (.bool ((if k.kind = 3 then [k] else k.l).any (fun x => pis v x.s))) σ) := by
 refine ACalls_body Tryz.func72 rfl Tryz.ntmps72 (res1 Tryz.results72) (Nat.le_of_ble_eq_true rfl) (fun hcl hal => ?_)
 subst h1c; subst h2c
 rw [vcells_eq k, vcells_eq v]
 refine zw3 ?_
 refine AWp_seq ?_
 refine zw3 ?_
 refine AWp_cond rfl (fun h1 => ?_) (fun h1 => ?_)
 ·(try rw [h1]); replace h1 := zcl h1
  refine zu3 ?_
  refine zt rfl (zc rfl (pis_c v k.s _ _ (vcells_eq v))) ?_
  refine zv1 ?_
  refine zrt ?_
  refine ResQ_1 rfl hcl trivial (Ret_of ?_)
  rw [if_pos h1]; simp
 ·(try rw [h1]); replace h1 := zcl h1
  refine AWp_skip ?_
  refine AWp_seq ?_
  refine AWp_freezeBoxO 3 1 rfl rfl ?_ (by decide)
  refine AWp_regL ?_
  refine zg3 ?_
  refine zt rfl (zc rfl (ctfV_c 114 _ Tryz.func114 rfl rfl [.pp [.int .i64 v.kind, .bool v.b, .bool v.n.neg, .str v.n.digits, .int .i64 v.n.exp, .str v.s, .sl false 8 (lcells v.l), .sl false 9 (mcells v.m)]] (fun n => by simp [AV.ltL, AV.lt]) k.l (fun x => pis v x.s) _ hl (fun i x hx => vcells_eq v ▸ ctyp1_c x v _))) ?_
  refine zv1 ?_
  refine zrt ?_
  refine ResQ_1 rfl hcl trivial (Ret_of ?_)
  rw [if_neg h1]

theorem camo1_c (x v : JV) (σ : List AO) (hx : jb x) (hv : jb v) : ACalls Tryz.prog 115 [.agg (vcells x), .pp (vcells v)] σ (Ret (.bool (pb (x = v))) σ) := by
 refine ACalls_body Tryz.func115 rfl Tryz.ntmps115 (res1 Tryz.results115) (Nat.le_of_ble_eq_true rfl) (fun hcl hal => ?_)
 rw [vcells_eq x, vcells_eq v]
 have hxp := jsize_pos x
 refine zw2 ?_
 refine zu2 ?_
 refine zt rfl (zc rfl (vcells_eq x ▸ vcells_eq v ▸ same_any (jsize x).toNat x v _ (by omega) hx hv)) ?_
 refine zv1 ?_
 refine zrt ?_
 exact ResQ_1 rfl hcl trivial (Ret_of rfl)

theorem among_c (l : List JV) (v : JV) (f : Bool) (es : List (List AV)) (cs : List AV) (σ : List AO) (he : lcells l = es) (hc : vcells v = cs) (hl : l.length ≤ 1000000000) (hb : ∀ x ∈ l, jb x) (hv : jb v) (hf : f = false) : ACalls Tryz.prog 73 [.sl f 8 es, .agg cs] σ (Ret (.bool (l.any (fun x => pb (x = v)))) σ) := by
 refine ACalls_body Tryz.func73 rfl Tryz.ntmps73 (res1 Tryz.results73) (Nat.le_of_ble_eq_true rfl) (fun hcl hal => ?_)
 subst he; subst hc; subst hf
 rw [vcells_eq v]
 refine zw2 ?_
 refine AWp_seq ?_
 refine AWp_freezeBoxO 3 0 rfl rfl ?_ (by decide)
 refine AWp_regL ?_
 refine zg2 ?_
 refine zt rfl (zc rfl (ctfV_c 115 _ Tryz.func115 rfl rfl [.pp [.int .i64 v.kind, .bool v.b, .bool v.n.neg, .str v.n.digits, .int .i64 v.n.exp, .str v.s, .sl false 8 (lcells v.l), .sl false 9 (mcells v.m)]] (fun n => by simp [AV.ltL, AV.lt]) l (fun x => pb (x = v)) _ hl (fun i x hx => vcells_eq v ▸ camo1_c x v _ (hb x (List.mem_of_getElem? hx)) hv))) ?_
 refine zv1 ?_
 refine zrt ?_
 exact ResQ_1 rfl hcl trivial (Ret_of rfl)

theorem unique_c (l : List JV) (σ : List AO) (hl : l.length ≤ 1000000000) (hb : ∀ x ∈ l, jb x) : ACalls Tryz.prog 78 [.sl false 8 (lcells l)] σ (Ret (.bool (pb (UQ l l.length))) σ) := by
 refine ACalls_body Tryz.func78 rfl Tryz.ntmps78 (res1 Tryz.results78) (Nat.le_of_ble_eq_true rfl) (fun hcl hal => ?_)
 have hll := lcells_length l
 refine zw1 ?_
 refine AWp_seq ?_
 refine zw3 ?_
 refine AWp_block ?_
 -- loop 0 LIVE 0:param 2:assign 5:move 6:call 7:move
 refine AWp_loop (ι := Nat) (fun i => i ≤ l.length ∧ UQ l i) (fun i => ⟨[], [(0, .sl false 8 (lcells l)), (2, .bool false), (5, .sl false 8 (lcells l)), (6, .int .i64 (l.length : Int)), (7, .int .i64 (i : Int))]⟩) (fun i => σ) (fun i => l.length - i) (0) (⟨Nat.zero_le _, UQ_0 l⟩) ?_ rfl (fun i hi => ?_)
 ·exact ⟨rfl, rfl, rfl, rfl, congrArg (fun n : Nat => AV.int .i64 (n : Int)) (lcells_length _), rfl, trivial⟩
 obtain ⟨hi1, hi2⟩ := hi
 refine zw1 ?_
 refine AWp_seq ?_
 refine AWp_cond rfl (fun h1 => ?_) (fun h1 => ?_)
 ·(try rw [h1]); replace h1 := zcl h1
  obtain ⟨x, hx⟩ : ∃ x, l[i]? = some x := ⟨_, List.getElem?_eq_getElem (show i < l.length by omega)⟩
  have hxm := List.mem_of_getElem? hx
  refine AWp_skip ?_
  refine AWp_seq ?_
  refine AWp_block ?_
  refine zu2 ?_
  rw [vcells_eq x]
  refine zv4 ?_
  refine AWp_seq ?_
  refine AWp_drawL #[0, 0, 3, 0, 15] Tryz.mixed (by decide +kernel) (by decide +kernel) ?_
  refine zd2 ?_
  refine yA rfl rfl (fun _ => op_sliceSl 0 (i : Int) rfl Tryz.underlying25 Tryz.sizeOf28 rfl (by first | exact ⟨_, rfl⟩ | rfl) (by first | exact ⟨_, rfl⟩ | rfl) (by omega) (by omega) (by omega)) ?_
  refine zp1 ?_
  refine yP rfl rfl (zc rfl (among_c (l.take i) x _ _ _ _ (by simp [lcells_eq, List.map_take]) (vcells_eq x) (by rw [List.length_take]; omega) (fun y hy => hb y (List.mem_of_mem_take hy)) (hb x hxm) rfl)) (trivial) ?_
  refine RP.nil rfl ?_
  refine AWp_cond rfl (fun h2 => ?_) (fun h2 => ?_)
  ·(try rw [h2]); replace h2 := zcl h2
   refine zw1 ?_
   refine zrt ?_
   refine ResQ_1 rfl hcl trivial (Ret_of ?_)
   rw [pb_f]
   intro hu
   exact absurd ((UQ_succ hx).1 (fun a y ha => hu a y (by omega))).2 (by rw [h2]; decide)
  ·(try rw [h2]); replace h2 := zcl h2
   refine AWp_skip ?_
   refine AWp_regL ?_
   refine zv2 ?_
   refine ⟨i + 1, σ.length, ⟨by omega, (UQ_succ hx).2 ⟨hi2, h2⟩⟩, by omega, by simp, ⟨rfl, rfl, rfl, rfl, rfl, rfl, trivial⟩, closed_own 0 hcl (by simp [ownLt]), ?_, (take_own 0).trans (List.append_nil _)⟩
   ·simp [ltE, AV.lt, AV.ltL]
 ·(try rw [h1]); replace h1 := zcl h1
  refine AWp_exit ?_
  refine zw1 ?_
  refine zrt ?_
  refine ResQ_10 rfl hcl trivial (Ret_of ?_)
  rw [pb_t]
  rwa [show l.length = i by omega]

theorem findC_c (v : JV) (key : ByteArray) (cs : List AV) (σ : List AO) (hc : vcells v = cs) (hb : v.m.length ≤ 1000000) : ACalls Tryz.prog 125 [.agg cs, .str key] σ (Ret (.tup [.agg (vcells (jfD v key)), .bool (jfB v key)]) σ) := by
  subst hc; exact FindR.ret (find_c v key σ hb)
theorem chas1_c (x v : JV) (σ : List AO) (hb : v.m.length ≤ 1000000) : ACalls Tryz.prog 124 [.agg (vcells x), .pp (vcells v)] σ (Ret (.bool (!jfB v x.s)) σ) := by
 refine ACalls_body Tryz.func124 rfl Tryz.ntmps124 (res1 Tryz.results124) (Nat.le_of_ble_eq_true rfl) (fun hcl hal => ?_)
 rw [vcells_eq x, vcells_eq v]
 refine zw2 ?_
 refine zu3 ?_
 refine zt rfl (zc rfl (findC_c v x.s _ _ (vcells_eq v) hb)) ?_
 rw [vcells_eq (jfD v x.s)]
 refine zv6 ?_
 refine zw3 ?_
 refine zrt ?_
 exact ResQ_1 rfl hcl trivial (Ret_of rfl)

theorem has_c (k v : JV) (c1 c2 : List AV) (σ : List AO) (h1c : vcells k = c1) (h2c : vcells v = c2) (hl : k.l.length ≤ 1000000000) (hb : v.m.length ≤ 1000000) : ACalls Tryz.prog 79 [.agg c1, .agg c2] σ (Ret (.bool (!k.l.any (fun x => !jfB v x.s))) σ) := by
 refine ACalls_body Tryz.func79 rfl Tryz.ntmps79 (res1 Tryz.results79) (Nat.le_of_ble_eq_true rfl) (fun hcl hal => ?_)
 subst h1c; subst h2c
 rw [vcells_eq k, vcells_eq v]
 refine zw3 ?_
 refine AWp_seq ?_
 refine AWp_freezeBoxO 3 1 rfl rfl ?_ (by decide)
 refine AWp_regL ?_
 refine zg3 ?_
 refine zt rfl (zc rfl (ctfV_c 124 _ Tryz.func124 rfl rfl [.pp [.int .i64 v.kind, .bool v.b, .bool v.n.neg, .str v.n.digits, .int .i64 v.n.exp, .str v.s, .sl false 8 (lcells v.l), .sl false 9 (mcells v.m)]] (fun n => by simp [AV.ltL, AV.lt]) k.l (fun x => !jfB v x.s) _ hl (fun i x hx => vcells_eq v ▸ chas1_c x v _ hb))) ?_
 refine zv2 ?_
 refine zrt ?_
 exact ResQ_1 rfl hcl trivial (Ret_of rfl)

theorem pofN_c (k : Int) (σ : List AO) (h0 : 0 ≤ k) (h1 : k ≤ 1000000000000) : ACalls Tryz.prog 123 [.int .i64 k] σ (Ret (.agg (ncells (ofN k))) σ) := pof_c k σ h0 h1
theorem pcmpJ_c (a b : JNum) (σ : List AO) (ha : JMay a) (hb : JMay b) : ACalls Tryz.prog 75 [.agg (ncells a), .agg (ncells b)] σ (Ret (.int .i64 (pCmp a b)) σ) := pcmp_c a b σ ha.bnd hb.bnd
theorem long_c (n : Int) (k : JV) (cs : List AV) (σ : List AO) (hc : vcells k = cs) (h0 : 0 ≤ n) (h1 : n ≤ 1000000000000) (hk : JMay k.n) : ACalls Tryz.prog 76 [.int .i64 n, .agg cs] σ (Ret (.int .i64 (pCmp (ofN n) k.n)) σ) := by
 refine ACalls_body Tryz.func76 rfl Tryz.ntmps76 (res1 Tryz.results76) (Nat.le_of_ble_eq_true rfl) (fun hcl hal => ?_)
 subst hc
 rw [vcells_eq k]
 refine zw2 ?_
 refine AWp_seq ?_
 refine AWp_drawL #[0, 1, 0, 4, 15, 31] Tryz.mixed (by decide +kernel) (by decide +kernel) ?_
 refine zd1 ?_
 refine yP rfl rfl (zc rfl (pofN_c n _ h0 h1)) (trivial) ?_
 refine zd1 ?_
 refine zp1 ?_
 refine yP rfl rfl (zc rfl (pcmpJ_c (ofN n) k.n _ (ofN_may n) hk)) (trivial) ?_
 refine zd1 ?_
 refine RP.nil rfl ?_
 refine zrt ?_
 exact ResQ_1 rfl hcl trivial (Ret_of rfl)
end Lg
set_option maxRecDepth 20000
set_option maxHeartbeats 4000000
namespace Lg
open Go Go.Proofs Go.RowKit
variable [GLay] 
end Lg
set_option maxRecDepth 20000
set_option maxHeartbeats 4000000
namespace Lg
open Go Go.Proofs Go.RowKit
variable [GLay] 
theorem utf8_c (s : ByteArray) (a : Int) (σ : List AO) (hs : s.size ≤ 140737488355328) (h0 : 0 ≤ a) (ha : a < s.size) : ACalls Tryz.prog 69 [.str s, .int .i64 a] σ (Ret (.int .i64 (u8 s a.toNat : Int)) σ) := by
 refine ACalls_body Tryz.func69 rfl Tryz.ntmps69 (res1 Tryz.results69) (Nat.le_of_ble_eq_true rfl) (fun hcl hal => ?_)
 have c0 := bat_lt s a.toNat
 have c1 := bat_lt s (a.toNat + 1)
 have c2 := bat_lt s (a.toNat + 2)
 have c3 := bat_lt s (a.toNat + 3)
 refine zw1 ?_
 refine zw5 ?_
 refine AWp_seq ?_
 refine zw2 ?_
 refine AWp_cond rfl (fun h1 => ?_) (fun h1 => ?_)
 ·(try rw [h1]); replace h1 := zcl h1
  refine zw1 ?_
  refine zrt ?_
  refine ResQ_10 rfl hcl trivial (Ret_of ?_)
  congr 1
  unfold u8
  first | rw [u8N_1 (by omega)] | rw [u8N_2 (by omega) (by omega)] | rw [u8N_3 (by omega) (by omega) rfl] | rw [u8N_4 (by omega) (by omega) rfl] | rw [u8N_0 (by omega) (by omega)]
  all_goals (try split) <;> omega
 ·(try rw [h1]); replace h1 := zcl h1
  refine AWp_skip ?_
  refine zw1 ?_
  refine zw1 ?_
  refine zw1 ?_
  refine AWp_seq ?_
  refine zu3 ?_
  refine zsp 19 rfl (fun h2 => ?_) fun h2 => ?_
  ·rw [h2]; replace h2 := zcl h2
   refine zv3 ?_
   refine AWp_cond rfl (fun h3 => ?_) (fun h3 => ?_)
   ·(try rw [h3]); replace h3 := zcl h3
    refine zw1 ?_
    refine zw1 ?_
    refine AWp_regL ?_
    refine zv3 ?_
    refine AWp_seq ?_
    refine zw6 ?_
    refine AWp_cond rfl (fun h4 => ?_) (fun h4 => ?_)
    ·(try rw [h4]); replace h4 := zcl h4
     refine zw1 ?_
     refine zrt ?_
     refine ResQ_10 rfl hcl trivial (Ret_of ?_)
     congr 1
     unfold u8
     first | rw [u8N_1 (by omega)] | rw [u8N_2 (by omega) (by omega)] | rw [u8N_3 (by omega) (by omega) rfl] | rw [u8N_4 (by omega) (by omega) rfl] | rw [u8N_0 (by omega) (by omega)]
     all_goals (try split) <;> omega
    ·(try rw [h4]); replace h4 := zcl h4
     refine AWp_skip ?_
     refine AWp_seq ?_
     refine zw1 ?_
     refine AWp_block ?_
     -- loop 0 LIVE 0:param 1:param 4:assign 6:assign 7:assign 8:assign 9:assign
     refine AWp_loop (ι := Nat × Int) (fun p => (p.1 = 1 ∧ p.2 = ((bat s a.toNat).toNat : Int) - 192) ∨ (p.1 = 2 ∧ 128 ≤ ((bat s (a.toNat + 1)).toNat : Int) ∧ ((bat s (a.toNat + 1)).toNat : Int) < 192 ∧ p.2 = (64 * (((bat s a.toNat).toNat : Int) - 192) + (((bat s (a.toNat + 1)).toNat : Int) - 128)))) (fun p => ⟨[], [(0, .str s), (1, .int .i64 a), (6, .int .i64 2), (7, .int .i64 128), (8, .int .i64 p.2), (9, .int .i64 (p.1 : Int))]⟩) (fun p => σ) (fun p => 2 - p.1) ((1, ((bat s a.toNat).toNat : Int) - 192)) (.inl ⟨rfl, rfl⟩) ?_ rfl (fun p hp => ?_)
     ·exact ⟨rfl, rfl, rfl, rfl, rfl, rfl, rfl, trivial⟩
     obtain ⟨i, v⟩ := p
     simp only at hp ⊢
     have ci := bat_lt s (a + (i : Int)).toNat
     have k1 : i = 1 → (bat s (a + (i : Int)).toNat).toNat = (bat s (a.toNat + 1)).toNat := fun h => by rw [h]; congr 2; omega
     have k2 : i = 2 → (bat s (a + (i : Int)).toNat).toNat = (bat s (a.toNat + 2)).toNat := fun h => by rw [h]; congr 2; omega
     have k3 : i = 3 → (bat s (a + (i : Int)).toNat).toNat = (bat s (a.toNat + 3)).toNat := fun h => by rw [h]; congr 2; omega
     refine AWp_seq ?_
     refine zw3 ?_
     refine AWp_cond rfl (fun h5 => ?_) (fun h5 => ?_)
     ·(try rw [h5]); replace h5 := zcl h5
      refine AWp_skip ?_
      refine AWp_seq ?_
      refine AWp_block ?_
      refine zw7 ?_
      refine AWp_seq ?_
      refine zu3 ?_
      refine zsp 60 rfl (fun h6 => ?_) fun h6 => ?_
      ·rw [h6]; replace h6 := zcl h6
       refine zv3 ?_
       refine AWp_condT rfl ?_
       refine zw1 ?_
       refine zrt ?_
       refine ResQ_10 rfl hcl trivial (Ret_of ?_)
       congr 1
       unfold u8
       first | rw [u8N_1 (by omega)] | rw [u8N_2 (by omega) (by omega)] | rw [u8N_3 (by omega) (by omega) rfl] | rw [u8N_4 (by omega) (by omega) rfl] | rw [u8N_0 (by omega) (by omega)]
       all_goals (try split) <;> omega
      ·rw [h6]; replace h6 := zcl h6
       refine zv3 ?_
       refine AWp_cond rfl (fun h7 => ?_) (fun h7 => ?_)
       ·(try rw [h7]); replace h7 := zcl h7
        refine zw1 ?_
        refine zrt ?_
        refine ResQ_10 rfl hcl trivial (Ret_of ?_)
        congr 1
        unfold u8
        first | rw [u8N_1 (by omega)] | rw [u8N_2 (by omega) (by omega)] | rw [u8N_3 (by omega) (by omega) rfl] | rw [u8N_4 (by omega) (by omega) rfl] | rw [u8N_0 (by omega) (by omega)]
        all_goals (try split) <;> omega
       ·(try rw [h7]); replace h7 := zcl h7
        refine AWp_skip ?_
        refine AWp_regL ?_
        refine zv6 ?_
        refine AWp_regL ?_
        refine zv3 ?_
        refine ⟨(i + 1, _), σ.length, ?_, ?_, Nat.le_refl _, ⟨rfl, rfl, rfl, rfl, rfl, rfl, rfl, trivial⟩, hcl, ?_, List.take_length⟩
        ·simp only; omega
        ·simp only; omega
        ·simp [ltE, AV.lt]
     ·(try rw [h5]); replace h5 := zcl h5
      refine AWp_exit ?_
      refine AWp_seq ?_
      refine zu4 ?_
      refine zsp 72 rfl (fun h8 => ?_) fun h8 => ?_
      ·rw [h8]; replace h8 := zcl h8
       refine zg10 ?_
       refine zg1 ?_
       refine zon ?_
       refine AWp_condT rfl ?_
       refine zw1 ?_
       refine zrt ?_
       refine ResQ_10 rfl hcl trivial (Ret_of ?_)
       congr 1
       unfold u8
       first | rw [u8N_1 (by omega)] | rw [u8N_2 (by omega) (by omega)] | rw [u8N_3 (by omega) (by omega) rfl] | rw [u8N_4 (by omega) (by omega) rfl] | rw [u8N_0 (by omega) (by omega)]
       all_goals (try split) <;> omega
      ·rw [h8]; replace h8 := zcl h8
       refine zg4 ?_
       refine zsp 76 rfl (fun h9 => ?_) fun h9 => ?_
       ·rw [h9]; replace h9 := zcl h9
        refine zv7 ?_
        refine AWp_condT rfl ?_
        refine zw1 ?_
        refine zrt ?_
        refine ResQ_10 rfl hcl trivial (Ret_of ?_)
        congr 1
        unfold u8
        first | rw [u8N_1 (by omega)] | rw [u8N_2 (by omega) (by omega)] | rw [u8N_3 (by omega) (by omega) rfl] | rw [u8N_4 (by omega) (by omega) rfl] | rw [u8N_0 (by omega) (by omega)]
        all_goals (try split) <;> omega
       ·rw [h9]; replace h9 := zcl h9
        refine zg3 ?_
        refine zsp 79 rfl (fun h10 => ?_) fun h10 => ?_
        ·rw [h10]; replace h10 := zcl h10
         refine zv4 ?_
         refine AWp_cond rfl (fun h11 => ?_) (fun h11 => ?_)
         ·(try rw [h11]); replace h11 := zcl h11
          refine zw1 ?_
          refine zrt ?_
          refine ResQ_10 rfl hcl trivial (Ret_of ?_)
          congr 1
          unfold u8
          first | rw [u8N_1 (by omega)] | rw [u8N_2 (by omega) (by omega)] | rw [u8N_3 (by omega) (by omega) rfl] | rw [u8N_4 (by omega) (by omega) rfl] | rw [u8N_0 (by omega) (by omega)]
          all_goals (try split) <;> omega
         ·(try rw [h11]); replace h11 := zcl h11
          refine AWp_skip ?_
          refine zw2 ?_
          refine zrt ?_
          refine ResQ_10 rfl hcl trivial (Ret_of ?_)
          congr 1
          unfold u8
          first | rw [u8N_1 (by omega)] | rw [u8N_2 (by omega) (by omega)] | rw [u8N_3 (by omega) (by omega) rfl] | rw [u8N_4 (by omega) (by omega) rfl] | rw [u8N_0 (by omega) (by omega)]
          all_goals (try split) <;> omega
        ·rw [h10]; replace h10 := zcl h10
         refine zv4 ?_
         refine AWp_condF rfl ?_
         refine AWp_skip ?_
         refine zw2 ?_
         refine zrt ?_
         refine ResQ_10 rfl hcl trivial (Ret_of ?_)
         congr 1
         unfold u8
         first | rw [u8N_1 (by omega)] | rw [u8N_2 (by omega) (by omega)] | rw [u8N_3 (by omega) (by omega) rfl] | rw [u8N_4 (by omega) (by omega) rfl] | rw [u8N_0 (by omega) (by omega)]
         all_goals (try split) <;> omega
   ·(try rw [h3]); replace h3 := zcl h3
    refine zu3 ?_
    refine zsp 27 rfl (fun h12 => ?_) fun h12 => ?_
    ·rw [h12]; replace h12 := zcl h12
     refine zv3 ?_
     refine AWp_cond rfl (fun h13 => ?_) (fun h13 => ?_)
     ·(try rw [h13]); replace h13 := zcl h13
      refine zw1 ?_
      refine zw1 ?_
      refine AWp_regL ?_
      refine zv3 ?_
      refine AWp_seq ?_
      refine zw6 ?_
      refine AWp_cond rfl (fun h14 => ?_) (fun h14 => ?_)
      ·(try rw [h14]); replace h14 := zcl h14
       refine zw1 ?_
       refine zrt ?_
       refine ResQ_10 rfl hcl trivial (Ret_of ?_)
       congr 1
       unfold u8
       first | rw [u8N_1 (by omega)] | rw [u8N_2 (by omega) (by omega)] | rw [u8N_3 (by omega) (by omega) rfl] | rw [u8N_4 (by omega) (by omega) rfl] | rw [u8N_0 (by omega) (by omega)]
       all_goals (try split) <;> omega
      ·(try rw [h14]); replace h14 := zcl h14
       refine AWp_skip ?_
       refine AWp_seq ?_
       refine zw1 ?_
       refine AWp_block ?_
       -- loop 1 LIVE 0:param 1:param 4:assign 6:assign 7:assign 8:assign 9:assign
       refine AWp_loop (ι := Nat × Int) (fun p => (p.1 = 1 ∧ p.2 = ((bat s a.toNat).toNat : Int) - 224) ∨ (p.1 = 2 ∧ 128 ≤ ((bat s (a.toNat + 1)).toNat : Int) ∧ ((bat s (a.toNat + 1)).toNat : Int) < 192 ∧ p.2 = (64 * (((bat s a.toNat).toNat : Int) - 224) + (((bat s (a.toNat + 1)).toNat : Int) - 128))) ∨ (p.1 = 3 ∧ 128 ≤ ((bat s (a.toNat + 1)).toNat : Int) ∧ ((bat s (a.toNat + 1)).toNat : Int) < 192 ∧ 128 ≤ ((bat s (a.toNat + 2)).toNat : Int) ∧ ((bat s (a.toNat + 2)).toNat : Int) < 192 ∧ p.2 = (64 * (64 * (((bat s a.toNat).toNat : Int) - 224) + (((bat s (a.toNat + 1)).toNat : Int) - 128)) + (((bat s (a.toNat + 2)).toNat : Int) - 128)))) (fun p => ⟨[], [(0, .str s), (1, .int .i64 a), (6, .int .i64 3), (7, .int .i64 2048), (8, .int .i64 p.2), (9, .int .i64 (p.1 : Int))]⟩) (fun p => σ) (fun p => 3 - p.1) ((1, ((bat s a.toNat).toNat : Int) - 224)) (.inl ⟨rfl, rfl⟩) ?_ rfl (fun p hp => ?_)
       ·exact ⟨rfl, rfl, rfl, rfl, rfl, rfl, rfl, trivial⟩
       obtain ⟨i, v⟩ := p
       simp only at hp ⊢
       have ci := bat_lt s (a + (i : Int)).toNat
       have k1 : i = 1 → (bat s (a + (i : Int)).toNat).toNat = (bat s (a.toNat + 1)).toNat := fun h => by rw [h]; congr 2; omega
       have k2 : i = 2 → (bat s (a + (i : Int)).toNat).toNat = (bat s (a.toNat + 2)).toNat := fun h => by rw [h]; congr 2; omega
       have k3 : i = 3 → (bat s (a + (i : Int)).toNat).toNat = (bat s (a.toNat + 3)).toNat := fun h => by rw [h]; congr 2; omega
       refine AWp_seq ?_
       refine zw3 ?_
       refine AWp_cond rfl (fun h15 => ?_) (fun h15 => ?_)
       ·(try rw [h15]); replace h15 := zcl h15
        refine AWp_skip ?_
        refine AWp_seq ?_
        refine AWp_block ?_
        refine zw7 ?_
        refine AWp_seq ?_
        refine zu3 ?_
        refine zsp 60 rfl (fun h16 => ?_) fun h16 => ?_
        ·rw [h16]; replace h16 := zcl h16
         refine zv3 ?_
         refine AWp_condT rfl ?_
         refine zw1 ?_
         refine zrt ?_
         refine ResQ_10 rfl hcl trivial (Ret_of ?_)
         congr 1
         unfold u8
         first | rw [u8N_1 (by omega)] | rw [u8N_2 (by omega) (by omega)] | rw [u8N_3 (by omega) (by omega) rfl] | rw [u8N_4 (by omega) (by omega) rfl] | rw [u8N_0 (by omega) (by omega)]
         all_goals (try split) <;> omega
        ·rw [h16]; replace h16 := zcl h16
         refine zv3 ?_
         refine AWp_cond rfl (fun h17 => ?_) (fun h17 => ?_)
         ·(try rw [h17]); replace h17 := zcl h17
          refine zw1 ?_
          refine zrt ?_
          refine ResQ_10 rfl hcl trivial (Ret_of ?_)
          congr 1
          unfold u8
          first | rw [u8N_1 (by omega)] | rw [u8N_2 (by omega) (by omega)] | rw [u8N_3 (by omega) (by omega) rfl] | rw [u8N_4 (by omega) (by omega) rfl] | rw [u8N_0 (by omega) (by omega)]
          all_goals (try split) <;> omega
         ·(try rw [h17]); replace h17 := zcl h17
          refine AWp_skip ?_
          refine AWp_regL ?_
          refine zv6 ?_
          refine AWp_regL ?_
          refine zv3 ?_
          refine ⟨(i + 1, _), σ.length, ?_, ?_, Nat.le_refl _, ⟨rfl, rfl, rfl, rfl, rfl, rfl, rfl, trivial⟩, hcl, ?_, List.take_length⟩
          ·simp only; omega
          ·simp only; omega
          ·simp [ltE, AV.lt]
       ·(try rw [h15]); replace h15 := zcl h15
        refine AWp_exit ?_
        refine AWp_seq ?_
        refine zu4 ?_
        refine zsp 72 rfl (fun h18 => ?_) fun h18 => ?_
        ·rw [h18]; replace h18 := zcl h18
         refine zg10 ?_
         refine zg1 ?_
         refine zon ?_
         refine AWp_condT rfl ?_
         refine zw1 ?_
         refine zrt ?_
         refine ResQ_10 rfl hcl trivial (Ret_of ?_)
         congr 1
         unfold u8
         first | rw [u8N_1 (by omega)] | rw [u8N_2 (by omega) (by omega)] | rw [u8N_3 (by omega) (by omega) rfl] | rw [u8N_4 (by omega) (by omega) rfl] | rw [u8N_0 (by omega) (by omega)]
         all_goals (try split) <;> omega
        ·rw [h18]; replace h18 := zcl h18
         refine zg4 ?_
         refine zsp 76 rfl (fun h19 => ?_) fun h19 => ?_
         ·rw [h19]; replace h19 := zcl h19
          refine zv7 ?_
          refine AWp_condT rfl ?_
          refine zw1 ?_
          refine zrt ?_
          refine ResQ_10 rfl hcl trivial (Ret_of ?_)
          congr 1
          unfold u8
          first | rw [u8N_1 (by omega)] | rw [u8N_2 (by omega) (by omega)] | rw [u8N_3 (by omega) (by omega) rfl] | rw [u8N_4 (by omega) (by omega) rfl] | rw [u8N_0 (by omega) (by omega)]
          all_goals (try split) <;> omega
         ·rw [h19]; replace h19 := zcl h19
          refine zg3 ?_
          refine zsp 79 rfl (fun h20 => ?_) fun h20 => ?_
          ·rw [h20]; replace h20 := zcl h20
           refine zv4 ?_
           refine AWp_cond rfl (fun h21 => ?_) (fun h21 => ?_)
           ·(try rw [h21]); replace h21 := zcl h21
            refine zw1 ?_
            refine zrt ?_
            refine ResQ_10 rfl hcl trivial (Ret_of ?_)
            congr 1
            unfold u8
            first | rw [u8N_1 (by omega)] | rw [u8N_2 (by omega) (by omega)] | rw [u8N_3 (by omega) (by omega) rfl] | rw [u8N_4 (by omega) (by omega) rfl] | rw [u8N_0 (by omega) (by omega)]
            all_goals (try split) <;> omega
           ·(try rw [h21]); replace h21 := zcl h21
            refine AWp_skip ?_
            refine zw2 ?_
            refine zrt ?_
            refine ResQ_10 rfl hcl trivial (Ret_of ?_)
            congr 1
            unfold u8
            first | rw [u8N_1 (by omega)] | rw [u8N_2 (by omega) (by omega)] | rw [u8N_3 (by omega) (by omega) rfl] | rw [u8N_4 (by omega) (by omega) rfl] | rw [u8N_0 (by omega) (by omega)]
            all_goals (try split) <;> omega
          ·rw [h20]; replace h20 := zcl h20
           refine zv4 ?_
           refine AWp_condF rfl ?_
           refine AWp_skip ?_
           refine zw2 ?_
           refine zrt ?_
           refine ResQ_10 rfl hcl trivial (Ret_of ?_)
           congr 1
           unfold u8
           first | rw [u8N_1 (by omega)] | rw [u8N_2 (by omega) (by omega)] | rw [u8N_3 (by omega) (by omega) rfl] | rw [u8N_4 (by omega) (by omega) rfl] | rw [u8N_0 (by omega) (by omega)]
           all_goals (try split) <;> omega
     ·(try rw [h13]); replace h13 := zcl h13
      refine zu3 ?_
      refine zsp 35 rfl (fun h22 => ?_) fun h22 => ?_
      ·rw [h22]; replace h22 := zcl h22
       refine zv3 ?_
       refine AWp_cond rfl (fun h23 => ?_) (fun h23 => ?_)
       ·(try rw [h23]); replace h23 := zcl h23
        refine zw1 ?_
        refine zw1 ?_
        refine AWp_regL ?_
        refine zv3 ?_
        refine AWp_seq ?_
        refine zw6 ?_
        refine AWp_cond rfl (fun h24 => ?_) (fun h24 => ?_)
        ·(try rw [h24]); replace h24 := zcl h24
         refine zw1 ?_
         refine zrt ?_
         refine ResQ_10 rfl hcl trivial (Ret_of ?_)
         congr 1
         unfold u8
         first | rw [u8N_1 (by omega)] | rw [u8N_2 (by omega) (by omega)] | rw [u8N_3 (by omega) (by omega) rfl] | rw [u8N_4 (by omega) (by omega) rfl] | rw [u8N_0 (by omega) (by omega)]
         all_goals (try split) <;> omega
        ·(try rw [h24]); replace h24 := zcl h24
         refine AWp_skip ?_
         refine AWp_seq ?_
         refine zw1 ?_
         refine AWp_block ?_
         -- loop 2 LIVE 0:param 1:param 4:assign 6:assign 7:assign 8:assign 9:assign
         refine AWp_loop (ι := Nat × Int) (fun p => (p.1 = 1 ∧ p.2 = ((bat s a.toNat).toNat : Int) - 240) ∨ (p.1 = 2 ∧ 128 ≤ ((bat s (a.toNat + 1)).toNat : Int) ∧ ((bat s (a.toNat + 1)).toNat : Int) < 192 ∧ p.2 = (64 * (((bat s a.toNat).toNat : Int) - 240) + (((bat s (a.toNat + 1)).toNat : Int) - 128))) ∨ (p.1 = 3 ∧ 128 ≤ ((bat s (a.toNat + 1)).toNat : Int) ∧ ((bat s (a.toNat + 1)).toNat : Int) < 192 ∧ 128 ≤ ((bat s (a.toNat + 2)).toNat : Int) ∧ ((bat s (a.toNat + 2)).toNat : Int) < 192 ∧ p.2 = (64 * (64 * (((bat s a.toNat).toNat : Int) - 240) + (((bat s (a.toNat + 1)).toNat : Int) - 128)) + (((bat s (a.toNat + 2)).toNat : Int) - 128))) ∨ (p.1 = 4 ∧ 128 ≤ ((bat s (a.toNat + 1)).toNat : Int) ∧ ((bat s (a.toNat + 1)).toNat : Int) < 192 ∧ 128 ≤ ((bat s (a.toNat + 2)).toNat : Int) ∧ ((bat s (a.toNat + 2)).toNat : Int) < 192 ∧ 128 ≤ ((bat s (a.toNat + 3)).toNat : Int) ∧ ((bat s (a.toNat + 3)).toNat : Int) < 192 ∧ p.2 = (64 * (64 * (64 * (((bat s a.toNat).toNat : Int) - 240) + (((bat s (a.toNat + 1)).toNat : Int) - 128)) + (((bat s (a.toNat + 2)).toNat : Int) - 128)) + (((bat s (a.toNat + 3)).toNat : Int) - 128)))) (fun p => ⟨[], [(0, .str s), (1, .int .i64 a), (6, .int .i64 4), (7, .int .i64 65536), (8, .int .i64 p.2), (9, .int .i64 (p.1 : Int))]⟩) (fun p => σ) (fun p => 4 - p.1) ((1, ((bat s a.toNat).toNat : Int) - 240)) (.inl ⟨rfl, rfl⟩) ?_ rfl (fun p hp => ?_)
         ·exact ⟨rfl, rfl, rfl, rfl, rfl, rfl, rfl, trivial⟩
         obtain ⟨i, v⟩ := p
         simp only at hp ⊢
         have ci := bat_lt s (a + (i : Int)).toNat
         have k1 : i = 1 → (bat s (a + (i : Int)).toNat).toNat = (bat s (a.toNat + 1)).toNat := fun h => by rw [h]; congr 2; omega
         have k2 : i = 2 → (bat s (a + (i : Int)).toNat).toNat = (bat s (a.toNat + 2)).toNat := fun h => by rw [h]; congr 2; omega
         have k3 : i = 3 → (bat s (a + (i : Int)).toNat).toNat = (bat s (a.toNat + 3)).toNat := fun h => by rw [h]; congr 2; omega
         refine AWp_seq ?_
         refine zw3 ?_
         refine AWp_cond rfl (fun h25 => ?_) (fun h25 => ?_)
         ·(try rw [h25]); replace h25 := zcl h25
          refine AWp_skip ?_
          refine AWp_seq ?_
          refine AWp_block ?_
          refine zw7 ?_
          refine AWp_seq ?_
          refine zu3 ?_
          refine zsp 60 rfl (fun h26 => ?_) fun h26 => ?_
          ·rw [h26]; replace h26 := zcl h26
           refine zv3 ?_
           refine AWp_condT rfl ?_
           refine zw1 ?_
           refine zrt ?_
           refine ResQ_10 rfl hcl trivial (Ret_of ?_)
           congr 1
           unfold u8
           first | rw [u8N_1 (by omega)] | rw [u8N_2 (by omega) (by omega)] | rw [u8N_3 (by omega) (by omega) rfl] | rw [u8N_4 (by omega) (by omega) rfl] | rw [u8N_0 (by omega) (by omega)]
           all_goals (try split) <;> omega
          ·rw [h26]; replace h26 := zcl h26
           refine zv3 ?_
           refine AWp_cond rfl (fun h27 => ?_) (fun h27 => ?_)
           ·(try rw [h27]); replace h27 := zcl h27
            refine zw1 ?_
            refine zrt ?_
            refine ResQ_10 rfl hcl trivial (Ret_of ?_)
            congr 1
            unfold u8
            first | rw [u8N_1 (by omega)] | rw [u8N_2 (by omega) (by omega)] | rw [u8N_3 (by omega) (by omega) rfl] | rw [u8N_4 (by omega) (by omega) rfl] | rw [u8N_0 (by omega) (by omega)]
            all_goals (try split) <;> omega
           ·(try rw [h27]); replace h27 := zcl h27
            refine AWp_skip ?_
            refine AWp_regL ?_
            refine zv6 ?_
            refine AWp_regL ?_
            refine zv3 ?_
            refine ⟨(i + 1, _), σ.length, ?_, ?_, Nat.le_refl _, ⟨rfl, rfl, rfl, rfl, rfl, rfl, rfl, trivial⟩, hcl, ?_, List.take_length⟩
            ·simp only; omega
            ·simp only; omega
            ·simp [ltE, AV.lt]
         ·(try rw [h25]); replace h25 := zcl h25
          refine AWp_exit ?_
          refine AWp_seq ?_
          refine zu4 ?_
          refine zsp 72 rfl (fun h28 => ?_) fun h28 => ?_
          ·rw [h28]; replace h28 := zcl h28
           refine zg10 ?_
           refine zg1 ?_
           refine zon ?_
           refine AWp_condT rfl ?_
           refine zw1 ?_
           refine zrt ?_
           refine ResQ_10 rfl hcl trivial (Ret_of ?_)
           congr 1
           unfold u8
           first | rw [u8N_1 (by omega)] | rw [u8N_2 (by omega) (by omega)] | rw [u8N_3 (by omega) (by omega) rfl] | rw [u8N_4 (by omega) (by omega) rfl] | rw [u8N_0 (by omega) (by omega)]
           all_goals (try split) <;> omega
          ·rw [h28]; replace h28 := zcl h28
           refine zg4 ?_
           refine zsp 76 rfl (fun h29 => ?_) fun h29 => ?_
           ·rw [h29]; replace h29 := zcl h29
            refine zv7 ?_
            refine AWp_condT rfl ?_
            refine zw1 ?_
            refine zrt ?_
            refine ResQ_10 rfl hcl trivial (Ret_of ?_)
            congr 1
            unfold u8
            first | rw [u8N_1 (by omega)] | rw [u8N_2 (by omega) (by omega)] | rw [u8N_3 (by omega) (by omega) rfl] | rw [u8N_4 (by omega) (by omega) rfl] | rw [u8N_0 (by omega) (by omega)]
            all_goals (try split) <;> omega
           ·rw [h29]; replace h29 := zcl h29
            refine zg3 ?_
            refine zsp 79 rfl (fun h30 => ?_) fun h30 => ?_
            ·rw [h30]; replace h30 := zcl h30
             refine zv4 ?_
             refine AWp_cond rfl (fun h31 => ?_) (fun h31 => ?_)
             ·(try rw [h31]); replace h31 := zcl h31
              refine zw1 ?_
              refine zrt ?_
              refine ResQ_10 rfl hcl trivial (Ret_of ?_)
              congr 1
              unfold u8
              first | rw [u8N_1 (by omega)] | rw [u8N_2 (by omega) (by omega)] | rw [u8N_3 (by omega) (by omega) rfl] | rw [u8N_4 (by omega) (by omega) rfl] | rw [u8N_0 (by omega) (by omega)]
              all_goals (try split) <;> omega
             ·(try rw [h31]); replace h31 := zcl h31
              refine AWp_skip ?_
              refine zw2 ?_
              refine zrt ?_
              refine ResQ_10 rfl hcl trivial (Ret_of ?_)
              congr 1
              unfold u8
              first | rw [u8N_1 (by omega)] | rw [u8N_2 (by omega) (by omega)] | rw [u8N_3 (by omega) (by omega) rfl] | rw [u8N_4 (by omega) (by omega) rfl] | rw [u8N_0 (by omega) (by omega)]
              all_goals (try split) <;> omega
            ·rw [h30]; replace h30 := zcl h30
             refine zv4 ?_
             refine AWp_condF rfl ?_
             refine AWp_skip ?_
             refine zw2 ?_
             refine zrt ?_
             refine ResQ_10 rfl hcl trivial (Ret_of ?_)
             congr 1
             unfold u8
             first | rw [u8N_1 (by omega)] | rw [u8N_2 (by omega) (by omega)] | rw [u8N_3 (by omega) (by omega) rfl] | rw [u8N_4 (by omega) (by omega) rfl] | rw [u8N_0 (by omega) (by omega)]
             all_goals (try split) <;> omega
       ·(try rw [h23]); replace h23 := zcl h23
        refine zw1 ?_
        refine zrt ?_
        refine ResQ_10 rfl hcl trivial (Ret_of ?_)
        congr 1
        unfold u8
        first | rw [u8N_1 (by omega)] | rw [u8N_2 (by omega) (by omega)] | rw [u8N_3 (by omega) (by omega) rfl] | rw [u8N_4 (by omega) (by omega) rfl] | rw [u8N_0 (by omega) (by omega)]
        all_goals (try split) <;> omega
      ·rw [h22]; replace h22 := zcl h22
       exfalso; omega
    ·rw [h12]; replace h12 := zcl h12
     exfalso; omega
  ·rw [h2]; replace h2 := zcl h2
   refine zv3 ?_
   refine AWp_condF rfl ?_
   refine zu3 ?_
   refine zsp 27 rfl (fun h32 => ?_) fun h32 => ?_
   ·rw [h32]; replace h32 := zcl h32
    exfalso; omega
   ·rw [h32]; replace h32 := zcl h32
    refine zv3 ?_
    refine AWp_condF rfl ?_
    refine zu3 ?_
    refine zsp 35 rfl (fun h33 => ?_) fun h33 => ?_
    ·rw [h33]; replace h33 := zcl h33
     exfalso; omega
    ·rw [h33]; replace h33 := zcl h33
     refine zv3 ?_
     refine AWp_condF rfl ?_
     refine zw1 ?_
     refine zrt ?_
     refine ResQ_10 rfl hcl trivial (Ret_of ?_)
     congr 1
     unfold u8
     first | rw [u8N_1 (by omega)] | rw [u8N_2 (by omega) (by omega)] | rw [u8N_3 (by omega) (by omega) rfl] | rw [u8N_4 (by omega) (by omega) rfl] | rw [u8N_0 (by omega) (by omega)]
     all_goals (try split) <;> omega

end Lg
set_option maxRecDepth 20000
set_option maxHeartbeats 4000000
namespace Lg
open Go Go.Proofs Go.RowKit
variable [GLay] 
end Lg
set_option maxRecDepth 20000
set_option maxHeartbeats 4000000
namespace Lg
open Go Go.Proofs Go.RowKit
variable [GLay] 
theorem rk8 {n : ByteArray} (h1 : ¬ n = ⟨#[105, 116, 101, 109, 115]⟩) (h2 : ¬ n = ⟨#[97, 100, 100, 105, 116, 105, 111, 110, 97, 108, 80, 114, 111, 112, 101, 114, 116, 105, 101, 115]⟩) : decide (n = ⟨#[110, 111, 116]⟩) = decide (rk n = 8) := by
  by_cases h3 : n = ⟨#[110, 111, 116]⟩
  · subst h3; decide +kernel
  · rw [decide_eq_false h3]
    symm
    rw [decide_eq_false_iff_not]
    intro hk
    unfold rk at hk
    cases h : kwL.find? fun q => decide (n = q.1) with
    | none => rw [h] at hk; simp at hk
    | some q =>
      rw [h] at hk
      have hm := List.mem_of_find?_eq_some h
      have hq := List.find?_some h
      simp only [decide_eq_true_eq] at hq
      simp only [Option.map_some, Option.getD_some] at hk
      have : ∀ q ∈ kwL, q.2 = 8 → q.1 = ⟨#[105, 116, 101, 109, 115]⟩ ∨ q.1 = ⟨#[97, 100, 100, 105, 116, 105, 111, 110, 97, 108, 80, 114, 111, 112, 101, 114, 116, 105, 101, 115]⟩ ∨ q.1 = ⟨#[110, 111, 116]⟩ := by decide +kernel
      rcases this q hm hk with e | e | e
      · exact h1 (hq.trans e)
      · exact h2 (hq.trans e)
      · exact h3 (hq.trans e)
end Lg
set_option maxRecDepth 20000
set_option maxHeartbeats 4000000
namespace Lg
open Go Go.Proofs Go.RowKit
variable [GLay] 
theorem rtxt_c (v : JV) (σ : List AO) (hl : v.l.length ≤ 1000000000) : ACalls Tryz.prog 106 [.agg (vcells v)] σ (Ret (.bool (txB v)) σ) := by
 refine ACalls_body Tryz.func106 rfl Tryz.ntmps106 (res1 Tryz.results106) (Nat.le_of_ble_eq_true rfl) (fun hcl hal => ?_)
 rw [vcells_eq v]
 have hll := lcells_length v.l
 refine zw2 ?_
 refine AWp_seq ?_
 refine zw1 ?_
 refine AWp_block ?_
 -- loop 0 LIVE 1:box 2:assign 3:assign
 refine AWp_loop (ι := Nat) (fun i => i ≤ v.l.length ∧ txI v.l i) (fun i => ⟨[], [(1, .ptr (σ.length + 0) 0), (3, .int .i64 (i : Int))]⟩) (fun i => σ ++ [_]) (fun i => v.l.length - i) (0) (⟨Nat.zero_le _, fun a x h => absurd h (by omega)⟩) ?_ rfl (fun i hi => ?_)
 ·exact ⟨rfl, rfl, rfl, trivial⟩
 obtain ⟨hi1, hi2⟩ := hi
 refine AWp_seq ?_
 refine zw5 ?_
 refine AWp_cond rfl (fun h1 => ?_) (fun h1 => ?_)
 ·(try rw [h1]); replace h1 := zcl h1
  obtain ⟨x, hx⟩ : ∃ x, v.l[i]? = some x := ⟨_, List.getElem?_eq_getElem (show i < v.l.length by omega)⟩
  refine AWp_skip ?_
  refine AWp_seq ?_
  refine AWp_block ?_
  refine AWp_seq ?_
  refine zw1 ?_
  refine AWp_block ?_
  -- loop 1 LIVE 1:box 2:assign 3:assign 4:assign
  refine AWp_loop (ι := Nat) (fun k => k ≤ i ∧ ∀ (b : Nat) y, b < k → v.l[b]? = some y → ¬ x.s = y.s) (fun k => ⟨[], [(1, .ptr (σ.length + 0) 0), (3, .int .i64 (i : Int)), (4, .int .i64 (k : Int))]⟩) (fun k => σ ++ [_]) (fun k => i - k) (0) (⟨Nat.zero_le _, fun b y h => absurd h (by omega)⟩) ?_ rfl (fun k hk => ?_)
  ·exact ⟨rfl, rfl, rfl, rfl, trivial⟩
  obtain ⟨hk1, hk2⟩ := hk
  refine AWp_seq ?_
  refine zw3 ?_
  refine AWp_cond rfl (fun h2 => ?_) (fun h2 => ?_)
  ·(try rw [h2]); replace h2 := zcl h2
   obtain ⟨y, hy⟩ : ∃ y, v.l[k]? = some y := ⟨_, List.getElem?_eq_getElem (show k < v.l.length by omega)⟩
   refine AWp_skip ?_
   refine AWp_seq ?_
   refine AWp_block ?_
   refine AWp_seq ?_
   refine AWp_drawL #[0, 1, 0, 7, 15, 31, 0, 64, 0, 448, 960, 1984, 4095] Tryz.mixed (by decide +kernel) (by decide +kernel) ?_
   refine zd1 ?_
   refine zp1 ?_
   refine zd2 ?_
   rw [vcells_eq x]
   refine zd1 ?_
   refine zp1 ?_
   refine zd1 ?_
   refine zp1 ?_
   refine zd2 ?_
   rw [vcells_eq y]
   refine zd1 ?_
   refine zp1 ?_
   refine zd1 ?_
   refine RP.nil rfl ?_
   refine AWp_cond rfl (fun h3 => ?_) (fun h3 => ?_)
   ·(try rw [h3]); replace h3 := zcl h3
    refine zw1 ?_
    refine zrt ?_
    refine ResQ_1 rfl hcl trivial (Ret_of ?_)
    congr 1; unfold txB; rw [pb_f (fun h => (h i x (by omega) hx).2 k y (by omega) hy h3)]; rfl
   ·(try rw [h3]); replace h3 := zcl h3
    refine AWp_skip ?_
    refine AWp_regL ?_
    refine zv3 ?_
    refine ⟨k + 1, σ.length + 1, ⟨by omega, fun b z hb hz => ?_⟩, by omega, by simp, ⟨rfl, rfl, rfl, rfl, trivial⟩, closed_own 1 hcl ?_, ?_, take_own 1⟩
    ·by_cases e : b = k
     ·subst e; rw [hy] at hz; cases hz; exact h3
     ·exact hk2 b z (by omega) hz
    ·simp [ownLt, AO.cells, AV.ltL, AV.lt]
    ·simp [ltE, AV.lt]
  ·(try rw [h2]); replace h2 := zcl h2
   refine AWp_exit ?_
   refine zu4 ?_
   rw [vcells_eq x]
   refine zv3 ?_
   refine AWp_cond rfl (fun h4 => ?_) (fun h4 => ?_)
   ·(try rw [h4]); replace h4 := zcl h4
    refine zw1 ?_
    refine zrt ?_
    refine ResQ_1 rfl hcl trivial (Ret_of ?_)
    congr 1; unfold txB; rw [pb_f (fun h => h4 (h i x (by omega) hx).1)]; rfl
   ·(try rw [h4]); replace h4 := zcl h4
    refine AWp_skip ?_
    refine AWp_regL ?_
    refine zv3 ?_
    refine ⟨i + 1, σ.length + 1, ⟨by omega, txI_step hi2 hx h4 (fun b y hb hy => hk2 b y (by omega) hy)⟩, by omega, by simp, ⟨rfl, rfl, rfl, trivial⟩, closed_own 1 hcl ?_, ?_, take_own 1⟩
    ·simp [ownLt, AO.cells, AV.ltL, AV.lt]
    ·simp [ltE, AV.lt]
 ·(try rw [h1]); replace h1 := zcl h1
  refine AWp_exit ?_
  refine zw4 ?_
  refine zrt ?_
  refine ResQ_1 rfl hcl trivial (Ret_of ?_)
  congr 1; unfold txB; rw [pb_t (show txI v.l v.l.length by rw [← show i = v.l.length by omega]; exact hi2)]; rfl

theorem rtyp_c (v : JV) (σ : List AO) : ACalls Tryz.prog 107 [.agg (vcells v)] σ (Ret (.bool (tyB v)) σ) := by
 refine ACalls_body Tryz.func107 rfl Tryz.ntmps107 (res1 Tryz.results107) (Nat.le_of_ble_eq_true rfl) (fun hcl hal => ?_)
 rw [vcells_eq v]
 have h7 : (tyL.map fun x => [AV.str x]).length = 7 := rfl
 have h7l : tyL.length = 7 := rfl
 refine zw2 ?_
 refine zsr ?_
 refine zt rfl (op_buildSlice [[_], [_], [_], [_], [_], [_], [_]] rfl Tryz.underlying48 Tryz.sizeOf9 Tryz.zeroValue9 rfl (by decide) (by decide) rfl rfl rfl rfl rfl) ?_
 refine zv1 ?_
 refine AWp_seq ?_
 refine zw1 ?_
 refine AWp_block ?_
 -- loop 0 LIVE 1:box 2:assign 3:assign 4:assign
 refine AWp_loop (ι := Nat) (fun i => i ≤ 7 ∧ ∀ (j : Nat) t, j < i → tyL[j]? = some t → ¬ (v.kind = 3 ∧ v.s = t)) (fun i => ⟨[], [(1, .ptr (σ.length + 0) 0), (3, .sl true 1 (tyL.map fun x => [AV.str x])), (4, .int .i64 (i : Int))]⟩) (fun i => σ ++ [_]) (fun i => 7 - i) (0) (⟨Nat.zero_le _, fun j t h => absurd h (by omega)⟩) ?_ rfl (fun i hi => ?_)
 ·exact ⟨rfl, rfl, rfl, rfl, trivial⟩
 obtain ⟨hi1, hi2⟩ := hi
 refine AWp_seq ?_
 refine zw4 ?_
 refine AWp_cond rfl (fun h1 => ?_) (fun h1 => ?_)
 ·(try rw [h1]); replace h1 := zcl h1
  obtain ⟨t, ht⟩ : ∃ t, tyL[i]? = some t := ⟨_, List.getElem?_eq_getElem (show i < tyL.length by omega)⟩
  have htr : (tyL.map fun x => [AV.str x])[i]? = some [.str t] := by rw [List.getElem?_map, ht]; rfl
  refine AWp_skip ?_
  refine AWp_seq ?_
  refine AWp_block ?_
  refine AWp_seq ?_
  refine AWp_drawL #[0, 1, 3, 7, 15, 31, 15, 15, 207, 463, 1023, 2047] Tryz.mixed (by decide +kernel) (by decide +kernel) ?_
  refine zd1 ?_
  refine zp1 ?_
  refine zd2 ?_
  refine zspr 15 rfl (fun h2 => ?_) fun h2 => ?_
  ·rw [h2]; replace h2 := zcl h2
   refine zd1 ?_
   refine zp1 ?_
   refine zd2 ?_
   refine yAG rfl rfl rfl (fun _ => op_indexAddr rfl Tryz.underlying48 Tryz.sizeOf9 rfl rfl (by omega) (htr)) ?_
   refine zp1 ?_
   refine zd2 ?_
   refine RP.nil rfl ?_
   refine AWp_cond rfl (fun h3 => ?_) (fun h3 => ?_)
   ·(try rw [h3]); replace h3 := zcl h3
    refine zw1 ?_
    refine zrt ?_
    refine ResQ_1 rfl hcl trivial (Ret_of ?_)
    congr 1; symm; unfold tyB; rw [decide_eq_true h2, Bool.true_and, List.any_eq_true]; exact ⟨t, List.mem_of_getElem? ht, by simpa using h3⟩
   ·(try rw [h3]); replace h3 := zcl h3
    refine AWp_skip ?_
    refine AWp_regL ?_
    refine zv3 ?_
    refine ⟨i + 1, σ.length + 1, ⟨by omega, fun j u hj hu hc => ?_⟩, by omega, by simp, ⟨rfl, rfl, rfl, rfl, trivial⟩, closed_own 1 hcl ?_, ?_, take_own 1⟩
    ·by_cases e : j = i
     ·subst e; rw [ht] at hu; cases hu; first | exact h3 hc.2 | exact h2 hc.1
     ·exact hi2 j u (by omega) hu hc
    ·simp [ownLt, AO.cells, AV.ltL, AV.lt]
    ·simp [ltE, AV.lt, ltLL_str]
  ·rw [h2]; replace h2 := zcl h2
   refine zd8 ?_
   refine RP.nil rfl ?_
   refine AWp_condF rfl ?_
   refine AWp_skip ?_
   refine AWp_regL ?_
   refine zv3 ?_
   refine ⟨i + 1, σ.length + 1, ⟨by omega, fun j u hj hu hc => ?_⟩, by omega, by simp, ⟨rfl, rfl, rfl, rfl, trivial⟩, closed_own 1 hcl ?_, ?_, take_own 1⟩
   ·by_cases e : j = i
    ·subst e; rw [ht] at hu; cases hu; first | exact h3 hc.2 | exact h2 hc.1
    ·exact hi2 j u (by omega) hu hc
   ·simp [ownLt, AO.cells, AV.ltL, AV.lt]
   ·simp [ltE, AV.lt, ltLL_str]
 ·(try rw [h1]); replace h1 := zcl h1
  refine AWp_exit ?_
  refine zw1 ?_
  refine zrt ?_
  refine ResQ_1 rfl hcl trivial (Ret_of ?_)
  congr 1; symm; unfold tyB
  by_cases h : v.kind = 3
  ·rw [decide_eq_true h, Bool.true_and, List.any_eq_false]
   intro t ht
   obtain ⟨j, hj⟩ := List.getElem?_of_mem ht
   have := hi2 j t (by have := (List.getElem?_eq_some_iff.1 hj).1; omega) hj
   simp only [decide_eq_true_eq]; exact fun e => this ⟨h, e⟩
  ·rw [decide_eq_false h]; rfl

theorem rsch_c (v : JV) (σ : List AO) : ACalls Tryz.prog 38 [.agg (vcells v)] σ (Ret (.bool (schB v)) σ) := by
 refine ACalls_body Tryz.func38 rfl Tryz.ntmps38 (res1 Tryz.results38) (Nat.le_of_ble_eq_true rfl) (fun hcl hal => ?_)
 rw [vcells_eq v]
 refine zw2 ?_
 refine zu4 ?_
 refine zsp 6 rfl (fun h1 => ?_) fun h1 => ?_
 ·rw [h1]; replace h1 := zcl h1
  refine zv5 ?_
  refine zrt ?_
  refine ResQ_1 rfl hcl trivial (Ret_of ?_)
  congr 1; simp [schB, *]
 ·rw [h1]; replace h1 := zcl h1
  refine zv5 ?_
  refine zrt ?_
  refine ResQ_1 rfl hcl trivial (Ret_of ?_)
  congr 1; simp [schB, *]

theorem rall_c (m : List (ByteArray × JV)) (σ : List AO) (hm : m.length ≤ 1000000000) : ACalls Tryz.prog 109 [.sl false 9 (mcells m)] σ (Ret (.bool (m.all fun q => schB q.2)) σ) := by
 refine ACalls_body Tryz.func109 rfl Tryz.ntmps109 (res1 Tryz.results109) (Nat.le_of_ble_eq_true rfl) (fun hcl hal => ?_)
 have hml := mcells_length m
 refine zw1 ?_
 refine AWp_seq ?_
 refine zw1 ?_
 refine AWp_block ?_
 -- loop 0 LIVE 0:param 2:assign 3:assign
 refine AWp_loop (ι := Nat) (fun i => i ≤ m.length ∧ ∀ (j : Nat) q, j < i → m[j]? = some q → schB q.2 = true) (fun i => ⟨[], [(0, .sl false 9 (mcells m)), (3, .int .i64 (i : Int))]⟩) (fun i => σ) (fun i => m.length - i) (0) (⟨Nat.zero_le _, fun j q h => absurd h (by omega)⟩) ?_ rfl (fun i hi => ?_)
 ·exact ⟨rfl, rfl, rfl, trivial⟩
 obtain ⟨hi1, hi2⟩ := hi
 refine AWp_seq ?_
 refine zw4 ?_
 refine AWp_cond rfl (fun h1 => ?_) (fun h1 => ?_)
 ·(try rw [h1]); replace h1 := zcl h1
  obtain ⟨q, hq⟩ : ∃ q, m[i]? = some q := ⟨_, List.getElem?_eq_getElem (show i < m.length by omega)⟩
  refine AWp_skip ?_
  refine AWp_seq ?_
  refine AWp_block ?_
  refine zu3 ?_
  rw [vcells_eq q.2]
  refine zg2 ?_
  refine zt rfl (zc rfl (vcells_eq q.2 ▸ rsch_c q.2 _)) ?_
  refine zv1 ?_
  refine zw2 ?_
  refine AWp_cond rfl (fun h2 => ?_) (fun h2 => ?_)
  ·(try rw [h2]); replace h2 := zcl h2
   refine zw1 ?_
   refine zrt ?_
   refine ResQ_10 rfl hcl trivial (Ret_of ?_)
   congr 1; symm; rw [List.all_eq_false]; exact ⟨q, List.mem_of_getElem? hq, by simpa using h2⟩
  ·(try rw [h2]); replace h2 := zcl h2
   refine AWp_skip ?_
   refine AWp_regL ?_
   refine zv3 ?_
   refine ⟨i + 1, σ.length, ⟨by omega, fun j u hj hu => ?_⟩, by omega, Nat.le_refl _, ⟨rfl, rfl, rfl, trivial⟩, hcl, ?_, List.take_length⟩
   ·by_cases e : j = i
    ·subst e; rw [hq] at hu; cases hu; simpa using h2
    ·exact hi2 j u (by omega) hu
   ·simp [ltE, AV.lt]
 ·(try rw [h1]); replace h1 := zcl h1
  refine AWp_exit ?_
  refine zw1 ?_
  refine zrt ?_
  refine ResQ_10 rfl hcl trivial (Ret_of ?_)
  congr 1; symm; rw [List.all_eq_true]; intro q hq; obtain ⟨j, hj⟩ := List.getElem?_of_mem hq; exact hi2 j q (by have := (List.getElem?_eq_some_iff.1 hj).1; omega) hj

theorem rsingle_c (name : ByteArray) (σ : List AO) : ACalls Tryz.prog 68 [.str name] σ (Ret (.bool (decide (rk name = 8))) σ) := by
 refine ACalls_body Tryz.func68 rfl Tryz.ntmps68 (res1 Tryz.results68) (Nat.le_of_ble_eq_true rfl) (fun hcl hal => ?_)
 refine zw1 ?_
 refine zu3 ?_
 refine zsp 5 rfl (fun h1 => ?_) fun h1 => ?_
 ·rw [h1]; replace h1 := zcl h1
  refine zv8 ?_
  refine zrt ?_
  refine ResQ_10 rfl hcl trivial (Ret_of ?_)
  subst h1; first | rfl | (congr 1; decide +kernel)
 ·rw [h1]; replace h1 := zcl h1
  refine zg4 ?_
  refine zsp 9 rfl (fun h2 => ?_) fun h2 => ?_
  ·rw [h2]; replace h2 := zcl h2
   refine zv4 ?_
   refine zrt ?_
   refine ResQ_10 rfl hcl trivial (Ret_of ?_)
   subst h2; first | rfl | (congr 1; decide +kernel)
  ·rw [h2]; replace h2 := zcl h2
   refine zv4 ?_
   refine zrt ?_
   refine ResQ_10 rfl hcl trivial (Ret_of ?_)
   congr 1; exact rk8 h1 h2
end Lg
set_option maxRecDepth 20000
set_option maxHeartbeats 4000000
namespace Lg
open Go Go.Proofs Go.RowKit
variable [GLay] [S10]
end Lg
set_option maxRecDepth 20000
set_option maxHeartbeats 4000000
namespace Lg
open Go Go.Proofs Go.RowKit
variable [GLay] [S10]
end Lg
set_option maxRecDepth 20000
set_option maxHeartbeats 4000000
namespace Lg
open Go Go.Proofs Go.RowKit
variable [GLay] [S10]
theorem pass_c (nm : ByteArray) (k v : JV) (c1 c2 : List AV) (σ : List AO) (h1c : vcells k = c1) (h2c : vcells v = c2) (hks : rShape nm k = 0) (hkj : jb k) (hkm : jmay k) (hvj : jb v) (hvm : jmay v) : ACalls Tryz.prog 45 [.str nm, .agg c1, .agg c2] σ (Ret (.bool (rpass nm k v)) σ) := by
 refine ACalls_body Tryz.func45 rfl Tryz.ntmps45 (res1 Tryz.results45) (Nat.le_of_ble_eq_true rfl) (fun hcl hal => ?_)
 subst h1c; subst h2c
 rw [vcells_eq k, vcells_eq v]
 obtain ⟨ka, kb, kc, kd, ke, kf⟩ := (jb_eq k).1 hkj
 obtain ⟨va, vb, vc, vd, ve, vf⟩ := (jb_eq v).1 hvj
 have hkn := numMay_J (kindr hkm).2.2
 have hvn := numMay_J (kindr hvm).2.2
 have hkp := jsize_pos k
 have hrc := Lib.runeCount_le v.s
 change rcnt v.s ≤ v.s.size at hrc
 have hkel : ∀ x ∈ k.l, jb x := fun x hx => by obtain ⟨i, hi⟩ := List.mem_iff_getElem?.1 hx; exact lb_get ke hi
 have hvel : ∀ x ∈ v.l, jb x := fun x hx => by obtain ⟨i, hi⟩ := List.mem_iff_getElem?.1 hx; exact lb_get ve hi
 refine zw3 ?_
 refine AWp_seq ?_
 refine zw1 ?_
 refine AWp_block ?_
 refine zw2 ?_
 refine AWp_cond rfl (fun h1 => ?_) (fun h1 => ?_)
 ·(try rw [h1]); replace h1 := zcl h1
  refine zu2 ?_
  refine zt rfl (zc rfl (typed_c k v _ _ _ (vcells_eq k) (vcells_eq v) (by omega))) ?_
  refine zv1 ?_
  refine zrt ?_
  refine ResQ_1 rfl hcl trivial (Ret_of ?_)
  rw [show nm = wTYPE from h1, rp_type]
  rw [typed_eq (kok_type (by rw [← show nm = wTYPE from h1]; exact hks)) hvm]
 ·(try rw [h1]); replace h1 := zcl h1
  refine zw2 ?_
  refine AWp_cond rfl (fun h2 => ?_) (fun h2 => ?_)
  ·(try rw [h2]); replace h2 := zcl h2
   refine zu3 ?_
   refine zt rfl (zc rfl (among_c k.l v false _ _ _ rfl (vcells_eq v) (by omega) hkel hvj rfl)) ?_
   refine zv1 ?_
   refine zrt ?_
   refine ResQ_1 rfl hcl trivial (Ret_of ?_)
   rw [show nm = wENUM from h2, rp_enum]
  ·(try rw [h2]); replace h2 := zcl h2
   refine zw2 ?_
   refine AWp_cond rfl (fun h3 => ?_) (fun h3 => ?_)
   ·(try rw [h3]); replace h3 := zcl h3
    refine zu2 ?_
    refine zt rfl (zc rfl (vcells_eq k ▸ vcells_eq v ▸ same_any (jsize k).toNat k v _ (by omega) hkj hvj)) ?_
    refine zv1 ?_
    refine zrt ?_
    refine ResQ_1 rfl hcl trivial (Ret_of ?_)
    rw [show nm = wCONST from h3, rp_const]
   ·(try rw [h3]); replace h3 := zcl h3
    refine zw2 ?_
    refine AWp_cond rfl (fun h4 => ?_) (fun h4 => ?_)
    ·(try rw [h4]); replace h4 := zcl h4
     refine zu4 ?_
     refine zsp 29 rfl (fun h5 => ?_) fun h5 => ?_
     ·rw [h5]; replace h5 := zcl h5
      refine zv8 ?_
      refine zrt ?_
      refine ResQ_1 rfl hcl trivial (Ret_of ?_)
      rw [show nm = wMIN from h4, rp_min]
      simp [h5]
     ·rw [h5]; replace h5 := zcl h5
      refine zg4 ?_
      refine ztG rfl rfl (zc rfl (pcmpJ_c v.n k.n _ hvn hkn)) ?_
      refine zv3 ?_
      refine zrt ?_
      refine ResQ_1 rfl hcl trivial (Ret_of ?_)
      rw [show nm = wMIN from h4, rp_min]
      congr 1
      by_cases hc : pCmp v.n k.n < 0 <;> simp [h5, hc] <;> omega
    ·(try rw [h4]); replace h4 := zcl h4
     refine zw2 ?_
     refine AWp_cond rfl (fun h6 => ?_) (fun h6 => ?_)
     ·(try rw [h6]); replace h6 := zcl h6
      refine zu4 ?_
      refine zsp 42 rfl (fun h7 => ?_) fun h7 => ?_
      ·rw [h7]; replace h7 := zcl h7
       refine zv8 ?_
       refine zrt ?_
       refine ResQ_1 rfl hcl trivial (Ret_of ?_)
       rw [show nm = wMAX from h6, rp_max]
       simp [h7]
      ·rw [h7]; replace h7 := zcl h7
       refine zg4 ?_
       refine ztG rfl rfl (zc rfl (pcmpJ_c v.n k.n _ hvn hkn)) ?_
       refine zv3 ?_
       refine zrt ?_
       refine ResQ_1 rfl hcl trivial (Ret_of ?_)
       rw [show nm = wMAX from h6, rp_max]
       congr 1
       by_cases hc : 0 < pCmp v.n k.n <;> simp [h7, hc] <;> omega
     ·(try rw [h6]); replace h6 := zcl h6
      refine zw2 ?_
      refine AWp_cond rfl (fun h8 => ?_) (fun h8 => ?_)
      ·(try rw [h8]); replace h8 := zcl h8
       refine AWp_seq ?_
       refine AWp_drawL #[0, 1, 3, 7, 15, 31, 63, 15, 255, 511, 1023, 2047] Tryz.mixed (by decide +kernel) (by decide +kernel) ?_
       refine zd1 ?_
       refine zp1 ?_
       refine zd2 ?_
       refine zspr 55 rfl (fun h9 => ?_) fun h9 => ?_
       ·rw [h9]; replace h9 := zcl h9
        refine zd8 ?_
        refine RP.nil rfl ?_
        refine zrt ?_
        refine ResQ_1 rfl hcl trivial (Ret_of ?_)
        rw [show nm = wMINL from h8, rp_minl]
        simp [h9]
       ·rw [h9]; replace h9 := zcl h9
        refine zd1 ?_
        refine zp1 ?_
        refine yPG rfl rfl rfl (zc rfl (rcount_c v.s _ (by omega))) (trivial) ?_
        refine zp1 ?_
        refine yPG rfl rfl rfl (zc rfl (long_c ((rcnt v.s) : Int) k _ _ (vcells_eq k) (by omega) (by omega) hkn)) (trivial) ?_
        refine zd3 ?_
        refine RP.nil rfl ?_
        refine zrt ?_
        refine ResQ_1 rfl hcl trivial (Ret_of ?_)
        rw [show nm = wMINL from h8, rp_minl]
        congr 1
        by_cases hc : pCmp (ofN (rcnt v.s)) k.n < 0 <;> simp [h9, hc] <;> omega
      ·(try rw [h8]); replace h8 := zcl h8
       refine zw2 ?_
       refine AWp_cond rfl (fun h10 => ?_) (fun h10 => ?_)
       ·(try rw [h10]); replace h10 := zcl h10
        refine AWp_seq ?_
        refine AWp_drawL #[0, 1, 3, 7, 15, 31, 63, 15, 255, 511, 1023, 2047] Tryz.mixed (by decide +kernel) (by decide +kernel) ?_
        refine zd1 ?_
        refine zp1 ?_
        refine zd2 ?_
        refine zspr 68 rfl (fun h11 => ?_) fun h11 => ?_
        ·rw [h11]; replace h11 := zcl h11
         refine zd8 ?_
         refine RP.nil rfl ?_
         refine zrt ?_
         refine ResQ_1 rfl hcl trivial (Ret_of ?_)
         rw [show nm = wMAXL from h10, rp_maxl]
         simp [h11]
        ·rw [h11]; replace h11 := zcl h11
         refine zd1 ?_
         refine zp1 ?_
         refine yPG rfl rfl rfl (zc rfl (rcount_c v.s _ (by omega))) (trivial) ?_
         refine zp1 ?_
         refine yPG rfl rfl rfl (zc rfl (long_c ((rcnt v.s) : Int) k _ _ (vcells_eq k) (by omega) (by omega) hkn)) (trivial) ?_
         refine zd3 ?_
         refine RP.nil rfl ?_
         refine zrt ?_
         refine ResQ_1 rfl hcl trivial (Ret_of ?_)
         rw [show nm = wMAXL from h10, rp_maxl]
         congr 1
         by_cases hc : 0 < pCmp (ofN (rcnt v.s)) k.n <;> simp [h11, hc] <;> omega
       ·(try rw [h10]); replace h10 := zcl h10
        refine zw2 ?_
        refine AWp_cond rfl (fun h12 => ?_) (fun h12 => ?_)
        ·(try rw [h12]); replace h12 := zcl h12
         refine zu4 ?_
         refine zsp 81 rfl (fun h13 => ?_) fun h13 => ?_
         ·rw [h13]; replace h13 := zcl h13
          refine zv8 ?_
          refine zrt ?_
          refine ResQ_1 rfl hcl trivial (Ret_of ?_)
          rw [show nm = wMINI from h12, rp_mini]
          simp [h13]
         ·rw [h13]; replace h13 := zcl h13
          refine zg3 ?_
          rw [lcells_length]
          refine zg1 ?_
          refine ztG rfl rfl (zc rfl (long_c (v.l.length : Int) k _ _ (vcells_eq k) (by omega) (by omega) hkn)) ?_
          refine zv3 ?_
          refine zrt ?_
          refine ResQ_1 rfl hcl trivial (Ret_of ?_)
          rw [show nm = wMINI from h12, rp_mini]
          congr 1
          by_cases hc : pCmp (ofN v.l.length) k.n < 0 <;> simp [h13, hc] <;> omega
        ·(try rw [h12]); replace h12 := zcl h12
         refine zw2 ?_
         refine AWp_cond rfl (fun h14 => ?_) (fun h14 => ?_)
         ·(try rw [h14]); replace h14 := zcl h14
          refine zu4 ?_
          refine zsp 94 rfl (fun h15 => ?_) fun h15 => ?_
          ·rw [h15]; replace h15 := zcl h15
           refine zv8 ?_
           refine zrt ?_
           refine ResQ_1 rfl hcl trivial (Ret_of ?_)
           rw [show nm = wMAXI from h14, rp_maxi]
           simp [h15]
          ·rw [h15]; replace h15 := zcl h15
           refine zg3 ?_
           rw [lcells_length]
           refine zg1 ?_
           refine ztG rfl rfl (zc rfl (long_c (v.l.length : Int) k _ _ (vcells_eq k) (by omega) (by omega) hkn)) ?_
           refine zv3 ?_
           refine zrt ?_
           refine ResQ_1 rfl hcl trivial (Ret_of ?_)
           rw [show nm = wMAXI from h14, rp_maxi]
           congr 1
           by_cases hc : 0 < pCmp (ofN v.l.length) k.n <;> simp [h15, hc] <;> omega
         ·(try rw [h14]); replace h14 := zcl h14
          refine zw2 ?_
          refine AWp_cond rfl (fun h16 => ?_) (fun h16 => ?_)
          ·(try rw [h16]); replace h16 := zcl h16
           refine zu4 ?_
           refine zsp 107 rfl (fun h17 => ?_) fun h17 => ?_
           ·rw [h17]; replace h17 := zcl h17
            refine zg10 ?_
            refine zon ?_
            refine zrt ?_
            refine ResQ_1 rfl hcl trivial (Ret_of ?_)
            rw [show nm = wUNIQ from h16, rp_uniq]
            rw [no_l hvm h17]
            rw [show UQ [] ([] : List JV).length = UQ [] 0 from rfl, pb_t (UQ_0 _)]; simp
           ·rw [h17]; replace h17 := zcl h17
            refine zg5 ?_
            refine zsp 112 rfl (fun h18 => ?_) fun h18 => ?_
            ·rw [h18]; replace h18 := zcl h18
             refine zv5 ?_
             refine zrt ?_
             refine ResQ_1 rfl hcl trivial (Ret_of ?_)
             rw [show nm = wUNIQ from h16, rp_uniq]
             simp [h18]
            ·rw [h18]; replace h18 := zcl h18
             refine zg2 ?_
             refine ztG rfl rfl (zc rfl (unique_c v.l _ (by omega) hvel)) ?_
             refine zv2 ?_
             refine zrt ?_
             refine ResQ_1 rfl hcl trivial (Ret_of ?_)
             rw [show nm = wUNIQ from h16, rp_uniq]
             simp [h18]
          ·(try rw [h16]); replace h16 := zcl h16
           refine zw2 ?_
           refine AWp_cond rfl (fun h19 => ?_) (fun h19 => ?_)
           ·(try rw [h19]); replace h19 := zcl h19
            refine zu4 ?_
            refine zsp 122 rfl (fun h20 => ?_) fun h20 => ?_
            ·rw [h20]; replace h20 := zcl h20
             refine zv5 ?_
             refine zrt ?_
             refine ResQ_1 rfl hcl trivial (Ret_of ?_)
             rw [show nm = wREQ from h19, rp_req]
             congr 1; symm
             rw [Bool.not_eq_true', List.any_eq_false]
             intro x _; simp [h20]
            ·rw [h20]; replace h20 := zcl h20
             refine zg2 ?_
             refine ztG rfl rfl (zc rfl (has_c k v _ _ _ (vcells_eq k) (vcells_eq v) (by omega) (by omega))) ?_
             refine zv2 ?_
             refine zrt ?_
             refine ResQ_1 rfl hcl trivial (Ret_of ?_)
             rw [show nm = wREQ from h19, rp_req]
             simp [h20]
           ·(try rw [h19]); replace h19 := zcl h19
            refine AWp_skip ?_
            refine zw1 ?_
            refine zrt ?_
            refine ResQ_1 rfl hcl trivial (Ret_of ?_)
            rw [rp_none k v h1 h2 h3 h4 h6 h8 h10 h12 h14 h16 h19]
end Lg
set_option maxRecDepth 20000
set_option maxHeartbeats 4000000
namespace Lg
open Go Go.Proofs Go.RowKit
variable [GLay] [S10]
theorem own_c (n : JNode) (v : JV) (c1 c2 : List AV) (σ : List AO) (h1c : nodec n = c1) (h2c : vcells v = c2) (hnm : NM n) (hkz : KZ n) (hvj : jb v) (hvm : jmay v) : ACalls Tryz.prog 21 [.agg c1, .agg c2] σ (Ret (.sl false 1 (nrow (jown n v))) σ) := by
 refine ACalls_body Tryz.func21 rfl Tryz.ntmps21 (res1 Tryz.results21) (Nat.le_of_ble_eq_true rfl) (fun hcl hal => ?_)
 subst h1c; subst h2c
 rw [vcells_eq v, show nodec n = [.str n.path, .bool n.all, .bool n.pass, .sl false 10 (keyr n.keys)] from rfl]
 have hkl := keyr_len n.keys
 have hkn := hkz.1
 refine zw3 ?_
 refine AWp_seq ?_
 refine AWp_join (ι := Unit) (fun b => True) (fun b => ⟨[], [(2, .ptr (σ.length + 0) 0), (3, .ptr (σ.length + 1) 0), (4, .nils), (14, .bool (n.all && !n.pass))]⟩) (fun b => σ ++ [.box [.str n.path, .bool n.all, .bool n.pass, .sl false 10 (keyr n.keys)], .box [.int .i64 v.kind, .bool v.b, .bool v.n.neg, .str v.n.digits, .int .i64 v.n.exp, .str v.s, .sl false 8 (lcells v.l), .sl false 9 (mcells v.m)]]) ?_ (fun b hj => ?_)
 ·skip
  refine AWp_regL ?_
  refine zg3 ?_
  refine zsp 10 rfl (fun h1 => ?_) fun h1 => ?_
  ·rw [h1]; replace h1 := zcl h1
   refine zv4 ?_
   exact ⟨(), trivial, ⟨rfl, rfl, rfl, rfl, congrArg AV.bool (by simp_all), trivial⟩, rfl⟩
  ·rw [h1]; replace h1 := zcl h1
   refine zv4 ?_
   exact ⟨(), trivial, ⟨rfl, rfl, rfl, rfl, congrArg AV.bool (by simp_all), trivial⟩, rfl⟩
 ·skip
  refine AWp_cond rfl (fun h2 => ?_) (fun h2 => ?_)
  ·(try rw [h2]); replace h2 := zcl h2
   refine zsr ?_
   refine zt rfl (op_buildSlice [[_]] rfl Tryz.underlying48 Tryz.sizeOf9 Tryz.zeroValue9 rfl (by decide) (by decide) rfl rfl rfl rfl rfl) ?_
   refine zv1 ?_
   refine AWp_slotLe 4 rfl (AVle.full _ _) ?_ (by decide)
   refine zrt ?_
   have h2p : n.all = true ∧ n.pass = false := by simpa using h2
   rw [jown_f h2p.1 h2p.2]
   exact ResQ_1 rfl hcl (by exact nrow_lt σ.length [wFALSE]) (Ret_of rfl)
  ·(try rw [h2]); replace h2 := zcl h2
   refine AWp_skip ?_
   refine zw1 ?_
   refine AWp_seq ?_
   refine AWp_seq ?_
   refine AWp_ghostTO 5 1 2 rfl rfl ?_ (by decide)
   refine AWp_heap (σ' := σ ++ [.box [.str n.path, .bool n.all, .bool n.pass, .sl false 10 (keyr n.keys)], .box [.int .i64 v.kind, .bool v.b, .bool v.n.neg, .str v.n.digits, .int .i64 v.n.exp, .str v.s, .sl false 8 (lcells v.l), .sl false 9 (mcells v.m)], .arr 1 (jf v (n.keys.take 0)).length (nrow (jf v (n.keys.take 0))).flatten]) rfl ?_
   refine AWp_regL ?_
   refine zv4 ?_
   refine AWp_block ?_
   -- loop 0 LIVE 3:box 4:assign 5:assign 17:load 18:call 19:move
   refine AWp_loop (ι := Nat) (fun i => i ≤ n.keys.length) (fun i => ⟨[], [(2, .ptr (σ.length + 0) 0), (3, .ptr (σ.length + 1) 0), (4, .nils), (5, .arr (σ.length + 2) (jf v (n.keys.take i)).length 1 0 (jf v (n.keys.take i)).length), (17, .sl false 10 (keyr n.keys)), (18, .int .i64 (n.keys.length : Int)), (19, .int .i64 (i : Int))]⟩) (fun i => σ ++ [.box [.str n.path, .bool n.all, .bool n.pass, .sl false 10 (keyr n.keys)], .box [.int .i64 v.kind, .bool v.b, .bool v.n.neg, .str v.n.digits, .int .i64 v.n.exp, .str v.s, .sl false 8 (lcells v.l), .sl false 9 (mcells v.m)], .arr 1 (jf v (n.keys.take i)).length (nrow (jf v (n.keys.take i))).flatten]) (fun i => n.keys.length - i) (0) (Nat.zero_le _) ?_ rfl (fun i hi => ?_)
   ·exact ⟨rfl, rfl, rfl, rfl, rfl, rfl, congrArg (fun n : Nat => AV.int .i64 (n : Int)) (keyr_len _), rfl, trivial⟩
   refine zw1 ?_
   refine AWp_seq ?_
   refine AWp_cond rfl (fun h3 => ?_) (fun h3 => ?_)
   ·(try rw [h3]); replace h3 := zcl h3
    obtain ⟨q, hq⟩ : ∃ q, n.keys[i]? = some q := ⟨_, List.getElem?_eq_getElem (show i < n.keys.length by omega)⟩
    have hqm := List.mem_of_getElem? hq
    have hqz := hkz.2 q hqm
    have hqk := hnm q hqm
    have hjl := jf_len v (n.keys.take i)
    have htl : (n.keys.take i).length ≤ i := by rw [List.length_take]; omega
    have hnf := nrow_flen (jf v (n.keys.take i))
    refine AWp_skip ?_
    refine AWp_seq ?_
    refine AWp_block ?_
    refine zsr ?_
    refine zt rfl (op_indexAddr rfl Tryz.underlying45 Tryz.sizeOf55 rfl rfl (by omega) (keyr_get hq)) ?_
    rw [keyc_eq]
    refine zv3 ?_
    refine zu5 ?_
    refine zt rfl (zc rfl (pass_c q.name q.v v _ _ _ (vcells_eq q.v) (vcells_eq v) hqk.1 hqz.2.1 hqk.2 hvj hvm)) ?_
    refine zv1 ?_
    refine AWp_cond rfl (fun h4 => ?_) (fun h4 => ?_)
    ·(try rw [h4]); replace h4 := zcl h4
     refine AWp_regL ?_
     refine zg3 ?_
     refine zt rfl (op_buildSlice [[_]] rfl Tryz.underlying48 Tryz.sizeOf9 Tryz.zeroValue9 rfl (by decide) (by decide) rfl rfl rfl rfl rfl) ?_
     refine zt rfl (op_appendArrT rfl 2 (sz := 1) (m := 1) (len := (jf v (n.keys.take i)).length) (cs := [.str q.name]) rfl (.inr ⟨_, rfl⟩) Tryz.underlying48 Tryz.underlying48 Tryz.type9 rfl rfl rfl (by decide) rfl rfl hnf.symm rfl rfl rfl (by show (_ + 1) * 16 ≤ _; omega) (by omega) rfl) ?_
     refine zv1 ?_
     refine AWp_regL ?_
     refine zv2 ?_
     refine ⟨i + 1, σ.length + 3, by omega, by omega, by simp, ⟨rfl, rfl, rfl, rfl, (by rw [jf_n hq (by simpa using h4), List.length_append]; rfl), rfl, rfl, rfl, trivial⟩, closed_own 3 hcl ?_, ?_, ?_⟩
     ·simp [ownLt, AO.cells, AV.ltL, AV.lt, ltL_append]
     ·simp [ltE, AV.lt, AV.ltL]
     ·refine (take_own 3).trans ?_
      rw [jf_n hq (by simpa using h4), nrow_snoc, List.length_append]; rfl
    ·(try rw [h4]); replace h4 := zcl h4
     refine AWp_skip ?_
     refine AWp_regL ?_
     refine zv2 ?_
     refine ⟨i + 1, σ.length + 3, by omega, by omega, by simp, ⟨rfl, rfl, rfl, rfl, (by rw [jf_y hq (by simpa using h4)]; rfl), rfl, rfl, rfl, trivial⟩, closed_own 3 hcl ?_, ?_, ?_⟩
     ·simp [ownLt, AO.cells, AV.ltL, AV.lt, ltL_append]
     ·simp [ltE, AV.lt, AV.ltL]
     ·refine (take_own 3).trans ?_
      rw [jf_y hq (by simpa using h4)]; rfl
   ·(try rw [h3]); replace h3 := zcl h3
    refine AWp_exit ?_
    refine AWp_seq ?_
    have hie : i = n.keys.length := by omega
    subst hie
    refine AWp_freezeAO 5 2 (jf v (n.keys.take n.keys.length)).length 1 (jf v (n.keys.take n.keys.length)).length (nrow (jf v (n.keys.take n.keys.length))) rfl rfl (nrow_el _) (nrow_len _) (by decide) ?_ (by decide)
    refine AWp_regL ?_
    refine zv2 ?_
    refine zrt ?_
    rw [jown_k (by simpa using h2)]
    exact ResQ_1 rfl hcl (by simp [AV.lt]) (Ret_of (by rw [List.take_length]))
end Lg
namespace Lg
open Go
section
variable [GLay]
end
end Lg
namespace Lg
open Go
noncomputable def rSch (s : ByteArray) : List JNode × Int × Int :=
  if ¬ (rParse s).2.1 = 0 then ([], (rParse s).2.1, (rParse s).2.2) else if ¬ (jcomp (rParse s).1).2.1 = 0 then ([], (jcomp (rParse s).1).2.1, -1) else ((jlink (jcomp (rParse s).1).1).1, (jlink (jcomp (rParse s).1).1).2.1, -1)
noncomputable def rNodes (s : ByteArray) : List JNode × Int := if 2000 < s.size then ([], 0) else if ¬ (rSch s).2.1 = 0 then ([], 0) else ((rSch s).1, 1)
def ex14 : ByteArray := ⟨#[123, 34, 109, 105, 110, 105, 109, 117, 109, 34, 58, 50, 125]⟩
def ex1v : ByteArray := ⟨#[49]⟩
theorem ex14_0 : (rParse ex14).2.1 = 0 := by rw [rParse_C (by decide)]; decide +kernel
theorem ex14_a : jsize (rParse ex14).1 = 2 ∧ (rParse ex14).1.kind = 5 ∧ (rParse ex14).1.m.map (fun q => q.1) = [wMIN] ∧ (rParse ex14).1.m.map (fun q => q.2.kind) = [2] ∧ (rParse ex14).1.m.map (fun q => q.2.n.neg) = [false] ∧ (rParse ex14).1.m.map (fun q => q.2.n.digits) = [⟨#[50]⟩] ∧ (rParse ex14).1.m.map (fun q => q.2.n.exp) = [0] := by rw [rParse_C (by decide)]; decide +kernel
theorem ex1v_0 : (rParse ex1v).2.1 = 0 := by rw [rParse_C (by decide)]; decide +kernel
theorem ex1v_a : (rParse ex1v).1.kind = 2 ∧ (rParse ex1v).1.n.neg = false ∧ (rParse ex1v).1.n.digits = ⟨#[49]⟩ ∧ (rParse ex1v).1.n.exp = 0 := by rw [rParse_C (by decide)]; decide +kernel
theorem ex1v_v : rValue ex1v = ((rParse ex1v).1, 1) := by
  unfold rValue
  rw [if_neg (by decide), if_pos ex1v_0]
theorem rk_min : rk wMIN = 4 := by decide +kernel
section
variable [GLay]
theorem jlink_k (b : Bool) (x : JV) : jlink [⟨e0, false, b, [⟨wMIN, x, []⟩]⟩] = ([⟨e0, false, b, [⟨wMIN, x, []⟩]⟩], 0, e0) := by
  have h1 : ∀ l, lk1 l ⟨wMIN, x, []⟩ = some ⟨wMIN, x, []⟩ := fun l => lk1_no (by show ¬ wMIN = cREF; decide)
  have h2 : lkn [⟨e0, false, b, [⟨wMIN, x, []⟩]⟩] [⟨e0, false, b, [⟨wMIN, x, []⟩]⟩] [] = ([⟨e0, false, b, [⟨wMIN, x, []⟩]⟩], 0, e0) := by
    rw [lkn_go (ks := [⟨wMIN, x, []⟩]) (by rw [lkk_go (h1 _)]; rfl)]; rfl
  refine jlink_y h2 ?_
  have hn : ¬ Rch [⟨e0, false, b, [⟨wMIN, x, []⟩]⟩] 0 0 := by
    intro hR
    exact Rch.closed (fun _ => False) (fun n hn b hb => by
      simp at hn; subst hn; simp [outs, outK, outD] at hb) (fun _ _ h => h.elim) hR
  rw [lkc_n (pb_f hn)]; rfl
theorem ex14_c : ∃ b x, rNodes ex14 = ([⟨e0, false, b, [⟨wMIN, x, []⟩]⟩], 1) ∧ jmay x ∧ jb x ∧ rShape wMIN x = 0 ∧ jown ⟨e0, false, b, [⟨wMIN, x, []⟩]⟩ (rParse ex1v).1 = [wMIN] := by
  obtain ⟨h1, h2, h3, h4, h5, h6, h7⟩ := ex14_a
  obtain ⟨hjm, hjb, hjs, _⟩ := rParse_ok ex14 ex14_0
  have h0 := ex14_0
  have hr0 : rNodes ex14 = if ¬ (rSch ex14).2.1 = 0 then ([], 0) else ((rSch ex14).1, 1) := by unfold rNodes; rw [if_neg (by decide)]
  rw [hr0]
  have hsc : rSch ex14 = if ¬ (jcomp (rParse ex14).1).2.1 = 0 then ([], (jcomp (rParse ex14).1).2.1, -1) else ((jlink (jcomp (rParse ex14).1).1).1, (jlink (jcomp (rParse ex14).1).1).2.1, -1) := by unfold rSch; rw [if_neg (fun z => z h0)]
  rw [hsc]
  generalize (rParse ex14).1 = v at h1 h2 h3 h4 h5 h6 h7 hjm hjb ⊢
  obtain ⟨q, hq⟩ : ∃ q, v.m = [q] := List.length_eq_one_iff.1 (by have := congrArg List.length h3; simpa using this)
  obtain ⟨a, x⟩ := q
  have hmx := mayM_get hjm (i := 0) (q := (a, x)) (by rw [hq]; rfl)
  have hbx := (mb_get ((jb_eq v).1 hjb).2.2.2.2.2 (i := 0) (q := (a, x)) (by rw [hq]; rfl)).2
  rw [hq] at h3 h4 h5 h6 h7
  simp only [List.map_cons, List.map_nil, List.cons.injEq, and_true] at h3 h4 h5 h6 h7
  subst h3
  have hs : schB v = true := by unfold schB; rw [h2]; decide
  have hsh : rShape wMIN x = 0 := by unfold rShape; rw [rk_min, if_neg (by decide), if_pos (by simp [kOK, h4])]
  have hk : kidsM wMIN x = [] := by unfold kidsM; rw [rk_min]; simp
  have hm : rmems (rnd 1) e0 v.m [] (m1 ⟨[], 0, e0⟩ e0 v) = (false, [⟨wMIN, x, []⟩], m1 ⟨[], 0, e0⟩ e0 v) := by
    rw [hq, rmems_k (m' := m1 ⟨[], 0, e0⟩ e0 v) (kd := []) rfl hsh (by rw [hk, rkids])]; rfl
  have hn : rnode v = ⟨[⟨e0, decide (v.kind = 1), v.b, [⟨wMIN, x, []⟩]⟩], 0, e0⟩ := by
    unfold rnode
    rw [h1, show (2 : Int).toNat = 1 + 1 from rfl, rnd_f rfl (by decide) hm]
    rfl
  have hc : jcomp v = ([⟨e0, false, v.b, [⟨wMIN, x, []⟩]⟩], 0, e0) := by rw [jcomp_y hs (by rw [hn]), hn, h2]; rfl
  refine ⟨v.b, x, ?_, hmx, hbx, hsh, ?_⟩
  · rw [hc]; simp only
    rw [jlink_k]; simp
  · obtain ⟨k1, k2, k3, k4⟩ := ex1v_a
    generalize (rParse ex1v).1 = w at k1 k2 k3 k4 ⊢
    have hx : x.n = ⟨false, ⟨#[50]⟩, 0⟩ := (jnum_ext _ _).2 ⟨h5, h6, h7⟩
    have hw : w.n = ⟨false, ⟨#[49]⟩, 0⟩ := (jnum_ext _ _).2 ⟨k2, k3, k4⟩
    have hp : rpass wMIN x w = false := by
      rw [rp_min, k1, hx, hw, show pCmp ⟨false, ⟨#[49]⟩, 0⟩ ⟨false, ⟨#[50]⟩, 0⟩ = -1 by decide +kernel]; rfl
    rw [jown_k (by simp)]
    show ([⟨wMIN, x, []⟩].filter fun k : JKey => !rpass k.name k.v w).map JKey.name = _
    rw [List.filter_cons_of_pos (by show (!rpass wMIN x w) = true; rw [hp]; rfl)]; rfl
end
end Lg
set_option maxRecDepth 20000
set_option maxHeartbeats 4000000
namespace Lg
open Go Go.Proofs Go.RowKit
variable [GLay] [S10]
end Lg
set_option maxRecDepth 20000
set_option maxHeartbeats 4000000
namespace Lg
open Go Go.Proofs Go.RowKit
variable [GLay] 
theorem rpath_c (f : Bool) (l : List BL) (σ : List AO) (hl : l.length ≤ 2000000) (hx : ∀ x ∈ l, x.length ≤ 1000000) : ACalls Tryz.prog 65 [.sl f 1 (srow l)] σ (Ret (.str (ba (shw l))) σ) := by
 refine ACalls_body Tryz.func65 rfl Tryz.ntmps65 (res1 Tryz.results65) (Nat.le_of_ble_eq_true rfl) (fun hcl hal => ?_)
 have hrl := srow_len l
 refine zw1 ?_
 refine zw1 ?_
 refine AWp_seq ?_
 refine zw1 ?_
 refine AWp_block ?_
 -- loop 0 LIVE 0:param 2:assign 3:assign 4:assign
 refine AWp_loop (ι := Nat) (fun i => i ≤ l.length) (fun i => ⟨[], [(0, .sl f 1 (srow l)), (2, .str ⟨#[]⟩), (3, .str (ba (shw (l.take i)))), (4, .int .i64 (i : Int))]⟩) (fun i => σ) (fun i => l.length - i) (0) (Nat.zero_le _) ?_ rfl (fun i hi => ?_)
 ·exact ⟨rfl, rfl, rfl, rfl, rfl, trivial⟩
 have hsl := shw_len 1000000 (l.take i) (fun x h => hx x (List.mem_of_mem_take h))
 have htl : (l.take i).length ≤ 2000000 := by rw [List.length_take]; omega
 have hsl2 : (shw (l.take i)).length ≤ 2000000 * 2000001 := Nat.le_trans hsl (Nat.mul_le_mul htl (Nat.le_refl _))
 refine AWp_seq ?_
 refine zw4 ?_
 refine AWp_cond rfl (fun h1 => ?_) (fun h1 => ?_)
 ·(try rw [h1]); replace h1 := zcl h1
  obtain ⟨nm, hxi⟩ : ∃ nm, l[i]? = some nm := ⟨_, List.getElem?_eq_getElem (show i < l.length by omega)⟩
  have hxr := srow_get hxi
  have hxl := hx nm (List.mem_of_getElem? hxi)
  have z1 : (ByteArray.mk #[47]).size = 1 := rfl
  have z3 : (ba (shw (l.take i))).size = (shw (l.take i)).length := ba_size _
  refine AWp_skip ?_
  refine AWp_seq ?_
  refine AWp_block ?_
  refine zw3 ?_
  refine zw1 ?_
  refine AWp_block ?_
  -- loop 1 LIVE 0:param 2:assign 3:assign 4:assign 5:assign
  refine AWp_loop (ι := Nat) (fun j => j ≤ nm.length) (fun j => ⟨[], [(0, .sl f 1 (srow l)), (2, .str ⟨#[]⟩), (3, .str (ba (shw (l.take i) ++ 47 :: pesc (nm.take j)))), (4, .int .i64 (i : Int)), (5, .int .i64 (j : Int))]⟩) (fun j => σ) (fun j => nm.length - j) (0) (Nat.zero_le _) ?_ rfl (fun j hj => ?_)
  ·refine ⟨rfl, rfl, rfl, ?_, rfl, rfl, trivial⟩
   rw [show (shw (l.take i) ++ 47 :: pesc (nm.take 0) : BL) = shw (l.take i) ++ [47] by simp [pesc], ← ba_app]; rfl
  refine AWp_seq ?_
  refine zu3 ?_
  refine zt rfl (op_indexAddr rfl Tryz.underlying48 Tryz.sizeOf9 rfl rfl (by omega) (hxr)) ?_
  refine zv3 ?_
  refine AWp_cond rfl (fun h2 => ?_) (fun h2 => ?_)
  ·(try rw [h2]); replace h2 := zcl h2
   have hbn := ba_size nm
   obtain ⟨c, hc⟩ : ∃ c, nm[j]? = some c := ⟨_, List.getElem?_eq_getElem (show j < nm.length by omega)⟩
   have hbc : bat (ba nm) (j : Int).toNat = c := by rw [Int.toNat_natCast, bat_ba, List.getD_eq_getElem?_getD, hc]; rfl
   have hbj : bat (ba nm) j = c := by rw [← hbc, Int.toNat_natCast]
   have he1 := esc_len (nm.take j)
   have htj : (nm.take j).length ≤ 1000000 := by rw [List.length_take]; omega
   have z2 : (ba (shw (l.take i) ++ 47 :: pesc (nm.take j))).size = (shw (l.take i)).length + (pesc (nm.take j)).length + 1 := by rw [ba_size, List.length_append, List.length_cons]; omega
   have z4 : (ByteArray.mk #[126, 48]).size = 2 := rfl
   have z5 : (ByteArray.mk #[126, 49]).size = 2 := rfl
   have z6 : ∀ b : UInt8, (ByteArray.mk #[b]).size = 1 := fun _ => rfl
   refine AWp_skip ?_
   refine AWp_seq ?_
   refine AWp_block ?_
   refine zu2 ?_
   refine zt rfl (op_indexAddr rfl Tryz.underlying48 Tryz.sizeOf9 rfl rfl (by omega) (hxr)) ?_
   refine zv3 ?_
   refine AWp_block ?_
   refine zw2 ?_
   refine AWp_cond rfl (fun h3 => ?_) (fun h3 => ?_)
   ·(try rw [h3]); replace h3 := zcl h3
    have h3 : c = 126 := by rw [hbj] at h3; exact UInt8.toNat_inj.1 (Int.ofNat.inj h3)
    refine AWp_regL ?_
    refine zv3 ?_
    refine AWp_regL ?_
    refine zv3 ?_
    have hes : pesc (nm.take (j + 1)) = pesc (nm.take j) ++ [126, 48] := by rw [ltake_succ hc]; simp [pesc, pesc1, h3]
    refine ⟨j + 1, σ.length, by omega, by omega, Nat.le_refl _, ⟨rfl, rfl, rfl, ?_, rfl, rfl, trivial⟩, hcl, by simp [ltE, AV.lt], List.take_length⟩
    rw [hes, show (shw (l.take i) ++ 47 :: (pesc (nm.take j) ++ [126, 48]) : BL) = (shw (l.take i) ++ 47 :: pesc (nm.take j)) ++ [126, 48] by simp, ← ba_app]; rfl
   ·(try rw [h3]); replace h3 := zcl h3
    have h3 : ¬ c = 126 := fun e => by subst e; rw [hbj] at h3; exact h3 rfl
    refine zw2 ?_
    refine AWp_cond rfl (fun h4 => ?_) (fun h4 => ?_)
    ·(try rw [h4]); replace h4 := zcl h4
     have h4 : c = 47 := by rw [hbj] at h4; exact UInt8.toNat_inj.1 (Int.ofNat.inj h4)
     refine AWp_regL ?_
     refine zv3 ?_
     refine AWp_regL ?_
     refine zv3 ?_
     have hes : pesc (nm.take (j + 1)) = pesc (nm.take j) ++ [126, 49] := by rw [ltake_succ hc]; simp [pesc, pesc1, h3, h4]
     refine ⟨j + 1, σ.length, by omega, by omega, Nat.le_refl _, ⟨rfl, rfl, rfl, ?_, rfl, rfl, trivial⟩, hcl, by simp [ltE, AV.lt], List.take_length⟩
     rw [hes, show (shw (l.take i) ++ 47 :: (pesc (nm.take j) ++ [126, 49]) : BL) = (shw (l.take i) ++ 47 :: pesc (nm.take j)) ++ [126, 49] by simp, ← ba_app]; rfl
    ·(try rw [h4]); replace h4 := zcl h4
     have h4 : ¬ c = 47 := fun e => by subst e; rw [hbj] at h4; exact h4 rfl
     refine AWp_regL ?_
     refine zg3 ?_
     refine zt rfl (op_indexAddr rfl Tryz.underlying48 Tryz.sizeOf9 rfl rfl (by omega) (hxr)) ?_
     refine zg3 ?_
     refine zt rfl (op_buildSlice [[_]] rfl Tryz.underlying146 Tryz.sizeOf5 Tryz.zeroValue5 rfl (by decide) (by decide) rfl rfl rfl rfl rfl) ?_
     refine zt rfl (op_bytesStr (b := ⟨#[bat (ba nm) (j : Int).toNat]⟩) (m := 1) rfl Tryz.underlying146 Tryz.underlying5 Tryz.underlying9 rfl rfl rfl) ?_
     rw [hbc]
     have z7 := z6 c
     refine zv2 ?_
     refine AWp_regL ?_
     refine zv3 ?_
     have hes : pesc (nm.take (j + 1)) = pesc (nm.take j) ++ [c] := by rw [ltake_succ hc]; simp [pesc, pesc1, h3, h4]
     refine ⟨j + 1, σ.length, by omega, by omega, Nat.le_refl _, ⟨rfl, rfl, rfl, ?_, rfl, rfl, trivial⟩, hcl, by simp [ltE, AV.lt], List.take_length⟩
     rw [hes, show (shw (l.take i) ++ 47 :: (pesc (nm.take j) ++ [c]) : BL) = (shw (l.take i) ++ 47 :: pesc (nm.take j)) ++ [c] by simp, ← ba_app]; rfl
  ·(try rw [h2]); replace h2 := zcl h2
   have hbn := ba_size nm
   have hje : j = nm.length := by omega
   subst hje
   rw [List.take_length]
   refine AWp_exit ?_
   refine AWp_regL ?_
   refine zv3 ?_
   refine ⟨i + 1, σ.length, by omega, by omega, Nat.le_refl _, ⟨rfl, rfl, rfl, ?_, rfl, trivial⟩, hcl, by simp [ltE, AV.lt], List.take_length⟩
   rw [ltake_succ hxi, shw_snoc]; rfl
 ·(try rw [h1]); replace h1 := zcl h1
  have hie : i = l.length := by omega
  subst hie
  rw [List.take_length]
  refine AWp_exit ?_
  refine zw2 ?_
  refine zrt ?_
  exact ResQ_10 rfl hcl trivial (Ret_of rfl)
end Lg
set_option maxRecDepth 20000
set_option maxHeartbeats 4000000
namespace Lg
open Go Go.Proofs Go.RowKit
variable [GLay] 
end Lg
