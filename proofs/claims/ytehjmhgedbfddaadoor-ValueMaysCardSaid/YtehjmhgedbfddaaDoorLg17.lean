import Derived.Test.YtehjmhgedbfddaaDoorLg16
set_option linter.unusedVariables false
set_option linter.unusedSimpArgs false
set_option linter.unusedSectionVars false
namespace Lg
open Go Go.RowKit
variable [GLay]

section sound
variable {P : Program} {N : Nat} {ops : Array Oper} {tb : Array Nat} {Q : Env → List AO → Prop} {X : AV → List AO → Prop}

theorem ready_iff {listed : Array Bool} {i : Nat} (hs : listed.size = ops.size) : i ∈ Region.ready .any ops listed ↔ ∃ o, ops[i]? = some o ∧ listed.getD i false = false ∧ ∀ ed ∈ o.after.toList, Region.binds .any ed = true → listed.getD ed.on false = true := by
  unfold Region.ready
  simp only [List.mem_filter, List.mem_range, Bool.and_eq_true, Bool.not_eq_true']
  constructor
  · rintro ⟨h1, h2, h3⟩
    have ho := Array.getElem?_eq_getElem h1
    refine ⟨ops[i], ho, ?_, ?_⟩
    · have : listed.getD i true = listed.getD i false := by simp [hs, h1]
      rw [← this]; exact h2
    · rw [ho] at h3
      simp only [Option.map_some, Option.getD_some] at h3
      intro ed hed hb
      have := (Array.all_eq_true' ).1 h3 ed (Array.mem_toList_iff.1 hed)
      simpa [hb] using this
  · rintro ⟨o, ho, h2, h3⟩
    have h1 : i < ops.size := (Array.getElem?_eq_some_iff.1 ho).1
    refine ⟨h1, ?_, ?_⟩
    · have : listed.getD i true = listed.getD i false := by simp [hs, h1]
      rw [this]; exact h2
    · rw [ho]
      simp only [Option.map_some, Option.getD_some]
      refine (Array.all_eq_true' ).2 fun ed hed => ?_
      cases hb : Region.binds .any ed with
      | false => simp
      | true => simp [h3 ed (Array.mem_toList_iff.2 hed) hb]

/-- The state ahead of an order's next step. -/
structure Inv (ops : Array Oper) (N m : Nat) (E : Nat → Env) (H : Nat → List AO) (val : Nat → AV) (kd : Nat → Kd) (s0 : CS) (listed : Array Bool) (a : Act) (w : World) : Prop where
  size : listed.size = ops.size
  dn : ∀ j o, ops[j]? = some o → listed.getD j false = true → ∀ ed ∈ o.after.toList, Region.binds .any ed = true → listed.getD ed.on false = true
  lt : ∀ j, listed.getD j false = true → j < m
  st : ∃ s q, s.w = w ∧ Good s ∧ Ext s0 s ∧ q ≤ m ∧ (∀ j, j < q → kd j = .eff → listed.getD j false = true) ∧ (q < m → kd q = .eff ∧ listed.getD q false = false) ∧ s.σ = H q ∧
    a.tmps.size = N ∧ DefOK s (E 0).D a.defers ∧ ∀ t, V s (preA ops (E 0) val (fun j => listed.getD j false) ops.size t) (a.eval (.tmp t))

theorem Inv.way {m : Nat} {E : Nat → Env} {H : Nat → List AO} {val : Nat → AV} {kd : Nat → Kd} {s0 : CS} {listed : Array Bool} {a : Act} {w : World} (c : Chk ops tb) (h : Inv ops N m E H val kd s0 listed a w) :
    ∀ (j : Nat) (o : Oper), ops[j]? = some o → (∀ ed ∈ o.after.toList, Region.binds .any ed = true → listed.getD ed.on false = true) → ∀ i, i < ops.size → befB tb i j = true → listed.getD i false = true := by
  intro j
  induction j using Nat.strongRecOn with
  | _ j ih =>
    intro o ho hdeps i hi hb
    obtain ⟨ed, hed, hbd, h1⟩ := c.way i j o ho hi hb
    have hon := hdeps ed hed hbd
    rcases h1 with h1 | h1
    · rw [← h1]; exact hon
    · have hlt := (c.edge j o ho ed hed hbd).1
      have hjn : ed.on < ops.size := by have := (Array.getElem?_eq_some_iff.1 ho).1; omega
      have ho' := Array.getElem?_eq_getElem hjn
      exact ih ed.on hlt _ ho' (h.dn ed.on _ ho' hon) i hi h1

theorem set_get (listed : Array Bool) (i : Nat) (hi : i < listed.size) (j : Nat) : (listed.setIfInBounds i true).getD j false = if j = i then true else listed.getD j false := by
  simp only [Array.getD_eq_getD_getElem?, Array.getElem?_setIfInBounds]
  by_cases e : i = j
  · subst e; simp [hi]
  · have e' : ¬ j = i := fun h => e h.symm
    simp [e, e']

theorem rp_sound {m : Nat} {E : Nat → Env} {H : Nat → List AO} {val : Nat → AV} {kd : Nat → Kd} {s0 : CS} {QA' : QA} (c : Chk ops tb) (ht : Tr P N ops tb Q X 0 m E H val kd)
    (hQ : ∀ e σ, Q e σ → QA' .normal e σ) (hX : ∀ e v σ, e.D = (E 0).D → X v σ → QA' (.pan v) e σ) :
    ∀ (fuel : Nat) (listed : Array Bool) (a : Act) (w : World), Inv ops N m E H val kd s0 listed a w → (List.range ops.size).countP (fun i => !listed.getD i false) ≤ fuel →
      wpAny P .any ops (Post s0 N QA') fuel listed a w := by
  -- what the plan says of the slots
  have hlook : ∀ i, i ≤ m → ∀ t, (E i).look t = preA ops (E 0) val (fun _ => true) i t := by
    intro i
    induction i with
    | zero => intro _ t; simp [preA, lw]
    | succ i ih =>
      intro hi t
      obtain ⟨o, ho, _, hE, _⟩ := ht.step i (Nat.zero_le _) (by omega)
      rw [hE, put_look, ih (by omega) t]
      have hd : dstOf ops i = o.dst := by simp [dstOf, ho]
      simp only [preA, lw, hd, true_and]
      by_cases e : o.dst = some t
      · simp [e]
      · simp [e]
  have hD : ∀ i, i ≤ m → (E i).D = (E 0).D := by
    intro i
    induction i with
    | zero => intro _; rfl
    | succ i ih =>
      intro hi
      obtain ⟨o, ho, _, hE, _⟩ := ht.step i (Nat.zero_le _) (by omega)
      rw [hE, put_D, ih (by omega)]
  have hend : ∀ {listed : Array Bool} {a : Act} {w : World}, Inv ops N m E H val kd s0 listed a w → (∀ i, i < ops.size → listed.getD i false = true) → Post s0 N QA' .normal a w := by
    intro listed a w inv hall
    obtain ⟨s, q, hw, g, x, hq, hq1, hq2, hσ, hN, hdf, hV⟩ := inv.st
    rcases ht.fin with ⟨hm, hQm⟩ | ⟨o, v, σ', ho, _⟩
    · have hqm : q = m := by
        rcases Nat.lt_or_ge q m with h | h
        · have h1 := (hq2 h).2
          rw [hall q (by omega)] at h1; cases h1
        · omega
      subst hqm
      refine ⟨s, hw, g, x, E q, ⟨hN, by rw [hD q (Nat.le_refl _)]; exact hdf, fun t => ?_⟩, hQ _ _ (by rw [hσ]; exact hQm)⟩
      rw [hlook q (Nat.le_refl _) t]
      have h1 := hV t
      have h2 : lw ops (fun j => listed.getD j false) t ops.size = lw ops (fun _ => true) t q := by
        rw [hm]; exact lw_congr fun j hj _ => hall j hj
      unfold preA at h1 ⊢
      rw [h2] at h1
      exact h1
    · have hlt := (Array.getElem?_eq_some_iff.1 ho).1
      have := inv.lt m (hall m hlt)
      omega
  have hallOf : ∀ {listed : Array Bool} {a : Act} {w : World}, Inv ops N m E H val kd s0 listed a w → Region.ready .any ops listed = [] → ∀ i, i < ops.size → listed.getD i false = true := by
    intro listed a w inv hr i
    induction i using Nat.strongRecOn with
    | _ i ih =>
      intro hi
      cases hl : listed.getD i false with
      | true => rfl
      | false =>
        have ho := Array.getElem?_eq_getElem hi
        have : i ∈ Region.ready .any ops listed := (ready_iff inv.size).2 ⟨_, ho, hl, fun ed hed hb => by
          have h1 := (c.edge i _ ho ed hed hb).1
          exact ih ed.on h1 (by omega)⟩
        rw [hr] at this; cases this
  intro fuel
  induction fuel with
  | zero =>
    intro listed a w inv hc
    have hall : ∀ i, i < ops.size → listed.getD i false = true := fun i hi => by
      have h0 : (List.range ops.size).countP (fun i => !listed.getD i false) = 0 := by omega
      have := List.countP_eq_zero.1 h0 i (List.mem_range.2 hi)
      simpa using this
    refine ⟨?_, hend inv hall⟩
    cases hr : Region.ready .any ops listed with
    | nil => rfl
    | cons i r =>
      have : i ∈ Region.ready .any ops listed := by rw [hr]; simp
      obtain ⟨o, ho, h1, _⟩ := (ready_iff inv.size).1 this
      rw [hall i (Array.getElem?_eq_some_iff.1 ho).1] at h1; cases h1
  | succ fuel ih =>
    intro listed a w inv hc
    refine ⟨fun hr => hend inv (hallOf inv hr), fun i hi => ?_⟩
    obtain ⟨o, ho, hnl, hdeps⟩ := (ready_iff inv.size).1 hi
    have hin : i < ops.size := (Array.getElem?_eq_some_iff.1 ho).1
    have hway := inv.way c i o ho hdeps
    obtain ⟨s, q, hw, g, x, hq, hq1, hq2, hσ, hN, hdf, hV⟩ := inv.st
    subst hw
    have hdsti : dstOf ops i = o.dst := by simp [dstOf, ho]
    -- i isn't behind a panic
    have him : i ≤ m := by
      rcases ht.fin with ⟨hm, _⟩ | ⟨om, vm, σm, _, _, _, _, hafter, _⟩
      · omega
      · rcases Nat.lt_or_ge m i with h | h
        · have h1 := hway m (by omega) (hafter i h hin)
          have := inv.lt m h1
          omega
        · exact h
    -- what i looks at is as the plan has it
    have hpre : ∀ t, (t ∈ readsOf ops o) → V s ((E i).look t) (a.eval (.tmp t)) := fun t hmem => by
      rw [hlook i him t]
      have h1 := hV t
      have h2 : lw ops (fun j => listed.getD j false) t ops.size = lw ops (fun _ => true) t i := by
        rw [lw_cut (i := i) (by omega) fun j h3 h4 hd => ?_]
        · refine lw_congr fun j hj hd => ?_
          exact hway j (by omega) ((c.rd i j t o ho hd (by omega) hmem).1 hj)
        · cases hl : listed.getD j false with
          | false => rfl
          | true =>
            by_cases e : j = i
            · subst e; rw [hnl] at hl; cases hl
            · have hb := (c.rd i j t o ho hd e hmem).2 (by omega)
              have hoj := Array.getElem?_eq_getElem h4
              have := inv.way c j _ hoj (inv.dn j _ hoj hl) i hin hb
              rw [hnl] at this; cases this
      unfold preA at h1 ⊢
      rw [h2] at h1
      exact h1
    have hops : ∀ y ∈ o.op.operands, V s (opv (E i) y) (a.eval y) := fun y hy => by
      cases y with
      | tmp t =>
        refine hpre t ?_
        unfold readsOf
        refine List.mem_append_left _ (List.mem_filterMap.2 ⟨.tmp t, Array.mem_toList_iff.2 hy, rfl⟩)
      | const v => exact V_ofConst s v
      | global gg => exact .any _
      | func f => exact V.func (s := s) (.func f) [] [] [] [] rfl rfl (fun i a v h => by simp at h) (fun i a v h => by simp at h)
    have hguard : ∀ t, GuardA ops N (E i) o t → Region.wanted o (yielded ops a.tmps) = t := fun t hg => by
      unfold GuardA at hg
      unfold Region.wanted
      cases hgd : o.guard with
      | none => rw [hgd] at hg; simp [hg]
      | some jw =>
        obtain ⟨j, want⟩ := jw
        rw [hgd] at hg
        obtain ⟨d, hd1, hd2, hd3⟩ := hg
        have hmem : d ∈ readsOf ops o := by
          unfold readsOf
          refine List.mem_append_right _ ?_
          rw [hgd]
          simp [hd1]
        have hlt : d < a.tmps.size := by rw [hN]; exact hd2
        rcases hd3 with hd3 | ⟨ht, hd3⟩
        rotate_left
        · subst ht
          have h1 := (hd3 ▸ hpre d hmem).inv_undef
          simp only [Act.eval] at h1
          have h3 : a.tmps[d]? = some undef := by
            rw [Array.getD_eq_getD_getElem?, Array.getElem?_eq_getElem hlt] at h1
            rw [Array.getElem?_eq_getElem hlt]
            simpa using h1
          simp only [yielded, hd1, Option.bind_some, h3]
          simp [undef]
        have h1 := (hd3 ▸ hpre d hmem).inv_bool
        simp only [Act.eval] at h1
        have h3 : a.tmps[d]? = some (.bool (if t = true then want else !want)) := by
          rw [Array.getD_eq_getD_getElem?, Array.getElem?_eq_getElem hlt] at h1
          rw [Array.getElem?_eq_getElem hlt]
          simpa using h1
        simp only [yielded, hd1, Option.bind_some, h3]
        cases t <;> cases want <;> simp
    have hcount : (List.range ops.size).countP (fun j => !(listed.setIfInBounds i true).getD j false) ≤ fuel := by
      have hsz : i < listed.size := by rw [inv.size]; exact hin
      have := count_drop (p := fun j => !listed.getD j false) (q := fun j => !(listed.setIfInBounds i true).getD j false) (i := i) (l := List.range ops.size) List.nodup_range (List.mem_range.2 hin)
        (by simp only [hnl]; rfl) (by simp only [set_get _ _ hsz]; simp) (fun j hj => by simp only [set_get _ _ hsz]; simp [hj])
      omega
    have hsz : i < listed.size := by rw [inv.size]; exact hin
    -- behind the step
    have hnext : ∀ {s' : CS} {cv : Value} {q' : Nat}, i < m → (∀ d, o.dst = some d → d < N) → Good s' → Ext s s' → V s' (val i) cv → q' ≤ m → (∀ j, j < q' → kd j = .eff → j = i ∨ listed.getD j false = true) →
        (q' < m → kd q' = .eff ∧ q' ≠ i ∧ listed.getD q' false = false) → s'.σ = H q' → Inv ops N m E H val kd s0 (listed.setIfInBounds i true) (a.put o.dst cv) s'.w := by
      intro s' cv q' hlt hdN g' x' hv hq' hb1 hb2 hσ'
      refine ⟨by simp [inv.size], fun j oj hoj hl ed hed hb => ?_, fun j hl => ?_, s', q', rfl, g', x.trans x', hq', fun j h1 h2 => ?_, fun h1 => ?_, hσ', ?_, ?_, fun t => ?_⟩
      · rw [set_get _ _ hsz] at hl ⊢
        by_cases e : ed.on = i
        · simp [e]
        · rw [if_neg e]
          by_cases e' : j = i
          · subst e'; rw [ho] at hoj; cases hoj; exact hdeps ed hed hb
          · rw [if_neg e'] at hl; exact inv.dn j oj hoj hl ed hed hb
      · rw [set_get _ _ hsz] at hl
        by_cases e' : j = i
        · subst e'; exact hlt
        · rw [if_neg e'] at hl; exact inv.lt j hl
      · rw [set_get _ _ hsz]
        rcases hb1 j h1 h2 with e | e
        · simp [e]
        · by_cases e' : j = i
          · simp [e']
          · rw [if_neg e']; exact e
      · obtain ⟨b1, b2, b3⟩ := hb2 h1
        exact ⟨b1, by rw [set_get _ _ hsz, if_neg b2]; exact b3⟩
      · cases hd : o.dst <;> simp [Act.put, hN]
      · have := hdf.mono g x'
        cases hd : o.dst <;> simpa [Act.put] using this
      · by_cases hd : o.dst = some t
        · have h1 : lw ops (fun j => (listed.setIfInBounds i true).getD j false) t ops.size = some i := by
            refine lw_hit hin (by simp only [set_get _ _ hsz]; simp) (by rw [hdsti]; exact hd) fun j h1 h2 h3 => ?_
            simp only [set_get _ _ hsz]
            rw [if_neg (by omega)]
            cases hl : listed.getD j false with
            | false => rfl
            | true =>
              have hb := (c.wr i j t o ho h3 (by omega) hd).2 h1
              have hoj := Array.getElem?_eq_getElem h2
              have := inv.way c j _ hoj (inv.dn j _ hoj hl) i hin hb
              rw [hnl] at this; cases this
          unfold preA
          rw [h1]
          have hlt2 : t < a.tmps.size := by rw [hN]; exact hdN t hd
          have : (a.put o.dst cv).eval (.tmp t) = cv := by simp [hd, Act.put, Act.eval, hlt2]
          rw [this]; exact hv
        · have h1 : lw ops (fun j => (listed.setIfInBounds i true).getD j false) t ops.size = lw ops (fun j => listed.getD j false) t ops.size := by
            refine lw_congr fun j hj h3 => ?_
            simp only [set_get _ _ hsz]
            rw [if_neg (fun e => by subst e; rw [hdsti] at h3; exact hd h3)]
          have h2 : (a.put o.dst cv).eval (.tmp t) = a.eval (.tmp t) := by
            cases hd' : o.dst with
            | none => rfl
            | some d =>
              have : ¬ d = t := fun e => hd (by rw [hd', e])
              simp [Act.put, Act.eval, Array.getD_eq_getD_getElem?, this]
          rw [h2]
          unfold preA
          rw [h1]
          exact (hV t).mono g x'
    unfold wpOp
    rw [ho]
    simp only
    by_cases hlt : i < m
    · obtain ⟨o', ho', hdN, hE, hkp, hpu, hef, hsk⟩ := ht.step i (Nat.zero_le _) hlt
      rw [ho] at ho'; cases ho'
      cases hk : kd i with
      | pan => exact absurd hk hkp
      | skip =>
        obtain ⟨hg, hval, _⟩ := hsk hk
        rw [if_neg (by rw [hguard false hg]; simp)]
        refine ih _ _ _ (hnext (s' := s) (cv := undef) (q' := q) hlt hdN g (Ext.refl s) (by rw [hval]; exact V.undef s) hq (fun j h1 h2 => .inr (hq1 j h1 h2)) (fun h1 => ?_) hσ) hcount
        obtain ⟨b1, b2⟩ := hq2 h1
        exact ⟨b1, (fun e => by rw [e, hk] at b1; cases b1), b2⟩
      | pure =>
        obtain ⟨hg, h1, h2, h3, h4⟩ := hpu hk
        rw [if_pos (by rw [hguard true hg])]
        have hop : AOp P (H q) (E i) o (val i) (H q) := by
          rcases Nat.lt_or_ge q i with hqi | hqi
          · have hqm : q < m := by omega
            obtain ⟨b1, b2⟩ := hq2 hqm
            refine (h3 q (Nat.zero_le _) hqi b1).resolve_left fun hb => ?_
            rw [hway q (by omega) hb] at b2; cases b2
          · have hne : q ≠ i := fun e => by
              have := (hq2 (by omega)).1
              rw [e, hk] at this; cases this
            rcases exists_last (fun j => decide (kd j = .eff)) (i + 1) q (by omega) with hn | ⟨j, j1, j2, j3, j4⟩
            · have e1 := ht.hconst q (i + 1) (Nat.zero_le _) (by omega) hq (fun j h5 h6 => by have := hn j h5 h6; simpa using this)
              rw [← e1, h2]; exact h1
            · have hje : kd j = .eff := by simpa using j3
              have hjl := hq1 j j2 hje
              have e1 := ht.hconst q (j + 1) (Nat.zero_le _) (by omega) hq (fun k h5 h6 => by have := j4 k (by omega) h6; simpa using this)
              rw [← e1]
              refine (h4 j (by omega) (by omega) hje).resolve_left fun hb => ?_
              have hjn : j < ops.size := by have := ht.size; omega
              have hoj := Array.getElem?_eq_getElem hjn
              have := inv.way c j _ hoj (inv.dn j _ hoj hjl) i hin hb
              rw [hnl] at this; cases this
        refine .inl (hop s a hσ g hops _ _ (fun v cv s' hN' g' x' hv => ?_) (fun _ _ _ hx => hx.elim))
        obtain ⟨rfl, hσ'⟩ := hN'
        refine ih _ _ _ (hnext hlt hdN g' x' hv hq (fun j h5 h6 => .inr (hq1 j h5 h6)) (fun h5 => ?_) hσ') hcount
        obtain ⟨b1, b2⟩ := hq2 h5
        exact ⟨b1, (fun e => by rw [e, hk] at b1; cases b1), b2⟩
      | eff =>
        obtain ⟨hg, h1, h2⟩ := hef hk
        rw [if_pos (by rw [hguard true hg])]
        have hqi : q = i := by
          rcases Nat.lt_trichotomy q i with h | h | h
          · obtain ⟨b1, b2⟩ := hq2 (by omega)
            rw [hway q (by omega) (h2 q (Nat.zero_le _) h b1)] at b2; cases b2
          · exact h
          · rw [hq1 i h hk] at hnl; cases hnl
        subst hqi
        obtain ⟨q', n1, n2, n3, n4⟩ := exists_next (fun j => decide (kd j = .eff)) m (m - (q + 1)) (q + 1) rfl (by omega)
        have e1 := ht.hconst q' (q + 1) (Nat.zero_le _) n1 n2 (fun j h5 h6 => by have := n3 j h5 h6; simpa using this)
        refine .inl (h1 s a hσ g hops _ _ (fun v cv s' hN' g' x' hv => ?_) (fun _ _ _ hx => hx.elim))
        obtain ⟨rfl, hσ'⟩ := hN'
        refine ih _ _ _ (hnext hlt hdN g' x' hv n2 (fun j h5 h6 => ?_) (fun h5 => ?_) (by rw [hσ', e1])) hcount
        · rcases Nat.lt_trichotomy j q with h | h | h
          · exact .inr (hq1 j h h6)
          · exact .inl h
          · have := n3 j (by omega) h5
            simp [h6] at this
        · have hke : kd q' = .eff := by simpa using n4 h5
          refine ⟨hke, by omega, ?_⟩
          cases hl : listed.getD q' false with
          | false => rfl
          | true =>
            have hjn : q' < ops.size := by have := ht.size; omega
            have hoj := Array.getElem?_eq_getElem hjn
            obtain ⟨oq, _, _, _, _, _, hefq, _⟩ := ht.step q' (Nat.zero_le _) h5
            have hb := (hefq hke).2.2 q (Nat.zero_le _) (by omega) hk
            have := inv.way c q' _ hoj (inv.dn q' _ hoj hl) q hin hb
            rw [hnl] at this; cases this
    · have hie : i = m := by omega
      subst hie
      rcases ht.fin with ⟨hm, _⟩ | ⟨om, vm, σm, hom, hg, hop, hch, _, hx⟩
      · omega
      · rw [ho] at hom; cases hom
        rw [if_pos (by rw [hguard true hg])]
        have hqi : q = i := by
          rcases Nat.lt_or_ge q i with h | h
          · obtain ⟨b1, b2⟩ := hq2 h
            rw [hway q (by omega) (hch q (Nat.zero_le _) h b1)] at b2; cases b2
          · omega
        subst hqi
        refine .inl (hop s a hσ g hops _ _ (fun _ _ _ hN' => hN'.elim) (fun v cv s' hX' g' x' hv => ?_))
        obtain ⟨rfl, hσ'⟩ := hX'
        refine ⟨s', rfl, g', x.trans x', ⟨(E 0).D, []⟩, ⟨hN, hdf.mono g x', fun t => .any _⟩, rfl, v, hv, hX _ _ _ rfl (by rw [hσ']; exact hx)⟩
/-- A region whose order is drawn: one plan, by the text's order, serves all. -/
theorem AWp_draw {id : Nat} {e : Env} {σ : List AO} {QA' : QA} (hm : P.follows .mixedOrders = true) (h1 : rchk ops tb = true) (h2 : tbOK ops tb = true)
    (h : RP P N ops tb (fun e σ => QA' .normal e σ) (fun v σ => ∀ e' : Env, e'.D = e.D → QA' (.pan v) e' σ) 0 e σ [] []) : AWp P N (.region id ops true) e σ QA' := by
  intro s0 s a hs g x he
  obtain ⟨m, E, H, val, kd, hE, hH, ht, _⟩ := h.trace (Nat.zero_le _)
  have c := Chk.of h1 h2
  refine wp_region_any hm ?_
  obtain ⟨g', x'⟩ := g.grow (w' := { s.w with drawn := s.w.drawn + 1 }) (Below.refl _ _).drew
  refine rp_sound c ht (fun _ _ h => h) (fun e' v σ' hd hx => hx e' (by rw [hd, hE])) ops.size _ a _ ?_ ?_
  · obtain ⟨q, n1, n2, n3, n4⟩ := exists_next (fun j => decide (kd j = .eff)) m (m - 0) 0 rfl (Nat.zero_le _)
    have hrep : ∀ j : Nat, (Array.replicate ops.size false).getD j false = false := fun j => by
      simp only [Array.getD_eq_getD_getElem?, Array.getElem?_replicate]
      split <;> rfl
    refine ⟨by simp, (fun j o _ hl => by rw [hrep] at hl; cases hl), (fun j hl => by rw [hrep] at hl; cases hl), _, q, rfl, g', x.trans x', n2, (fun j h3 h4 => by have := n3 j (Nat.zero_le _) h3; simp [h4] at this), (fun h3 => ⟨by simpa using n4 h3, hrep q⟩), ?_, he.size, (by rw [hE]; exact he.defers.mono g x'), fun t => ?_⟩
    · have e1 := ht.hconst q 0 (Nat.zero_le _) (Nat.zero_le _) n2 (fun j h5 h6 => by have := n3 j h5 h6; simpa using this)
      rw [← e1, hH]; exact hs
    · have h3 : lw ops (fun j => (Array.replicate ops.size false).getD j false) t ops.size = none := by
        rw [lw_cut (i := 0) (Nat.zero_le _) fun j _ _ _ => hrep j]; rfl
      unfold preA
      rw [h3, hE]
      exact (he.tmps t).mono g x'
  · have h3 := List.countP_le_length (l := List.range ops.size) (p := fun i => !(Array.replicate ops.size false).getD i false)
    rwa [List.length_range] at h3
end sound
end Lg
