/- A part of the proof of For every text the law PatchTells answers true, and it reads afterwards as before; the card ties the tables.: Lo2 Q2 Q3 Lo3 B5 Q5 Q4 Q6 W11 W10 W12 W13 W14 W15 W3. -/
import Derived.Test.YtjnofdnoboibpaaDoorP6
import Derived.Test.YtjnofdnoboibpaaDoorP4
import Derived.Test.YtjnofdnoboibpaaDoorP5
import Derived.Test.YtjnofdnoboibpaaDoorP3
set_option linter.unusedVariables false
set_option linter.unusedSimpArgs false
set_option linter.unusedSectionVars false
namespace Lg
open Go
theorem opn_mem {s : ByteArray} {c : Int} (h : opn s = c) (hc : c ≠ 0) : (s, c) ∈ opL := by
  unfold opn at h
  cases hf : opL.find? fun q => decide (s = q.1) with
  | none => rw [hf] at h; exact absurd h.symm hc
  | some q =>
    rw [hf] at h
    have hm := List.mem_of_find?_eq_some hf
    have hq := List.find?_some hf
    simp only [decide_eq_true_eq] at hq
    simp only [Option.map_some, Option.getD_some] at h
    obtain ⟨a, b⟩ := q
    simp only at hq h
    subst hq; subst h
    exact hm
theorem opn_range (s : ByteArray) : 0 ≤ opn s ∧ opn s ≤ 6 := by
  by_cases h : opn s = 0
  · omega
  · have hm := opn_mem rfl h
    have : ∀ q ∈ opL, 0 ≤ q.2 ∧ q.2 ≤ 6 := by decide +kernel
    exact this _ hm
def opNm : List ByteArray := [⟨#[]⟩, ⟨#[97, 100, 100]⟩, ⟨#[114, 101, 109, 111, 118, 101]⟩, ⟨#[114, 101, 112, 108, 97, 99, 101]⟩, ⟨#[109, 111, 118, 101]⟩, ⟨#[99, 111, 112, 121]⟩, ⟨#[116, 101, 115, 116]⟩]
theorem opn_nm : ∀ i : Fin 6, opn (opNm[i.val + 1]'(by have := i.isLt; show _ < 7; omega)) = (i.val + 1 : Nat) := by decide +kernel
theorem opn_at {i : Nat} {t : ByteArray} (h : opNm[i]? = some t) (h1 : 1 ≤ i) (s : ByteArray) : s = t ↔ opn s = (i : Int) := by
  have h7 := (List.getElem?_eq_some_iff.1 h)
  obtain ⟨hi, ht⟩ := h7
  have hi7 : i < 7 := hi
  have e := opn_nm ⟨i - 1, by omega⟩
  have hio : i - 1 + 1 = i := by omega
  simp only [hio] at e
  rw [ht] at e
  constructor
  · rintro rfl; exact e
  · intro hs
    have m1 := opn_mem hs (by omega)
    have m2 := opn_mem e (by omega)
    have inj : ∀ a ∈ opL, ∀ b ∈ opL, a.2 = b.2 → a.1 = b.1 := by decide +kernel
    exact inj _ m1 _ m2 rfl
/-- The reference's loop over the operations' names: what was found ahead of i. -/
def opc (v : JV) (i : Nat) : Int := if jfB v bOp = true ∧ (jfD v bOp).kind = 3 ∧ opn (jfD v bOp).s < i then opn (jfD v bOp).s else 0
theorem opc_1 (v : JV) : opc v 1 = 0 := by
  have := opn_range (jfD v bOp).s
  unfold opc
  by_cases h : jfB v bOp = true ∧ (jfD v bOp).kind = 3 ∧ opn (jfD v bOp).s < ((1 : Nat) : Int)
  · rw [if_pos h]
    have h1 : opn (jfD v bOp).s < 1 := h.2.2
    have h2 := this.1
    omega
  · rw [if_neg h]
theorem opc_7 (v : JV) : opc v 7 = jopn v := by
  have := opn_range (jfD v bOp).s
  unfold opc jopn
  by_cases h : jfB v bOp = true ∧ (jfD v bOp).kind = 3
  · have h7 : opn (jfD v bOp).s < ((7 : Nat) : Int) := Int.lt_of_le_of_lt this.2 (by decide)
    rw [if_pos h, if_pos ⟨h.1, h.2, h7⟩]
  · rw [if_neg h, if_neg (fun x => h ⟨x.1, x.2.1⟩)]
theorem opc_no {v : JV} (h : jfB v bOp = false) (i : Nat) : opc v i = jopn v := by
  unfold opc jopn; rw [if_neg (by simp [h]), if_neg (by simp [h])]
theorem opc_hit {v : JV} {i : Nat} {t : ByteArray} (hb : jfB v bOp = true) (hk : (jfD v bOp).kind = 3) (ht : opNm[i]? = some t) (h1 : 1 ≤ i) (h : (jfD v bOp).s = t) : opc v (i + 1) = (i : Int) := by
  have := (opn_at ht h1 _).1 h
  have h7 : opn (jfD v bOp).s < ((i + 1 : Nat) : Int) := by omega
  unfold opc; rw [if_pos ⟨hb, hk, h7⟩, this]
theorem opc_miss {v : JV} {i : Nat} {t : ByteArray} (ht : opNm[i]? = some t) (h1 : 1 ≤ i) (h : ¬ (jfD v bOp).s = t) : opc v (i + 1) = opc v i := by
  have hne : ¬ opn (jfD v bOp).s = (i : Int) := fun e => h ((opn_at ht h1 _).2 e)
  unfold opc
  by_cases hc : jfB v bOp = true ∧ (jfD v bOp).kind = 3 ∧ opn (jfD v bOp).s < i
  · have h9 := hc.2.2
    have h7 : opn (jfD v bOp).s < ((i + 1 : Nat) : Int) := by omega
    rw [if_pos hc, if_pos ⟨hc.1, hc.2.1, h7⟩]
  · have h7 : ¬ (jfB v bOp = true ∧ (jfD v bOp).kind = 3 ∧ opn (jfD v bOp).s < ((i + 1 : Nat) : Int)) := fun x => hc ⟨x.1, x.2.1, by have h8 := x.2.2; omega⟩
    rw [if_neg hc, if_neg h7]
theorem opc_k {v : JV} {i : Nat} (hk : ¬ (jfD v bOp).kind = 3) : opc v (i + 1) = opc v i := by
  unfold opc; rw [if_neg (fun x => hk x.2.1), if_neg (fun x => hk x.2.1)]
theorem jopn_range (v : JV) : 0 ≤ jopn v ∧ jopn v ≤ 6 := by
  unfold jopn; split
  · exact opn_range _
  · omega
theorem jopn_eq {v : JV} (h1 : jfB v bOp = true) (h2 : (jfD v bOp).kind = 3) : jopn v = opn (jfD v bOp).s := by unfold jopn; rw [if_pos ⟨h1, h2⟩]
theorem jopn_no {v : JV} (h : jfB v bOp = false ∨ ¬ (jfD v bOp).kind = 3) : jopn v = 0 := by
  unfold jopn; rw [if_neg]; rintro ⟨a, b⟩; rcases h with h | h
  · rw [a] at h; cases h
  · exact h b
theorem jop_n1 {v : JV} (h : jopn v = 0) : jop v = none := by unfold jop; rw [if_pos h]
theorem jop_n2 {v : JV} (h : jptB v bPath = false) : jop v = none := by unfold jop; rw [h]; simp
theorem jop_fr {v : JV} (hp : jptB v bPath = true) (h : jopn v = 4 ∨ jopn v = 5) : jop v = if jptB v bFrom = true then some ⟨jopn v, jptN v bPath, jptN v bFrom, vz⟩ else none := by
  unfold jop; rw [if_neg (by omega), if_neg (by simp [hp]), if_pos h]
theorem jop_rm {v : JV} (hp : jptB v bPath = true) (h : jopn v = 2) : jop v = some ⟨2, jptN v bPath, [], vz⟩ := by
  unfold jop; rw [if_neg (by omega), if_neg (by simp [hp]), if_neg (by omega), if_pos h]
theorem jop_vl {v : JV} (hp : jptB v bPath = true) (h0 : ¬ jopn v = 0) (h4 : ¬ (jopn v = 4 ∨ jopn v = 5)) (h2 : ¬ jopn v = 2) : jop v = if jfB v bValue = true then some ⟨jopn v, jptN v bPath, [], jfD v bValue⟩ else none := by
  unfold jop; rw [if_neg h0, if_neg (by simp [hp]), if_neg h4, if_neg h2]
theorem pEi_lt (s : BL) : decide (pEi s < 0) = (pE s).isNone := by
  unfold pEi
  cases pE s with
  | none => rfl
  | some i => simp
theorem jpt_yes {v : JV} {key : ByteArray} (h1 : jfB v key = true) (h2 : (jfD v key).kind = 3) : jptN v key = pN (jfD v key).s.data.toList ∧ jptB v key = (pE (jfD v key).s.data.toList).isNone := by
  unfold jptN jptB; rw [if_pos ⟨h1, h2⟩, h1, h2]; simp
theorem jpt_no {v : JV} {key : ByteArray} (h : jfB v key = false ∨ ¬ (jfD v key).kind = 3) : jptN v key = [] ∧ jptB v key = false := by
  unfold jptN jptB
  rcases h with h | h
  · rw [if_neg (by simp [h]), h]; simp
  · rw [if_neg (by simp [h]), decide_eq_false h]; simp
section
variable [GLay]
theorem jfD_jb {v : JV} {key : ByteArray} (h : jb v) : jb (jfD v key) := by
  unfold jfD
  cases hf : jfind v key with
  | none => exact jb_nil _ _ _ _ (Nat.zero_le _) (Nat.zero_le _)
  | some x =>
    unfold jfind at hf
    split at hf
    · rw [Option.map_eq_some_iff] at hf
      obtain ⟨q, hq, rfl⟩ := hf
      obtain ⟨j, hj⟩ := List.getElem?_of_mem (List.mem_of_find?_eq_some hq)
      exact (mb_get ((jb_eq v).1 h).2.2.2.2.2 hj).2
    · cases hf
theorem jfD_size {v : JV} {key : ByteArray} {n : Int} (hs : jsize v ≤ n) (hn : 1 ≤ n) : jsize (jfD v key) ≤ n := by
  unfold jfD
  cases hf : jfind v key with
  | none => simp only [Option.getD_none, vz, jsize_nil]; omega
  | some x =>
    unfold jfind at hf
    split at hf
    · rw [Option.map_eq_some_iff] at hf
      obtain ⟨q, hq, rfl⟩ := hf
      obtain ⟨j, hj⟩ := List.getElem?_of_mem (List.mem_of_find?_eq_some hq)
      have h1 := msize_mem hj
      have h2 := jsize_eq v
      have h3 := lsize_nn v.l
      simp only [Option.getD_some]; omega
    · cases hf
/-- Operations whose parts are not too large. -/
structure OB (o : JOp) : Prop where
  jb : jb o.v
  pa : o.pa.length ≤ 2000000
  fr : o.fr.length ≤ 2000000
theorem jptN_len {v : JV} {key : ByteArray} (h : jb v) (hb : jptB v key = true) : (jptN v key).length ≤ 2000000 := by
  by_cases h1 : jfB v key = true
  · by_cases h2 : (jfD v key).kind = 3
    · obtain ⟨e1, e2⟩ := jpt_yes h1 h2
      rw [e1]
      rw [e2] at hb
      have h3 : pE (jfD v key).s.data.toList = none := by
        cases hp : pE (jfD v key).s.data.toList with
        | none => rfl
        | some i => rw [hp] at hb; cases hb
      have h4 := (pN_len h3).1
      have h5 := ((jb_eq _).1 (jfD_jb (key := key) h)).2.1
      have h6 : (jfD v key).s.data.toList.length = (jfD v key).s.size := Array.length_toList ..
      omega
    · rw [(jpt_no (.inr h2)).1]; exact Nat.zero_le _
  · rw [(jpt_no (.inl (by simpa using h1))).1]; exact Nat.zero_le _
theorem jop_ok {v : JV} {o : JOp} (h : jb v) (ho : jop v = some o) : OB o := by
  have hz : jb vz := jb_nil _ _ _ _ (Nat.zero_le _) (Nat.zero_le _)
  by_cases h0 : jopn v = 0
  · rw [jop_n1 h0] at ho; cases ho
  · by_cases hp : jptB v bPath = true
    · have hpl := jptN_len h hp
      by_cases h4 : jopn v = 4 ∨ jopn v = 5
      · rw [jop_fr hp h4] at ho
        split at ho
        · rename_i hf; cases ho; exact ⟨hz, hpl, jptN_len h hf⟩
        · cases ho
      · by_cases h2 : jopn v = 2
        · rw [jop_rm hp h2] at ho; cases ho; exact ⟨hz, hpl, Nat.zero_le _⟩
        · rw [jop_vl hp h0 h4 h2] at ho
          split at ho
          · cases ho; exact ⟨jfD_jb h, hpl, Nat.zero_le _⟩
          · cases ho
    · rw [jop_n2 (by simpa using hp)] at ho; cases ho
theorem jops_ok {l : List JV} {os : List JOp} (hl : lb l) (h : jops l = some os) : ∀ o ∈ os, OB o := by
  induction l generalizing os with
  | nil => simp [jops] at h; subst h; intro o ho; cases ho
  | cons a r ih =>
    rw [jops] at h
    cases ha : jop a with
    | none => rw [ha] at h; cases h
    | some o =>
      rw [ha] at h
      simp only [Option.map_eq_some_iff] at h
      obtain ⟨os', h1, rfl⟩ := h
      intro p hp
      rcases List.mem_cons.1 hp with rfl | hp
      · exact jop_ok hl.1 ha
      · exact ih hl.2 h1 p hp
theorem jrd_ok2 {v : JV} (h : jb v) : (jrd v).length ≤ 1000000 ∧ ∀ o ∈ jrd v, OB o := by
  have hl := (jb_eq v).1 h
  unfold jrd
  split
  · exact ⟨Nat.zero_le _, fun o ho => by cases ho⟩
  · split
    · exact ⟨Nat.zero_le _, fun o ho => by cases ho⟩
    · cases hj : jops v.l with
      | none => exact ⟨Nat.zero_le _, fun o ho => by cases ho⟩
      | some os => exact ⟨by rw [Option.getD_some, jops_len hj]; omega, jops_ok hl.2.2.2.2.1 hj⟩
end
theorem jrdA_0 {v : JV} (h : jrdC v = 0) : jrdA v = 0 := by
  unfold jrdC at h; unfold jrdA
  split at h
  · omega
  · split at h
    · omega
    · split at h
      · omega
      · rename_i h1 h2 h3; rw [if_neg h1, if_neg h2, if_neg h3]
end Lg
set_option maxRecDepth 20000
set_option maxHeartbeats 4000000
namespace Lg
open Go Go.Proofs Go.RowKit
variable [GLay] [ML]
theorem ptrQ_c (s : ByteArray) (σ : List AO) (hs : s.size ≤ 1000000) : ACalls Tryd.prog 92 [.str s] σ (Ret (.tup [.sl false 1 (srow (pN s.data.toList)), errV ((pE s.data.toList).map fun i => ((i : Int), (1 : Int)))]) σ) := by
  have hl : s.data.toList.length = s.size := Array.length_toList ..
  have h := ptrP_c s.data.toList σ (by omega)
  rw [← ba_eta] at h; exact h
theorem rptrQ_c (s : ByteArray) (σ : List AO) (hs : s.size ≤ 1000000) : ACalls Tryd.prog 93 [.str s] σ (Ret (.tup [.sl false 1 (srow (pN s.data.toList)), .int .i64 (pEi s.data.toList)]) σ) := by
  have hl : s.data.toList.length = s.size := Array.length_toList ..
  have h := rptr_c s.data.toList σ (by omega)
  rw [← ba_eta] at h; exact h
theorem op_eqErr {P : Program} {σ : List AO} {e : Env} {o : Oper} {T T' : TypeId} {x : Operand} {ms : Array (String × TypeId)} {z : Option (Int × Int)} (ho : o.op = .binOp .eql T x (.const .nilIface) T') (hu : P.underlying T = some (.interface ms)) (hx : opO e x = some (errV z)) : AOp P σ e o (.bool z.isNone) σ := by
  cases z with
  | none => exact op_eqINil ho hu hx
  | some z => exact op_eqIN ho hu hx
theorem findQ_c (v : JV) (key : ByteArray) (cs : List AV) (σ : List AO) (hc : vcells v = cs) (hb : v.m.length ≤ 1000000) : ACalls Tryd.prog 72 [.agg cs, .str key] σ (Ret (.tup [.agg (vcells (jfD v key)), .bool (jfB v key)]) σ) := by
  subst hc; exact FindR.ret (find_c v key σ hb)
theorem rfindQ_c (v : JV) (key : ByteArray) (cs : List AV) (σ : List AO) (hc : vcells v = cs) (hb : v.m.length ≤ 1000000) : ACalls Tryd.prog 49 [.agg cs, .str key] σ (Ret (.tup [.agg (vcells (jfD v key)), .bool (jfB v key)]) σ) := by
  subst hc; exact FindR.ret (rfind_c v key σ hb)
theorem pptrM_c (v : JV) (key : ByteArray) (cs : List AV) (σ : List AO) (hc : vcells v = cs) (hb : v.m.length ≤ 1000000) (hs : (jfD v key).s.size ≤ 1000000) : ACalls Tryd.prog 74 [.agg cs, .str key] σ (Ret (.tup [.sl false 1 (srow (jptN v key)), .bool (jptB v key)]) σ) := by
 refine ACalls_body Tryd.func74 rfl Tryd.ntmps74 (res2 Tryd.results74) (Nat.le_of_ble_eq_true rfl) (fun hcl hal => ?_)
 subst hc
 rw [vcells_eq v]
 refine zw3 ?_
 refine zu2 ?_
 refine zt rfl (zc rfl (findQ_c v key _ _ (vcells_eq v) hb)) ?_
 rw [vcells_eq (jfD v key)]
 refine zv6 ?_
 refine AWp_seq ?_
 refine zu3 ?_
 refine zsp 18 rfl (fun h1 => ?_) fun h1 => ?_
 ·rw [h1]; replace h1 := zcl h1
  refine zv4 ?_
  refine AWp_condT rfl ?_
  refine zw2 ?_
  refine AWp_slotLe 4 rfl (AVle.nils false 1) ?_ (by decide)
  refine zrt ?_
  have hp := jpt_no (v := v) (key := key) (.inl (by simpa using h1))
  rw [hp.1, hp.2]
  exact ResQ_2 rfl rfl hcl (by simp [AV.lt, AV.ltL, AV.ltLL]) (Ret_of rfl)
 ·rw [h1]; replace h1 := zcl h1
  refine zv4 ?_
  refine AWp_cond rfl (fun h2 => ?_) (fun h2 => ?_)
  ·(try rw [h2]); replace h2 := zcl h2
   refine zw2 ?_
   refine AWp_slotLe 4 rfl (AVle.nils false 1) ?_ (by decide)
   refine zrt ?_
   have hp := jpt_no (v := v) (key := key) (.inr h2)
   rw [hp.1, hp.2]
   exact ResQ_2 rfl rfl hcl (by simp [AV.lt, AV.ltL, AV.ltLL]) (Ret_of rfl)
  ·(try rw [h2]); replace h2 := zcl h2
   have hp := jpt_yes (key := key) (by simpa using h1) h2
   refine AWp_skip ?_
   refine zu2 ?_
   refine zt rfl (zc rfl (ptrQ_c (jfD v key).s _ hs)) ?_
   refine zv5 ?_
   refine AWp_seq ?_
   refine AWp_drawL #[0, 0, 2, 1, 15] Tryd.mixed (by decide +kernel) (by decide +kernel) ?_
   refine zd2 ?_
   refine yA rfl rfl (fun _ => op_eqErr rfl Tryd.underlying35 rfl) ?_
   refine zd2 ?_
   refine RP.nil rfl ?_
   refine zrt ?_
   rw [hp.1, hp.2]
   exact ResQ_2 rfl rfl hcl (by simp [AV.lt, AV.ltL]) (Ret_of (by cases pE (jfD v key).s.data.toList <;> rfl))

theorem rptrM_c (v : JV) (key : ByteArray) (cs : List AV) (σ : List AO) (hc : vcells v = cs) (hb : v.m.length ≤ 1000000) (hs : (jfD v key).s.size ≤ 1000000) : ACalls Tryd.prog 75 [.agg cs, .str key] σ (Ret (.tup [.sl false 1 (srow (jptN v key)), .bool (jptB v key)]) σ) := by
 refine ACalls_body Tryd.func75 rfl Tryd.ntmps75 (res2 Tryd.results75) (Nat.le_of_ble_eq_true rfl) (fun hcl hal => ?_)
 subst hc
 rw [vcells_eq v]
 refine zw3 ?_
 refine zu2 ?_
 refine zt rfl (zc rfl (rfindQ_c v key _ _ (vcells_eq v) hb)) ?_
 rw [vcells_eq (jfD v key)]
 refine zv6 ?_
 refine AWp_seq ?_
 refine zu3 ?_
 refine zsp 18 rfl (fun h1 => ?_) fun h1 => ?_
 ·rw [h1]; replace h1 := zcl h1
  refine zv4 ?_
  refine AWp_condT rfl ?_
  refine zw2 ?_
  refine AWp_slotLe 4 rfl (AVle.nils false 1) ?_ (by decide)
  refine zrt ?_
  have hp := jpt_no (v := v) (key := key) (.inl (by simpa using h1))
  rw [hp.1, hp.2]
  exact ResQ_2 rfl rfl hcl (by simp [AV.lt, AV.ltL, AV.ltLL]) (Ret_of rfl)
 ·rw [h1]; replace h1 := zcl h1
  refine zv4 ?_
  refine AWp_cond rfl (fun h2 => ?_) (fun h2 => ?_)
  ·(try rw [h2]); replace h2 := zcl h2
   refine zw2 ?_
   refine AWp_slotLe 4 rfl (AVle.nils false 1) ?_ (by decide)
   refine zrt ?_
   have hp := jpt_no (v := v) (key := key) (.inr h2)
   rw [hp.1, hp.2]
   exact ResQ_2 rfl rfl hcl (by simp [AV.lt, AV.ltL, AV.ltLL]) (Ret_of rfl)
  ·(try rw [h2]); replace h2 := zcl h2
   have hp := jpt_yes (key := key) (by simpa using h1) h2
   refine AWp_skip ?_
   refine zu2 ?_
   refine zt rfl (zc rfl (rptrQ_c (jfD v key).s _ hs)) ?_
   refine zv5 ?_
   refine zw5 ?_
   refine zrt ?_
   rw [hp.1, hp.2]
   exact ResQ_2 rfl rfl hcl (by simp [AV.lt, AV.ltL]) (Ret_of (by rw [pEi_lt]))

theorem known_c (s : ByteArray) (σ : List AO) : ACalls Tryd.prog 73 [.str s] σ (Ret (.tup [.int .i64 (opn s), .bool (decide (opn s ≠ 0))]) σ) := by
 refine ACalls_body Tryd.func73 rfl Tryd.ntmps73 (res2 Tryd.results73) (Nat.le_of_ble_eq_true rfl) (fun hcl hal => ?_)
 refine zw2 ?_
 refine AWp_seq ?_
 refine zw1 ?_
 refine AWp_block ?_
 refine zw2 ?_
 refine AWp_cond rfl (fun h1 => ?_) (fun h1 => ?_)
 ·(try rw [h1]); replace h1 := zcl h1
  have hk : opn s = 1 := by rw [h1]; decide +kernel
  refine zw2 ?_
  refine zrt ?_
  rw [hk]; exact ResQ_20 rfl rfl hcl (by simp [AV.lt, AV.ltL]) (Ret_of rfl)
 ·(try rw [h1]); replace h1 := zcl h1
  refine zw2 ?_
  refine AWp_cond rfl (fun h2 => ?_) (fun h2 => ?_)
  ·(try rw [h2]); replace h2 := zcl h2
   have hk : opn s = 2 := by rw [h2]; decide +kernel
   refine zw2 ?_
   refine zrt ?_
   rw [hk]; exact ResQ_20 rfl rfl hcl (by simp [AV.lt, AV.ltL]) (Ret_of rfl)
  ·(try rw [h2]); replace h2 := zcl h2
   refine zw2 ?_
   refine AWp_cond rfl (fun h3 => ?_) (fun h3 => ?_)
   ·(try rw [h3]); replace h3 := zcl h3
    have hk : opn s = 3 := by rw [h3]; decide +kernel
    refine zw2 ?_
    refine zrt ?_
    rw [hk]; exact ResQ_20 rfl rfl hcl (by simp [AV.lt, AV.ltL]) (Ret_of rfl)
   ·(try rw [h3]); replace h3 := zcl h3
    refine zw2 ?_
    refine AWp_cond rfl (fun h4 => ?_) (fun h4 => ?_)
    ·(try rw [h4]); replace h4 := zcl h4
     have hk : opn s = 4 := by rw [h4]; decide +kernel
     refine zw2 ?_
     refine zrt ?_
     rw [hk]; exact ResQ_20 rfl rfl hcl (by simp [AV.lt, AV.ltL]) (Ret_of rfl)
    ·(try rw [h4]); replace h4 := zcl h4
     refine zw2 ?_
     refine AWp_cond rfl (fun h5 => ?_) (fun h5 => ?_)
     ·(try rw [h5]); replace h5 := zcl h5
      have hk : opn s = 5 := by rw [h5]; decide +kernel
      refine zw2 ?_
      refine zrt ?_
      rw [hk]; exact ResQ_20 rfl rfl hcl (by simp [AV.lt, AV.ltL]) (Ret_of rfl)
     ·(try rw [h5]); replace h5 := zcl h5
      refine zw2 ?_
      refine AWp_cond rfl (fun h6 => ?_) (fun h6 => ?_)
      ·(try rw [h6]); replace h6 := zcl h6
       have hk : opn s = 6 := by rw [h6]; decide +kernel
       refine zw2 ?_
       refine zrt ?_
       rw [hk]; exact ResQ_20 rfl rfl hcl (by simp [AV.lt, AV.ltL]) (Ret_of rfl)
      ·(try rw [h6]); replace h6 := zcl h6
       refine AWp_skip ?_
       refine zw2 ?_
       refine zrt ?_
       have hk : opn s = 0 := by simp [opn, opL, *]
       rw [hk]; exact ResQ_20 rfl rfl hcl (by simp [AV.lt, AV.ltL]) (Ret_of rfl)
end Lg
set_option maxRecDepth 20000
set_option maxHeartbeats 4000000
namespace Lg
open Go Go.Proofs Go.RowKit
variable [GLay] [ML]
theorem one_c (v : JV) (cs : List AV) (σ : List AO) (hc : vcells v = cs) (hjb : jb v) : ACalls Tryd.prog 44 [.agg cs] σ (OpR v σ) := by
 have hmz := ((jb_eq v).1 hjb).2.2.2.1
 have hjp := ((jb_eq _).1 (jfD_jb (key := bPath) hjb)).2.1
 have hjf := ((jb_eq _).1 (jfD_jb (key := bFrom) hjb)).2.1
 refine ACalls_bodyC Tryd.func44 rfl Tryd.ntmps44 (by rw [Tryd.results44]; exact (.ck Tryd.isAgg92 Tryd.sizeOf92 (.t .nil))) (Nat.le_of_ble_eq_true rfl) (fun hcl hal => ?_)
 subst hc
 rw [vcells_eq v]
 have hor := opn_range (jfD v bOp).s
 refine zw3 ?_
 refine zu1 ?_
 refine zt rfl (zc rfl (findQ_c v bOp _ _ (vcells_eq v) hmz)) ?_
 rw [vcells_eq (jfD v bOp)]
 refine zv6 ?_
 refine AWp_seq ?_
 refine zu3 ?_
 refine zsp 15 rfl (fun h1 => ?_) fun h1 => ?_
 ·rw [h1]; replace h1 := zcl h1
  refine zv4 ?_
  refine AWp_condT rfl ?_
  refine zw3 ?_
  refine zrt ?_
  refine RQ_ret (rkvs_cons (rkv_ck rfl rfl rfl) (rkvs_cons (rkv_t rfl) rfl)) hcl (by simp [rks, AV.lt, AV.ltL]) ⟨rfl, _, ⟨0, [], [], vz⟩, false, rfl, oz, (fun h => by cases h), fun _ => jop_n1 (jopn_no (.inl (by simpa using h1)))⟩
 ·rw [h1]; replace h1 := zcl h1
  refine zv4 ?_
  refine AWp_cond rfl (fun h2 => ?_) (fun h2 => ?_)
  ·(try rw [h2]); replace h2 := zcl h2
   refine zw3 ?_
   refine zrt ?_
   refine RQ_ret (rkvs_cons (rkv_ck rfl rfl rfl) (rkvs_cons (rkv_t rfl) rfl)) hcl (by simp [rks, AV.lt, AV.ltL]) ⟨rfl, _, ⟨0, [], [], vz⟩, false, rfl, oz, (fun h => by cases h), fun _ => jop_n1 (jopn_no (.inr h2))⟩
  ·(try rw [h2]); replace h2 := zcl h2
   have hjo : jopn v = opn (jfD v bOp).s := jopn_eq (by simpa using h1) h2
   refine AWp_skip ?_
   refine zu2 ?_
   refine zt rfl (zc rfl (known_c (jfD v bOp).s _)) ?_
   refine zv5 ?_
   refine AWp_seq ?_
   refine zw2 ?_
   refine AWp_cond rfl (fun h3 => ?_) (fun h3 => ?_)
   ·(try rw [h3]); replace h3 := zcl h3
    refine zw3 ?_
    refine zrt ?_
    refine RQ_ret (rkvs_cons (rkv_ck rfl rfl rfl) (rkvs_cons (rkv_t rfl) rfl)) hcl (by simp [rks, AV.lt, AV.ltL]) ⟨rfl, _, ⟨0, [], [], vz⟩, false, rfl, oz, (fun h => by cases h), fun _ => jop_n1 (by rw [hjo]; simpa using h3)⟩
   ·(try rw [h3]); replace h3 := zcl h3
    refine AWp_skip ?_
    refine zw4 ?_
    refine AWp_seq ?_
    refine zu1 ?_
    refine zt rfl (zc rfl (pptrM_c v bPath _ _ (vcells_eq v) hmz hjp)) ?_
    refine zv6 ?_
    refine zw2 ?_
    refine AWp_cond rfl (fun h4 => ?_) (fun h4 => ?_)
    ·(try rw [h4]); replace h4 := zcl h4
     refine zw3 ?_
     refine zrt ?_
     refine RQ_ret (rkvs_cons (rkv_ck rfl rfl rfl) (rkvs_cons (rkv_t rfl) rfl)) hcl (by simp [rks, AV.lt, AV.ltL]) ⟨rfl, _, ⟨0, [], [], vz⟩, false, rfl, oz, (fun h => by cases h), fun _ => jop_n2 (by simpa using h4)⟩
    ·(try rw [h4]); replace h4 := zcl h4
     have hpb : jptB v bPath = true := by simpa using h4
     have h0 : ¬ opn (jfD v bOp).s = 0 := by simpa using h3
     refine AWp_skip ?_
     refine AWp_seq ?_
     refine zw1 ?_
     refine AWp_block ?_
     refine AWp_seq ?_
     refine zw2 ?_
     refine AWp_cond rfl (fun h5 => ?_) (fun h5 => ?_)
     ·(try rw [h5]); replace h5 := zcl h5
      refine AWp_skip ?_
      refine AWp_condT rfl ?_
      refine AWp_regL ?_
      refine zg1 ?_
      refine zt rfl (zc rfl (pptrM_c v bFrom _ _ (vcells_eq v) hmz hjf)) ?_
      refine zv6 ?_
      refine zw4 ?_
      refine zrt ?_
      refine RQ_ret (rkvs_cons (rkv_ck rfl rfl rfl) (rkvs_cons (rkv_t rfl) rfl)) hcl (by simp [rks, AV.lt, AV.ltL]) ⟨rfl, _, ⟨opn (jfD v bOp).s, jptN v bPath, jptN v bFrom, vz⟩, jptB v bFrom, rfl, ?_, ?_, ?_⟩
      ·rw [ocells_eq]; exact ⟨AVle.refl _, AVle.refl _, AVle.refl _, AVle.refl _, AVle.refl _, AVle.refl _, AVle.refl _, AVle.refl _, AVle.refl _, nilL, nilM, trivial⟩
      ·intro h; rw [jop_fr hpb (by rw [hjo]; omega), if_pos h, hjo]
      ·intro h; rw [jop_fr hpb (by rw [hjo]; omega), if_neg (by rw [h]; decide)]
     ·(try rw [h5]); replace h5 := zcl h5
      refine AWp_regL ?_
      refine zv2 ?_
      refine AWp_cond rfl (fun h6 => ?_) (fun h6 => ?_)
      ·(try rw [h6]); replace h6 := zcl h6
       refine AWp_regL ?_
       refine zg1 ?_
       refine zt rfl (zc rfl (pptrM_c v bFrom _ _ (vcells_eq v) hmz hjf)) ?_
       refine zv6 ?_
       refine zw4 ?_
       refine zrt ?_
       refine RQ_ret (rkvs_cons (rkv_ck rfl rfl rfl) (rkvs_cons (rkv_t rfl) rfl)) hcl (by simp [rks, AV.lt, AV.ltL]) ⟨rfl, _, ⟨opn (jfD v bOp).s, jptN v bPath, jptN v bFrom, vz⟩, jptB v bFrom, rfl, ?_, ?_, ?_⟩
       ·rw [ocells_eq]; exact ⟨AVle.refl _, AVle.refl _, AVle.refl _, AVle.refl _, AVle.refl _, AVle.refl _, AVle.refl _, AVle.refl _, AVle.refl _, nilL, nilM, trivial⟩
       ·intro h; rw [jop_fr hpb (by rw [hjo]; omega), if_pos h, hjo]
       ·intro h; rw [jop_fr hpb (by rw [hjo]; omega), if_neg (by rw [h]; decide)]
      ·(try rw [h6]); replace h6 := zcl h6
       refine AWp_seq ?_
       refine zw2 ?_
       refine AWp_cond rfl (fun h7 => ?_) (fun h7 => ?_)
       ·(try rw [h7]); replace h7 := zcl h7
        refine AWp_skip ?_
        refine AWp_condT rfl ?_
        refine AWp_regL ?_
        refine zg1 ?_
        refine zt rfl (zc rfl (findQ_c v bValue _ _ (vcells_eq v) hmz)) ?_
        rw [vcells_eq (jfD v bValue)]
        refine zv6 ?_
        refine zw4 ?_
        refine zrt ?_
        refine RQ_ret (rkvs_cons (rkv_ck rfl rfl rfl) (rkvs_cons (rkv_t rfl) rfl)) hcl (by simp [rks, AV.lt, AV.ltL]) ⟨rfl, _, ⟨opn (jfD v bOp).s, jptN v bPath, [], jfD v bValue⟩, jfB v bValue, rfl, ?_, ?_, ?_⟩
        ·rw [ocells_eq]; exact ⟨AVle.refl _, AVle.refl _, AVle.nils false 1, AVle.refl _, AVle.refl _, AVle.refl _, AVle.refl _, AVle.refl _, AVle.refl _, AVle.refl _, AVle.refl _, trivial⟩
        ·intro h; rw [jop_vl hpb (by rw [hjo]; omega) (by rw [hjo]; omega) (by rw [hjo]; omega), if_pos h, hjo]
        ·intro h; rw [jop_vl hpb (by rw [hjo]; omega) (by rw [hjo]; omega) (by rw [hjo]; omega), if_neg (by rw [h]; decide)]
       ·(try rw [h7]); replace h7 := zcl h7
        refine zw2 ?_
        refine AWp_cond rfl (fun h8 => ?_) (fun h8 => ?_)
        ·(try rw [h8]); replace h8 := zcl h8
         refine AWp_skip ?_
         refine AWp_condT rfl ?_
         refine AWp_regL ?_
         refine zg1 ?_
         refine zt rfl (zc rfl (findQ_c v bValue _ _ (vcells_eq v) hmz)) ?_
         rw [vcells_eq (jfD v bValue)]
         refine zv6 ?_
         refine zw4 ?_
         refine zrt ?_
         refine RQ_ret (rkvs_cons (rkv_ck rfl rfl rfl) (rkvs_cons (rkv_t rfl) rfl)) hcl (by simp [rks, AV.lt, AV.ltL]) ⟨rfl, _, ⟨opn (jfD v bOp).s, jptN v bPath, [], jfD v bValue⟩, jfB v bValue, rfl, ?_, ?_, ?_⟩
         ·rw [ocells_eq]; exact ⟨AVle.refl _, AVle.refl _, AVle.nils false 1, AVle.refl _, AVle.refl _, AVle.refl _, AVle.refl _, AVle.refl _, AVle.refl _, AVle.refl _, AVle.refl _, trivial⟩
         ·intro h; rw [jop_vl hpb (by rw [hjo]; omega) (by rw [hjo]; omega) (by rw [hjo]; omega), if_pos h, hjo]
         ·intro h; rw [jop_vl hpb (by rw [hjo]; omega) (by rw [hjo]; omega) (by rw [hjo]; omega), if_neg (by rw [h]; decide)]
        ·(try rw [h8]); replace h8 := zcl h8
         refine AWp_regL ?_
         refine zv2 ?_
         refine AWp_cond rfl (fun h9 => ?_) (fun h9 => ?_)
         ·(try rw [h9]); replace h9 := zcl h9
          refine AWp_regL ?_
          refine zg1 ?_
          refine zt rfl (zc rfl (findQ_c v bValue _ _ (vcells_eq v) hmz)) ?_
          rw [vcells_eq (jfD v bValue)]
          refine zv6 ?_
          refine zw4 ?_
          refine zrt ?_
          refine RQ_ret (rkvs_cons (rkv_ck rfl rfl rfl) (rkvs_cons (rkv_t rfl) rfl)) hcl (by simp [rks, AV.lt, AV.ltL]) ⟨rfl, _, ⟨opn (jfD v bOp).s, jptN v bPath, [], jfD v bValue⟩, jfB v bValue, rfl, ?_, ?_, ?_⟩
          ·rw [ocells_eq]; exact ⟨AVle.refl _, AVle.refl _, AVle.nils false 1, AVle.refl _, AVle.refl _, AVle.refl _, AVle.refl _, AVle.refl _, AVle.refl _, AVle.refl _, AVle.refl _, trivial⟩
          ·intro h; rw [jop_vl hpb (by rw [hjo]; omega) (by rw [hjo]; omega) (by rw [hjo]; omega), if_pos h, hjo]
          ·intro h; rw [jop_vl hpb (by rw [hjo]; omega) (by rw [hjo]; omega) (by rw [hjo]; omega), if_neg (by rw [h]; decide)]
         ·(try rw [h9]); replace h9 := zcl h9
          refine AWp_skip ?_
          refine zw4 ?_
          refine zrt ?_
          refine RQ_ret (rkvs_cons (rkv_ck rfl rfl rfl) (rkvs_cons (rkv_t rfl) rfl)) hcl (by simp [rks, AV.lt, AV.ltL]) ⟨rfl, _, ⟨opn (jfD v bOp).s, jptN v bPath, [], vz⟩, jptB v bPath, rfl, ?_, ?_, ?_⟩
          ·rw [ocells_eq]; exact ⟨AVle.refl _, AVle.refl _, AVle.nils false 1, AVle.refl _, AVle.refl _, AVle.refl _, AVle.refl _, AVle.refl _, AVle.refl _, nilL, nilM, trivial⟩
          ·intro _; rw [jop_rm hpb (by rw [hjo]; omega), show opn (jfD v bOp).s = 2 by omega]
          ·intro h; rw [hpb] at h; cases h
end Lg
namespace Lg
open Go
def ex8 : ByteArray := ⟨#[91, 123, 34, 111, 112, 34, 58, 34, 114, 101, 109, 111, 118, 101, 34, 44, 34, 112, 97, 116, 104, 34, 58, 34, 47, 97, 34, 125, 93]⟩
theorem ex8_0 : (rParse ex8).2.1 = 0 := by rw [rParse_C (by decide)]; decide +kernel
theorem ex8_a : jrdC (rParse ex8).1 = 0 ∧ (jrd (rParse ex8).1).length = 1 ∧ ((jrd (rParse ex8).1).head?.map fun o => (o.op, o.pa)) = some (2, [[97]]) := by rw [rParse_C (by decide)]; decide +kernel
theorem ex8_ok [GLay] : jb (rParse ex8).1 ∧ jrdE (rParse ex8).1 = none ∧ ∃ o, jrd (rParse ex8).1 = [o] ∧ o.op = 2 ∧ o.pa = [[97]] := by
  obtain ⟨h1, h2, h3⟩ := ex8_a
  refine ⟨(rParse_ok ex8 ex8_0).2.1, by unfold jrdE; rw [if_pos h1], ?_⟩
  obtain ⟨o, ho⟩ := List.length_eq_one_iff.1 h2
  rw [ho] at h3
  simp at h3
  exact ⟨o, ho, h3.1, h3.2⟩
theorem jrd_vz : jrd vz = [] ∧ jrdE vz = some (0, 1) ∧ jrdC vz = 1 ∧ jrdA vz = 0 := by decide
theorem jrdE_c {v : JV} : (jrdE v).elim 0 (·.2) = jrdC v ∧ (jrdE v).elim 0 (·.1) = jrdA v := by
  unfold jrdE
  split
  · rename_i h; exact ⟨h.symm, (jrdA_0 h).symm⟩
  · exact ⟨rfl, rfl⟩
theorem jrdE_s {v : JV} (h : ¬ jrdC v = 0) : jrdE v = some (jrdA v, jrdC v) := by unfold jrdE; rw [if_neg h]
theorem jrdE_n {v : JV} (h : jrdC v = 0) : jrdE v = none := by unfold jrdE; rw [if_pos h]
theorem jrd_k4 {v : JV} (h : ¬ v.kind = 4) : jrd v = [] ∧ jrdC v = 1 ∧ jrdA v = 0 := by unfold jrd jrdC jrdA; rw [if_pos h, if_pos h, if_pos h]; exact ⟨rfl, rfl, rfl⟩
theorem jrd_many {v : JV} (h : v.kind = 4) (hl : 100 < v.l.length) : jrd v = [] ∧ jrdC v = 5 ∧ jrdA v = 100 := by unfold jrd jrdC jrdA; simp [h, hl]
end Lg
set_option maxRecDepth 20000
set_option maxHeartbeats 4000000
namespace Lg
open Go Go.Proofs Go.RowKit
variable [GLay] 
theorem spot_0 (σ : List AO) : ACalls Tryd.prog 21 [.nili] σ (Ret (.tup [.int .i64 0, .int .i64 0]) σ) := by
 refine ACalls_body Tryd.func21 rfl Tryd.ntmps21 (res2 Tryd.results21) (Nat.le_of_ble_eq_true rfl) (fun hcl hal => ?_)
 refine zw2 ?_
 refine AWp_seq ?_
 refine zw2 ?_
 refine AWp_cond rfl (fun h1 => ?_) (fun h1 => ?_)
 ·(try rw [h1]); replace h1 := zcl h1
  refine zw2 ?_
  refine zrt ?_
  exact ResQ_20 rfl rfl hcl (by simp [AV.lt, AV.ltL]) (Ret_of rfl)
 ·(try rw [h1]); replace h1 := zcl h1
  cases h1

theorem spot_s (at_ code : Int) (σ : List AO) : ACalls Tryd.prog 21 [.iface 99 (.pp [.int .i64 at_, .int .i64 code])] σ (Ret (.tup [.int .i64 code, .int .i64 at_]) σ) := by
 refine ACalls_body Tryd.func21 rfl Tryd.ntmps21 (res2 Tryd.results21) (Nat.le_of_ble_eq_true rfl) (fun hcl hal => ?_)
 refine zw2 ?_
 refine AWp_seq ?_
 refine zw2 ?_
 refine AWp_cond rfl (fun h1 => ?_) (fun h1 => ?_)
 ·(try rw [h1]); replace h1 := zcl h1
  cases h1
 ·(try rw [h1]); replace h1 := zcl h1
  refine AWp_skip ?_
  refine zu1 ?_
  refine zt rfl (op_assertT rfl Tryd.underlying99 rfl) ?_
  refine zv5 ?_
  refine AWp_seq ?_
  refine zw5 ?_
  refine AWp_condT rfl ?_
  refine AWp_seq ?_
  refine AWp_drawL #[0, 1, 3, 7, 0, 16, 48, 112, 15, 511] Tryd.mixed (by decide +kernel) (by decide +kernel) ?_
  refine zd3 ?_
  refine zp1 ?_
  refine zd3 ?_
  refine zp1 ?_
  refine zd2 ?_
  refine RP.nil rfl ?_
  refine zrt ?_
  exact ResQ_20 rfl rfl hcl (by simp [AV.lt, AV.ltL]) (Ret_of rfl)
end Lg
set_option maxRecDepth 20000
set_option maxHeartbeats 4000000
namespace Lg
open Go Go.Proofs Go.RowKit
variable [GLay] [ML]
theorem read_c (v : JV) (cs : List AV) (σ : List AO) (hc : vcells v = cs) (hjb : jb v) : ACalls Tryd.prog 19 [.agg cs] σ (Ret (.tup [.sl false 11 (orows (jrd v)), errV (jrdE v)]) σ) := by
 obtain ⟨hb1, hb2, hb3, hb4, hb5, hb6⟩ := (jb_eq v).1 hjb
 refine ACalls_body Tryd.func19 rfl Tryd.ntmps19 (res2 Tryd.results19) (Nat.le_of_ble_eq_true rfl) (fun hcl hal => ?_)
 subst hc
 rw [vcells_eq v]
 have hll0 := lcells_length v.l
 refine zw3 ?_
 refine AWp_seq ?_
 refine zw3 ?_
 refine AWp_cond rfl (fun h1 => ?_) (fun h1 => ?_)
 ·(try rw [h1]); replace h1 := zcl h1
  refine zw5 ?_
  refine AWp_slotLe 2 rfl (AVle.nils false 11) ?_ (by decide)
  refine AWp_freezeI (cs := [.int .i64 0, .int .i64 1]) 3 (σ.length + 1) 0 99 rfl (by rw [get_own]; rfl) ?_ (by decide)
  rw [set_own]
  refine zrt ?_
  have hq := jrd_k4 h1
  rw [hq.1, jrdE_s (by rw [hq.2.1]; decide), hq.2.1, hq.2.2]
  exact ResQ_2 rfl rfl hcl (by simp [AV.lt, AV.ltL, AV.ltLL]) (Ret_of rfl)
 ·(try rw [h1]); replace h1 := zcl h1
  refine AWp_skip ?_
  refine AWp_seq ?_
  refine zw4 ?_
  refine AWp_cond rfl (fun h2 => ?_) (fun h2 => ?_)
  ·(try rw [h2]); replace h2 := zcl h2
   refine zw5 ?_
   refine AWp_slotLe 2 rfl (AVle.nils false 11) ?_ (by decide)
   refine AWp_freezeI (cs := [.int .i64 100, .int .i64 5]) 3 (σ.length + 1) 0 99 rfl (by rw [get_own]; rfl) ?_ (by decide)
   rw [set_own]
   refine zrt ?_
   have hq := jrd_many h1 (by omega)
   rw [hq.1, jrdE_s (by rw [hq.2.1]; decide), hq.2.1, hq.2.2]
   exact ResQ_2 rfl rfl hcl (by simp [AV.lt, AV.ltL, AV.ltLL]) (Ret_of rfl)
  ·(try rw [h2]); replace h2 := zcl h2
   refine AWp_skip ?_
   refine zw1 ?_
   refine AWp_seq ?_
   refine AWp_seq ?_
   refine AWp_ghostTO 4 11 1 rfl rfl ?_ (by decide)
   refine AWp_regL ?_
   refine zv4 ?_
   refine AWp_block ?_
   -- loop 0 LIVE 2:assign 3:assign 4:assign 23:load 24:call 25:move
   refine AWp_loop (ι := Nat × List JOp) (fun z => z.1 ≤ v.l.length ∧ jops (v.l.take z.1) = some z.2) (fun z => ⟨[], [(1, .ptr (σ.length + 0) 0), (4, .arr (σ.length + 1) z.1 11 0 z.1), (23, .sl false 8 (lcells v.l)), (24, .int .i64 ((lcells v.l).length : Int)), (25, .int .i64 (z.1 : Int))]⟩) (fun z => σ ++ [.box [.int .i64 v.kind, .bool v.b, .bool v.n.neg, .str v.n.digits, .int .i64 v.n.exp, .str v.s, .sl false 8 (lcells v.l), .sl false 9 (mcells v.m)], .arr 11 z.1 (orows z.2).flatten]) (fun z => v.l.length - z.1) ((0, [])) (⟨Nat.zero_le _, rfl⟩) ?_ rfl (fun z hz => ?_)
   ·repeat' first | rfl | trivial | constructor
   obtain ⟨i, os⟩ := z
   obtain ⟨hi1, hos⟩ := hz
   simp only at hi1 hos ⊢
   have hol : os.length = i := by have := jops_len hos; rw [List.length_take] at this; omega
   have hll := lcells_length v.l
   refine zw1 ?_
   refine AWp_seq ?_
   refine AWp_cond rfl (fun h3 => ?_) (fun h3 => ?_)
   ·(try rw [h3]); replace h3 := zcl h3
    obtain ⟨x, hx⟩ : ∃ x, v.l[i]? = some x := ⟨_, List.getElem?_eq_getElem (show i < v.l.length by omega)⟩
    refine AWp_skip ?_
    refine AWp_seq ?_
    refine AWp_block ?_
    refine zu2 ?_
    rw [vcells_eq x]
    refine zv4 ?_
    refine zu1 ?_
    refine ztR rfl (zcR rfl (vcells_eq x ▸ OpR.strong (one_c x _ _ rfl (lb_get hb5 hx)))) (fun v9_1 s9_1 hr => ?_) (fun v9_1 s9_1 hr => ?_)
    rotate_left
    ·obtain ⟨_, _, _, hv, _⟩ := hr; cases hv
    obtain ⟨hh, xo, ob, hv, ht, hf⟩ := hr
    cases hv
    subst hh
    rw [ocells_eq xo]
    refine zv6 ?_
    refine AWp_seq ?_
    refine zw2 ?_
    refine AWp_cond rfl (fun h4 => ?_) (fun h4 => ?_)
    ·(try rw [h4]); replace h4 := zcl h4
     have hxn := hf (by simpa using h4)
     refine zw6 ?_
     refine AWp_slotLe 2 rfl (AVle.nils false 11) ?_ (by decide)
     refine AWp_freezeI (cs := [.int .i64 (i : Int), .int .i64 1]) 3 (σ.length + 4) 0 99 rfl (by rw [get_own]; rfl) ?_ (by decide)
     rw [set_own]
     refine zrt ?_
     have hq := jrd_bad h1 (by omega) hos hx hxn
     rw [hq.1, jrdE_s (by rw [hq.2.1]; decide), hq.2.1, hq.2.2]
     exact ResQ_2 rfl rfl hcl (by simp [AV.lt, AV.ltL, AV.ltLL]) (Ret_of rfl)
    ·(try rw [h4]); replace h4 := zcl h4
     have hob : ob = true := by simpa using h4
     subst hob
     refine AWp_skip ?_
     refine AWp_regL ?_
     refine zg2 ?_
     refine zt rfl (op_buildSlice [[_, _, _, _, _, _, _, _, _, _, _]] rfl Tryd.underlying55 Tryd.sizeOf92 Tryd.zeroValue92 rfl (by decide) (by decide) rfl rfl rfl rfl rfl) ?_
     refine zt rfl (op_appendArrT rfl 1 (sz := 11) (m := 1) (len := i) (cs := _) rfl (.inr ⟨_, rfl⟩) Tryd.underlying55 Tryd.underlying55 Tryd.type92 rfl rfl rfl (by decide) rfl rfl (by rw [oflat_len, hol]) rfl rfl rfl (by show (i + 1) * 168 ≤ _; omega) (by omega) rfl) ?_
     refine zv1 ?_
     refine AWp_regL ?_
     refine zv2 ?_
     have hos2 : jops (v.l.take (i + 1)) = some (os ++ [xo]) := by rw [ltake_succ hx, jops_snoc hos, ht rfl]; rfl
     refine ⟨(i + 1, os ++ [xo]), σ.length + 2, ⟨by simp only; omega, hos2⟩, by simp only; omega, by simp, ⟨rfl, rfl, rfl, rfl, rfl, rfl, trivial⟩, closed_own 2 hcl ?_, ?_, ?_⟩
     ·simp [ownLt, AO.cells, AV.ltL, AV.lt, ltL_append]
     ·simp [ltE, AV.lt, AV.ltL]
     ·refine (take_own 2).trans ?_
      rw [orows_snoc, ocells_eq xo]; rfl
   ·(try rw [h3]); replace h3 := zcl h3
    refine AWp_exit ?_
    refine AWp_seq ?_
    have hie : i = v.l.length := by omega
    subst hie
    rw [List.take_length] at hos
    refine AWp_freezeAO 4 1 v.l.length 11 v.l.length (orows os) rfl rfl (orows_el _) (by rw [orows_len]; exact hol) (by decide) ?_ (by decide)
    refine AWp_regL ?_
    refine zv3 ?_
    refine zrt ?_
    have hq := jrd_ok h1 (by omega) hos
    rw [hq.1, jrdE_n hq.2.1]
    exact ResQ_2 rfl rfl hcl (by simp [AV.lt, AV.ltL]) (Ret_of rfl)
end Lg
set_option maxRecDepth 20000
set_option maxHeartbeats 4000000
namespace Lg
open Go Go.Proofs Go.RowKit
variable [GLay] [ML]
theorem rop_c (v : JV) (cs : List AV) (σ : List AO) (hc : vcells v = cs) (hjb : jb v) : ACalls Tryd.prog 45 [.agg cs] σ (OpR v σ) := by
 have hmz := ((jb_eq v).1 hjb).2.2.2.1
 have hjp := ((jb_eq _).1 (jfD_jb (key := bPath) hjb)).2.1
 have hjf := ((jb_eq _).1 (jfD_jb (key := bFrom) hjb)).2.1
 refine ACalls_bodyC Tryd.func45 rfl Tryd.ntmps45 (by rw [Tryd.results45]; exact (.ck Tryd.isAgg92 Tryd.sizeOf92 (.t .nil))) (Nat.le_of_ble_eq_true rfl) (fun hcl hal => ?_)
 subst hc
 rw [vcells_eq v]
 refine zw3 ?_
 refine zsr ?_
 refine zt rfl (op_buildSlice [[_], [_], [_], [_], [_], [_], [_]] rfl Tryd.underlying64 Tryd.sizeOf9 Tryd.zeroValue9 rfl (by decide) (by decide) rfl rfl rfl rfl rfl) ?_
 refine zv1 ?_
 refine zw1 ?_
 refine zu1 ?_
 refine zt rfl (zc rfl (rfindQ_c v bOp _ _ (vcells_eq v) hmz)) ?_
 rw [vcells_eq (jfD v bOp)]
 refine zv6 ?_
 refine AWp_seq ?_
 refine zw1 ?_
 refine AWp_block ?_
 -- loop 0 LIVE 1:box 2:alloc 3:assign 4:assign 5:alloc 6:alloc 7:assign 8:assign
 refine AWp_heap (σ' := σ ++ [.box [.int .i64 v.kind, .bool v.b, .bool v.n.neg, .str v.n.digits, .int .i64 v.n.exp, .str v.s, .sl false 8 (lcells v.l), .sl false 9 (mcells v.m)], .box [.int .i64 0, .nils, .nils, .int .i64 0, .bool false, .bool false, .str ⟨#[]⟩, .int .i64 0, .str ⟨#[]⟩, .nils, .nils], .box [.int .i64 (opc v 1), .nils, .nils, .int .i64 0, .bool false, .bool false, .str ⟨#[]⟩, .int .i64 0, .str ⟨#[]⟩, .nils, .nils], .box [.int .i64 (jfD v bOp).kind, .bool (jfD v bOp).b, .bool (jfD v bOp).n.neg, .str (jfD v bOp).n.digits, .int .i64 (jfD v bOp).n.exp, .str (jfD v bOp).s, .sl false 8 (lcells (jfD v bOp).l), .sl false 9 (mcells (jfD v bOp).m)]]) (by rw [opc_1]; rfl) ?_
 refine AWp_loop (ι := Nat) (fun i => 1 ≤ i ∧ i ≤ 7) (fun i => ⟨[], [(1, .ptr (σ.length + 0) 0), (2, .ptr (σ.length + 1) 0), (4, .sl true 1 (opNm.map fun x => [AV.str x])), (5, .ptr (σ.length + 2) 0), (6, .ptr (σ.length + 3) 0), (7, .bool (jfB v bOp)), (8, .int .i64 (i : Int))]⟩) (fun i => σ ++ [.box [.int .i64 v.kind, .bool v.b, .bool v.n.neg, .str v.n.digits, .int .i64 v.n.exp, .str v.s, .sl false 8 (lcells v.l), .sl false 9 (mcells v.m)], .box [.int .i64 0, .nils, .nils, .int .i64 0, .bool false, .bool false, .str ⟨#[]⟩, .int .i64 0, .str ⟨#[]⟩, .nils, .nils], .box [.int .i64 (opc v i), .nils, .nils, .int .i64 0, .bool false, .bool false, .str ⟨#[]⟩, .int .i64 0, .str ⟨#[]⟩, .nils, .nils], .box [.int .i64 (jfD v bOp).kind, .bool (jfD v bOp).b, .bool (jfD v bOp).n.neg, .str (jfD v bOp).n.digits, .int .i64 (jfD v bOp).n.exp, .str (jfD v bOp).s, .sl false 8 (lcells (jfD v bOp).l), .sl false 9 (mcells (jfD v bOp).m)]]) (fun i => 7 - i) (1) (⟨Nat.le_refl _, by decide⟩) ?_ rfl (fun i hi => ?_)
 ·exact ⟨rfl, rfl, rfl, rfl, rfl, rfl, rfl, rfl, trivial⟩
 obtain ⟨hi1, hi7⟩ := hi
 refine AWp_seq ?_
 refine zu3 ?_
 refine zsp 23 rfl (fun h1 => ?_) fun h1 => ?_
 ·rw [h1]; replace h1 := zcl h1
  obtain ⟨t, ht⟩ : ∃ t, opNm[i]? = some t := ⟨_, List.getElem?_eq_getElem (show i < opNm.length from (show i < 7 by omega))⟩
  have htr : (opNm.map fun x => [AV.str x])[i]? = some [.str t] := by rw [List.getElem?_map, ht]; rfl
  refine zv2 ?_
  refine AWp_cond rfl (fun h2 => ?_) (fun h2 => ?_)
  ·(try rw [h2]); replace h2 := zcl h2
   refine AWp_skip ?_
   refine AWp_seq ?_
   refine AWp_block ?_
   refine AWp_seq ?_
   refine AWp_drawL #[0, 1, 3, 7, 15, 31, 15, 15, 207, 463, 1023, 2047] Tryd.mixed (by decide +kernel) (by decide +kernel) ?_
   refine zd1 ?_
   refine zp1 ?_
   refine zd2 ?_
   refine zspr 31 rfl (fun h3 => ?_) fun h3 => ?_
   ·rw [h3]; replace h3 := zcl h3
    refine zd1 ?_
    refine zp1 ?_
    refine zd2 ?_
    refine yAG rfl rfl rfl (fun _ => op_indexAddr rfl Tryd.underlying64 Tryd.sizeOf9 rfl rfl (by omega) (htr)) ?_
    refine zp1 ?_
    refine zd2 ?_
    refine RP.nil rfl ?_
    refine AWp_cond rfl (fun h4 => ?_) (fun h4 => ?_)
    ·(try rw [h4]); replace h4 := zcl h4
     refine AWp_regL ?_
     refine zv3 ?_
     refine AWp_regL ?_
     refine zv3 ?_
     refine ⟨i + 1, σ.length + 4, by omega, by omega, by simp, ⟨rfl, rfl, rfl, rfl, rfl, rfl, rfl, rfl, trivial⟩, closed_own 4 hcl ?_, ?_, ?_⟩
     ·simp [ownLt, AO.cells, AV.ltL, AV.lt]
     ·simp [ltE, AV.lt, AV.ltL, ltLL_str]; (try exact ltLL_str _ _)
     ·rw [opc_hit h2 h3 ht hi1 h4]; exact take_own 4
    ·(try rw [h4]); replace h4 := zcl h4
     refine AWp_skip ?_
     refine AWp_regL ?_
     refine zv3 ?_
     refine ⟨i + 1, σ.length + 4, by omega, by omega, by simp, ⟨rfl, rfl, rfl, rfl, rfl, rfl, rfl, rfl, trivial⟩, closed_own 4 hcl ?_, ?_, ?_⟩
     ·simp [ownLt, AO.cells, AV.ltL, AV.lt]
     ·simp [ltE, AV.lt, AV.ltL, ltLL_str]; (try exact ltLL_str _ _)
     ·rw [opc_miss ht hi1 h4]; exact take_own 4
   ·rw [h3]; replace h3 := zcl h3
    refine zd8 ?_
    refine RP.nil rfl ?_
    refine AWp_condF rfl ?_
    refine AWp_skip ?_
    refine AWp_regL ?_
    refine zv3 ?_
    refine ⟨i + 1, σ.length + 4, by omega, by omega, by simp, ⟨rfl, rfl, rfl, rfl, rfl, rfl, rfl, rfl, trivial⟩, closed_own 4 hcl ?_, ?_, ?_⟩
    ·simp [ownLt, AO.cells, AV.ltL, AV.lt]
    ·simp [ltE, AV.lt, AV.ltL, ltLL_str]; (try exact ltLL_str _ _)
    ·rw [opc_k h3]; exact take_own 4
  ·(try rw [h2]); replace h2 := zcl h2
   refine AWp_exit ?_
   refine AWp_seq ?_
   have hex : opc v i = jopn v := by first | exact opc_no (by simpa using h2) i | (rw [show i = 7 by omega]; exact opc_7 v)
   rw [hex]
   have hor := jopn_range v
   refine AWp_regL ?_
   refine zg1 ?_
   refine zt rfl (zc rfl (rptrM_c v bPath _ _ (vcells_eq v) hmz hjp)) ?_
   refine zv5 ?_
   refine AWp_seq ?_
   refine zu4 ?_
   refine zsp 50 rfl (fun h5 => ?_) fun h5 => ?_
   ·rw [h5]; replace h5 := zcl h5
    refine zv3 ?_
    refine AWp_condT rfl ?_
    refine zw3 ?_
    refine zrt ?_
    refine RQ_ret (rkvs_cons (rkv_ck rfl rfl rfl) (rkvs_cons (rkv_t rfl) rfl)) hcl (by simp [rks, AV.lt, AV.ltL]) ⟨rfl, _, ⟨0, [], [], vz⟩, false, rfl, oz, (fun h => by cases h), fun _ => jop_n1 h5⟩
   ·rw [h5]; replace h5 := zcl h5
    refine zv3 ?_
    refine AWp_cond rfl (fun h6 => ?_) (fun h6 => ?_)
    ·(try rw [h6]); replace h6 := zcl h6
     refine zw3 ?_
     refine zrt ?_
     refine RQ_ret (rkvs_cons (rkv_ck rfl rfl rfl) (rkvs_cons (rkv_t rfl) rfl)) hcl (by simp [rks, AV.lt, AV.ltL]) ⟨rfl, _, ⟨0, [], [], vz⟩, false, rfl, oz, (fun h => by cases h), fun _ => jop_n2 (by simpa using h6)⟩
    ·(try rw [h6]); replace h6 := zcl h6
     refine AWp_skip ?_
     refine zw3 ?_
     refine AWp_seq ?_
     refine zu4 ?_
     refine zsp 60 rfl (fun h7 => ?_) fun h7 => ?_
     ·rw [h7]; replace h7 := zcl h7
      refine zv4 ?_
      refine AWp_condT rfl ?_
      refine zu1 ?_
      refine zt rfl (zc rfl (rptrM_c v bFrom _ _ (vcells_eq v) hmz hjf)) ?_
      refine zv5 ?_
      refine zw3 ?_
      refine zw4 ?_
      refine zrt ?_
      refine RQ_ret (rkvs_cons (rkv_ck rfl rfl rfl) (rkvs_cons (rkv_t rfl) rfl)) hcl (by simp [rks, AV.lt, AV.ltL]) ⟨rfl, _, ⟨jopn v, jptN v bPath, jptN v bFrom, vz⟩, jptB v bFrom, rfl, ?_, ?_, ?_⟩
      ·rw [ocells_eq]; exact ⟨AVle.refl _, AVle.refl _, AVle.refl _, AVle.refl _, AVle.refl _, AVle.refl _, AVle.refl _, AVle.refl _, AVle.refl _, nilL, nilM, trivial⟩
      ·intro h; rw [jop_fr (by simpa using h6) (by omega), if_pos h]
      ·intro h; rw [jop_fr (by simpa using h6) (by omega), if_neg (by rw [h]; decide)]
     ·rw [h7]; replace h7 := zcl h7
      refine zv4 ?_
      refine AWp_cond rfl (fun h8 => ?_) (fun h8 => ?_)
      ·(try rw [h8]); replace h8 := zcl h8
       refine zu1 ?_
       refine zt rfl (zc rfl (rptrM_c v bFrom _ _ (vcells_eq v) hmz hjf)) ?_
       refine zv5 ?_
       refine zw3 ?_
       refine zw4 ?_
       refine zrt ?_
       refine RQ_ret (rkvs_cons (rkv_ck rfl rfl rfl) (rkvs_cons (rkv_t rfl) rfl)) hcl (by simp [rks, AV.lt, AV.ltL]) ⟨rfl, _, ⟨jopn v, jptN v bPath, jptN v bFrom, vz⟩, jptB v bFrom, rfl, ?_, ?_, ?_⟩
       ·rw [ocells_eq]; exact ⟨AVle.refl _, AVle.refl _, AVle.refl _, AVle.refl _, AVle.refl _, AVle.refl _, AVle.refl _, AVle.refl _, AVle.refl _, nilL, nilM, trivial⟩
       ·intro h; rw [jop_fr (by simpa using h6) (by omega), if_pos h]
       ·intro h; rw [jop_fr (by simpa using h6) (by omega), if_neg (by rw [h]; decide)]
      ·(try rw [h8]); replace h8 := zcl h8
       refine AWp_skip ?_
       refine AWp_seq ?_
       refine zw3 ?_
       refine AWp_cond rfl (fun h9 => ?_) (fun h9 => ?_)
       ·(try rw [h9]); replace h9 := zcl h9
        refine zu1 ?_
        refine zt rfl (zc rfl (rfindQ_c v bValue _ _ (vcells_eq v) hmz)) ?_
        rw [vcells_eq (jfD v bValue)]
        refine zv6 ?_
        refine zw3 ?_
        refine zw4 ?_
        refine zrt ?_
        refine RQ_ret (rkvs_cons (rkv_ck rfl rfl rfl) (rkvs_cons (rkv_t rfl) rfl)) hcl (by simp [rks, AV.lt, AV.ltL]) ⟨rfl, _, ⟨jopn v, jptN v bPath, [], jfD v bValue⟩, jfB v bValue, rfl, ?_, ?_, ?_⟩
        ·rw [ocells_eq]; exact ⟨AVle.refl _, AVle.refl _, AVle.nils false 1, AVle.refl _, AVle.refl _, AVle.refl _, AVle.refl _, AVle.refl _, AVle.refl _, AVle.refl _, AVle.refl _, trivial⟩
        ·intro h; rw [jop_vl (by simpa using h6) (by omega) (by omega) (by omega), if_pos h]
        ·intro h; rw [jop_vl (by simpa using h6) (by omega) (by omega) (by omega), if_neg (by rw [h]; decide)]
       ·(try rw [h9]); replace h9 := zcl h9
        refine AWp_skip ?_
        refine zw3 ?_
        refine zrt ?_
        refine RQ_ret (rkvs_cons (rkv_ck rfl rfl rfl) (rkvs_cons (rkv_t rfl) rfl)) hcl (by simp [rks, AV.lt, AV.ltL]) ⟨rfl, _, ⟨jopn v, jptN v bPath, [], vz⟩, true, rfl, ?_, ?_, ?_⟩
        ·rw [ocells_eq]; exact ⟨AVle.refl _, AVle.refl _, AVle.nils false 1, AVle.refl _, AVle.refl _, AVle.refl _, AVle.refl _, AVle.refl _, AVle.refl _, nilL, nilM, trivial⟩
        ·intro _; rw [jop_rm (by simpa using h6) (by omega), show jopn v = 2 by omega]
        ·intro h; cases h
 ·rw [h1]; replace h1 := zcl h1
  refine zv2 ?_
  refine AWp_condF rfl ?_
  refine AWp_exit ?_
  refine AWp_seq ?_
  have hex : opc v i = jopn v := by first | exact opc_no (by simpa using h2) i | (rw [show i = 7 by omega]; exact opc_7 v)
  rw [hex]
  have hor := jopn_range v
  refine AWp_regL ?_
  refine zg1 ?_
  refine zt rfl (zc rfl (rptrM_c v bPath _ _ (vcells_eq v) hmz hjp)) ?_
  refine zv5 ?_
  refine AWp_seq ?_
  refine zu4 ?_
  refine zsp 50 rfl (fun h10 => ?_) fun h10 => ?_
  ·rw [h10]; replace h10 := zcl h10
   refine zv3 ?_
   refine AWp_condT rfl ?_
   refine zw3 ?_
   refine zrt ?_
   refine RQ_ret (rkvs_cons (rkv_ck rfl rfl rfl) (rkvs_cons (rkv_t rfl) rfl)) hcl (by simp [rks, AV.lt, AV.ltL]) ⟨rfl, _, ⟨0, [], [], vz⟩, false, rfl, oz, (fun h => by cases h), fun _ => jop_n1 h10⟩
  ·rw [h10]; replace h10 := zcl h10
   refine zv3 ?_
   refine AWp_cond rfl (fun h11 => ?_) (fun h11 => ?_)
   ·(try rw [h11]); replace h11 := zcl h11
    refine zw3 ?_
    refine zrt ?_
    refine RQ_ret (rkvs_cons (rkv_ck rfl rfl rfl) (rkvs_cons (rkv_t rfl) rfl)) hcl (by simp [rks, AV.lt, AV.ltL]) ⟨rfl, _, ⟨0, [], [], vz⟩, false, rfl, oz, (fun h => by cases h), fun _ => jop_n2 (by simpa using h11)⟩
   ·(try rw [h11]); replace h11 := zcl h11
    refine AWp_skip ?_
    refine zw3 ?_
    refine AWp_seq ?_
    refine zu4 ?_
    refine zsp 60 rfl (fun h12 => ?_) fun h12 => ?_
    ·rw [h12]; replace h12 := zcl h12
     refine zv4 ?_
     refine AWp_condT rfl ?_
     refine zu1 ?_
     refine zt rfl (zc rfl (rptrM_c v bFrom _ _ (vcells_eq v) hmz hjf)) ?_
     refine zv5 ?_
     refine zw3 ?_
     refine zw4 ?_
     refine zrt ?_
     refine RQ_ret (rkvs_cons (rkv_ck rfl rfl rfl) (rkvs_cons (rkv_t rfl) rfl)) hcl (by simp [rks, AV.lt, AV.ltL]) ⟨rfl, _, ⟨jopn v, jptN v bPath, jptN v bFrom, vz⟩, jptB v bFrom, rfl, ?_, ?_, ?_⟩
     ·rw [ocells_eq]; exact ⟨AVle.refl _, AVle.refl _, AVle.refl _, AVle.refl _, AVle.refl _, AVle.refl _, AVle.refl _, AVle.refl _, AVle.refl _, nilL, nilM, trivial⟩
     ·intro h; rw [jop_fr (by simpa using h11) (by omega), if_pos h]
     ·intro h; rw [jop_fr (by simpa using h11) (by omega), if_neg (by rw [h]; decide)]
    ·rw [h12]; replace h12 := zcl h12
     refine zv4 ?_
     refine AWp_cond rfl (fun h13 => ?_) (fun h13 => ?_)
     ·(try rw [h13]); replace h13 := zcl h13
      refine zu1 ?_
      refine zt rfl (zc rfl (rptrM_c v bFrom _ _ (vcells_eq v) hmz hjf)) ?_
      refine zv5 ?_
      refine zw3 ?_
      refine zw4 ?_
      refine zrt ?_
      refine RQ_ret (rkvs_cons (rkv_ck rfl rfl rfl) (rkvs_cons (rkv_t rfl) rfl)) hcl (by simp [rks, AV.lt, AV.ltL]) ⟨rfl, _, ⟨jopn v, jptN v bPath, jptN v bFrom, vz⟩, jptB v bFrom, rfl, ?_, ?_, ?_⟩
      ·rw [ocells_eq]; exact ⟨AVle.refl _, AVle.refl _, AVle.refl _, AVle.refl _, AVle.refl _, AVle.refl _, AVle.refl _, AVle.refl _, AVle.refl _, nilL, nilM, trivial⟩
      ·intro h; rw [jop_fr (by simpa using h11) (by omega), if_pos h]
      ·intro h; rw [jop_fr (by simpa using h11) (by omega), if_neg (by rw [h]; decide)]
     ·(try rw [h13]); replace h13 := zcl h13
      refine AWp_skip ?_
      refine AWp_seq ?_
      refine zw3 ?_
      refine AWp_cond rfl (fun h14 => ?_) (fun h14 => ?_)
      ·(try rw [h14]); replace h14 := zcl h14
       refine zu1 ?_
       refine zt rfl (zc rfl (rfindQ_c v bValue _ _ (vcells_eq v) hmz)) ?_
       rw [vcells_eq (jfD v bValue)]
       refine zv6 ?_
       refine zw3 ?_
       refine zw4 ?_
       refine zrt ?_
       refine RQ_ret (rkvs_cons (rkv_ck rfl rfl rfl) (rkvs_cons (rkv_t rfl) rfl)) hcl (by simp [rks, AV.lt, AV.ltL]) ⟨rfl, _, ⟨jopn v, jptN v bPath, [], jfD v bValue⟩, jfB v bValue, rfl, ?_, ?_, ?_⟩
       ·rw [ocells_eq]; exact ⟨AVle.refl _, AVle.refl _, AVle.nils false 1, AVle.refl _, AVle.refl _, AVle.refl _, AVle.refl _, AVle.refl _, AVle.refl _, AVle.refl _, AVle.refl _, trivial⟩
       ·intro h; rw [jop_vl (by simpa using h11) (by omega) (by omega) (by omega), if_pos h]
       ·intro h; rw [jop_vl (by simpa using h11) (by omega) (by omega) (by omega), if_neg (by rw [h]; decide)]
      ·(try rw [h14]); replace h14 := zcl h14
       refine AWp_skip ?_
       refine zw3 ?_
       refine zrt ?_
       refine RQ_ret (rkvs_cons (rkv_ck rfl rfl rfl) (rkvs_cons (rkv_t rfl) rfl)) hcl (by simp [rks, AV.lt, AV.ltL]) ⟨rfl, _, ⟨jopn v, jptN v bPath, [], vz⟩, true, rfl, ?_, ?_, ?_⟩
       ·rw [ocells_eq]; exact ⟨AVle.refl _, AVle.refl _, AVle.nils false 1, AVle.refl _, AVle.refl _, AVle.refl _, AVle.refl _, AVle.refl _, AVle.refl _, nilL, nilM, trivial⟩
       ·intro _; rw [jop_rm (by simpa using h11) (by omega), show jopn v = 2 by omega]
       ·intro h; cases h
end Lg
set_option maxRecDepth 20000
set_option maxHeartbeats 4000000
namespace Lg
open Go Go.Proofs Go.RowKit
variable [GLay] [ML]
theorem rread_c (v : JV) (cs : List AV) (σ : List AO) (hc : vcells v = cs) (hjb : jb v) : ACalls Tryd.prog 20 [.agg cs] σ (Ret (.tup [.sl false 11 (orows (jrd v)), .int .i64 (jrdC v), .int .i64 (jrdA v)]) σ) := by
 obtain ⟨hb1, hb2, hb3, hb4, hb5, hb6⟩ := (jb_eq v).1 hjb
 refine ACalls_body Tryd.func20 rfl Tryd.ntmps20 (res3 Tryd.results20) (Nat.le_of_ble_eq_true rfl) (fun hcl hal => ?_)
 subst hc
 rw [vcells_eq v]
 have hll0 := lcells_length v.l
 refine zw4 ?_
 refine AWp_seq ?_
 refine zw3 ?_
 refine AWp_cond rfl (fun h1 => ?_) (fun h1 => ?_)
 ·(try rw [h1]); replace h1 := zcl h1
  refine zw3 ?_
  refine AWp_slotLe 2 rfl (AVle.nils false 11) ?_ (by decide)
  refine zrt ?_
  have hq := jrd_k4 h1
  rw [hq.1, hq.2.1, hq.2.2]
  exact ResQ_3 rfl rfl rfl hcl (by simp [AV.lt, AV.ltL, AV.ltLL]) (Ret_of rfl)
 ·(try rw [h1]); replace h1 := zcl h1
  refine AWp_skip ?_
  refine AWp_seq ?_
  refine zw4 ?_
  refine AWp_cond rfl (fun h2 => ?_) (fun h2 => ?_)
  ·(try rw [h2]); replace h2 := zcl h2
   refine zw3 ?_
   refine AWp_slotLe 2 rfl (AVle.nils false 11) ?_ (by decide)
   refine zrt ?_
   have hq := jrd_many h1 (by omega)
   rw [hq.1, hq.2.1, hq.2.2]
   exact ResQ_3 rfl rfl rfl hcl (by simp [AV.lt, AV.ltL, AV.ltLL]) (Ret_of rfl)
  ·(try rw [h2]); replace h2 := zcl h2
   refine AWp_skip ?_
   refine zw1 ?_
   refine AWp_seq ?_
   refine AWp_seq ?_
   refine AWp_ghostTO 5 11 1 rfl rfl ?_ (by decide)
   refine AWp_regL ?_
   refine zv1 ?_
   refine AWp_block ?_
   -- loop 0 LIVE 1:box 2:assign 3:assign 4:assign 5:assign 6:assign
   refine AWp_loop (ι := Nat × List JOp) (fun z => z.1 ≤ v.l.length ∧ jops (v.l.take z.1) = some z.2) (fun z => ⟨[], [(1, .ptr (σ.length + 0) 0), (5, .arr (σ.length + 1) z.1 11 0 z.1), (6, .int .i64 (z.1 : Int))]⟩) (fun z => σ ++ [.box [.int .i64 v.kind, .bool v.b, .bool v.n.neg, .str v.n.digits, .int .i64 v.n.exp, .str v.s, .sl false 8 (lcells v.l), .sl false 9 (mcells v.m)], .arr 11 z.1 (orows z.2).flatten]) (fun z => v.l.length - z.1) ((0, [])) (⟨Nat.zero_le _, rfl⟩) ?_ rfl (fun z hz => ?_)
   ·repeat' first | rfl | trivial | constructor
   obtain ⟨i, os⟩ := z
   obtain ⟨hi1, hos⟩ := hz
   simp only at hi1 hos ⊢
   have hol : os.length = i := by have := jops_len hos; rw [List.length_take] at this; omega
   have hll := lcells_length v.l
   refine AWp_seq ?_
   refine zw5 ?_
   refine AWp_cond rfl (fun h3 => ?_) (fun h3 => ?_)
   ·(try rw [h3]); replace h3 := zcl h3
    obtain ⟨x, hx⟩ : ∃ x, v.l[i]? = some x := ⟨_, List.getElem?_eq_getElem (show i < v.l.length by omega)⟩
    refine AWp_skip ?_
    refine AWp_seq ?_
    refine AWp_block ?_
    refine zu4 ?_
    rw [vcells_eq x]
    refine zg1 ?_
    refine ztR rfl (zcR rfl (vcells_eq x ▸ OpR.strong (rop_c x _ _ rfl (lb_get hb5 hx)))) (fun v9_5 s9_5 hr => ?_) (fun v9_5 s9_5 hr => ?_)
    rotate_left
    ·obtain ⟨_, _, _, hv, _⟩ := hr; cases hv
    obtain ⟨hh, xo, ob, hv, ht, hf⟩ := hr
    cases hv
    subst hh
    rw [ocells_eq xo]
    refine zv6 ?_
    refine AWp_seq ?_
    refine zw2 ?_
    refine AWp_cond rfl (fun h4 => ?_) (fun h4 => ?_)
    ·(try rw [h4]); replace h4 := zcl h4
     have hxn := hf (by simpa using h4)
     refine zw4 ?_
     refine AWp_slotLe 2 rfl (AVle.nils false 11) ?_ (by decide)
     refine zrt ?_
     have hq := jrd_bad h1 (by omega) hos hx hxn
     rw [hq.1, hq.2.1, hq.2.2]
     exact ResQ_3 rfl rfl rfl hcl (by simp [AV.lt, AV.ltL, AV.ltLL]) (Ret_of rfl)
    ·(try rw [h4]); replace h4 := zcl h4
     have hob : ob = true := by simpa using h4
     subst hob
     refine AWp_skip ?_
     refine AWp_regL ?_
     refine zg2 ?_
     refine zt rfl (op_buildSlice [[_, _, _, _, _, _, _, _, _, _, _]] rfl Tryd.underlying55 Tryd.sizeOf92 Tryd.zeroValue92 rfl (by decide) (by decide) rfl rfl rfl rfl rfl) ?_
     refine zt rfl (op_appendArrT rfl 1 (sz := 11) (m := 1) (len := i) (cs := _) rfl (.inr ⟨_, rfl⟩) Tryd.underlying55 Tryd.underlying55 Tryd.type92 rfl rfl rfl (by decide) rfl rfl (by rw [oflat_len, hol]) rfl rfl rfl (by show (i + 1) * 168 ≤ _; omega) (by omega) rfl) ?_
     refine zv1 ?_
     refine AWp_regL ?_
     refine zv3 ?_
     have hos2 : jops (v.l.take (i + 1)) = some (os ++ [xo]) := by rw [ltake_succ hx, jops_snoc hos, ht rfl]; rfl
     refine ⟨(i + 1, os ++ [xo]), σ.length + 2, ⟨by simp only; omega, hos2⟩, by simp only; omega, by simp, ⟨rfl, rfl, rfl, rfl, trivial⟩, closed_own 2 hcl ?_, ?_, ?_⟩
     ·simp [ownLt, AO.cells, AV.ltL, AV.lt, ltL_append]
     ·simp [ltE, AV.lt, AV.ltL]
     ·refine (take_own 2).trans ?_
      rw [orows_snoc, ocells_eq xo]; rfl
   ·(try rw [h3]); replace h3 := zcl h3
    refine AWp_exit ?_
    refine AWp_seq ?_
    have hie : i = v.l.length := by omega
    subst hie
    rw [List.take_length] at hos
    refine AWp_freezeAO 5 1 v.l.length 11 v.l.length (orows os) rfl rfl (orows_el _) (by rw [orows_len]; exact hol) (by decide) ?_ (by decide)
    refine AWp_regL ?_
    refine zv4 ?_
    refine zrt ?_
    have hq := jrd_ok h1 (by omega) hos
    rw [hq.1, hq.2.1, hq.2.2]
    exact ResQ_3 rfl rfl rfl hcl (by simp [AV.lt, AV.ltL]) (Ret_of rfl)
end Lg
set_option maxRecDepth 20000
set_option maxHeartbeats 4000000
namespace Lg
open Go Go.Proofs Go.RowKit
variable [GLay] 
theorem peek_c (s : ByteArray) (at0 deep bad spot : Int) (p : Nat) (σ : List AO) (hσ : σ[p]? = some (.box [.str s, .int .i64 at0, .int .i64 deep, .int .i64 bad, .int .i64 spot])) (h0 : 0 ≤ at0) : ACalls Tryd.prog 65 [.ptr p 0] σ (Ret (.int .i64 (pkv s at0 bad)) σ) := by
 refine ACalls_body Tryd.func65 rfl Tryd.ntmps65 (res1 Tryd.results65) (Nat.le_of_ble_eq_true rfl) (fun hcl hal => ?_)
 have hbl := bat_lt s at0.toNat
 refine zw1 ?_
 refine AWp_seq ?_
 refine AWp_seq ?_
 refine AWp_drawL #[0, 1, 3, 7, 15, 31, 63, 127, 255, 511, 63, 1087, 3135, 7231, 15423, 32767, 65535] Tryd.mixed (by decide +kernel) (by decide +kernel) ?_
 refine zd3 ?_
 refine zp1 ?_
 refine zd2 ?_
 refine zspr 8 rfl (fun h1 => ?_) fun h1 => ?_
 ·rw [h1]; replace h1 := zcl h1
  refine zd10 ?_
  refine zd1 ?_
  refine RP.nil rfl ?_
  refine AWp_condT rfl ?_
  refine zw1 ?_
  refine zrt ?_
  refine ResQ_10 rfl hcl trivial (Ret_of ?_)
  congr 1; unfold pkv; first | (rw [if_pos (by omega)]; done) | (rw [if_neg (by omega)]; done)
 ·rw [h1]; replace h1 := zcl h1
  refine zd3 ?_
  refine zp1 ?_
  refine zd3 ?_
  refine zp1 ?_
  refine zd3 ?_
  refine RP.nil rfl ?_
  refine AWp_cond rfl (fun h2 => ?_) (fun h2 => ?_)
  ·(try rw [h2]); replace h2 := zcl h2
   refine zw1 ?_
   refine zrt ?_
   refine ResQ_10 rfl hcl trivial (Ret_of ?_)
   congr 1; unfold pkv; first | (rw [if_pos (by omega)]; done) | (rw [if_neg (by omega)]; done)
  ·(try rw [h2]); replace h2 := zcl h2
   refine AWp_skip ?_
   refine AWp_seq ?_
   refine AWp_drawL #[0, 1, 3, 7, 0, 16, 48, 112, 255, 511, 1023] Tryd.mixed (by decide +kernel) (by decide +kernel) ?_
   refine zd3 ?_
   refine zp1 ?_
   refine zd3 ?_
   refine zp1 ?_
   refine zd3 ?_
   refine RP.nil rfl ?_
   refine zrt ?_
   refine ResQ_10 rfl hcl trivial (Ret_of ?_)
   congr 1; unfold pkv; first | (rw [if_pos (by omega)]; done) | (rw [if_neg (by omega)]; done)
end Lg
set_option maxRecDepth 20000
set_option maxHeartbeats 4000000
namespace Lg
open Go Go.Proofs Go.RowKit
variable [GLay] 
theorem fail_c (s : ByteArray) (at0 deep bad spot : Int) (p : Nat) (σ : List AO) (hσ : σ[p]? = some (.box [.str s, .int .i64 at0, .int .i64 deep, .int .i64 bad, .int .i64 spot])) (a b : Int) : ACalls Tryd.prog 43 [.ptr p 0, .int .i64 a, .int .i64 b] σ (Ret (.tup []) (σ.set p (.box [.str s, .int .i64 at0, .int .i64 deep, .int .i64 (if bad = 0 then b else bad), .int .i64 (if bad = 0 then a else spot)]))) := by
 have hp : p < σ.length := (List.getElem?_eq_some_iff.1 hσ).1
 refine ACalls_body Tryd.func43 rfl Tryd.ntmps43 (res0 Tryd.results43) (Nat.le_of_ble_eq_true rfl) (fun hcl hal => ?_)
 refine AWp_heap (set_same hσ) ?_
 refine zw5 ?_
 refine AWp_cond rfl (fun h1 => ?_) (fun h1 => ?_)
 ·(try rw [h1]); replace h1 := zcl h1
  refine zw5 ?_
  refine AWp_regL ?_
  refine zv5 ?_
  (try simp only [blockQ, thenQ])
  rw [if_pos h1, if_pos h1]
  exact ResQ_N0 (x := .box [.str s, .int .i64 at0, .int .i64 deep, .int .i64 b, .int .i64 a]) hcl (by simp [AO.cells, AV.ltL, AV.lt]) ⟨rfl, rfl⟩
 ·(try rw [h1]); replace h1 := zcl h1
  refine AWp_skip ?_
  (try simp only [blockQ, thenQ])
  rw [if_neg h1, if_neg h1]
  exact ResQ_N0 hcl (by simp [AO.cells, AV.ltL, AV.lt]) ⟨rfl, rfl⟩
end Lg
set_option maxRecDepth 20000
set_option maxHeartbeats 4000000
namespace Lg
open Go Go.Proofs Go.RowKit
variable [GLay] 
theorem blank_c (s : ByteArray) (a : Nat) (deep bad spot : Int) (p : Nat) (σ : List AO) (hσ : σ[p]? = some (.box [.str s, .int .i64 (a : Int), .int .i64 deep, .int .i64 bad, .int .i64 spot])) (hs : s.size ≤ 1000000) (ha : a ≤ 1000000) : ACalls Tryd.prog 64 [.ptr p 0] σ (Ret (.tup []) (σ.set p (.box [.str s, .int .i64 ((if bad = 0 then blk s a else a : Nat) : Int), .int .i64 deep, .int .i64 bad, .int .i64 spot]))) := by
 have hp : p < σ.length := (List.getElem?_eq_some_iff.1 hσ).1
 refine ACalls_body Tryd.func64 rfl Tryd.ntmps64 (res0 Tryd.results64) (Nat.le_of_ble_eq_true rfl) (fun hcl hal => ?_)
 refine AWp_heap (set_same hσ) ?_
 refine AWp_block ?_
 -- loop 0 LIVE 0:param
 refine AWp_loop (ι := Nat) (fun i => (bad = 0 → blk s i = blk s a) ∧ (bad ≠ 0 → i = a) ∧ i ≤ 1000000) (fun i => ⟨[], [(0, .ptr p 0)]⟩) (fun i => σ.set p (.box [.str s, .int .i64 (i : Int), .int .i64 deep, .int .i64 bad, .int .i64 spot])) (fun i => s.size - i) (a) (⟨fun _ => rfl, fun _ => rfl, ha⟩) ?_ rfl (fun i hi => ?_)
 ·exact ⟨rfl, rfl, trivial⟩
 obtain ⟨hi1, hi2, hi3⟩ := hi
 refine AWp_seq ?_
 refine zu1 ?_
 refine zt rfl (zc rfl (peek_c s (i : Int) deep bad spot p _ (get_set hp) (by omega))) ?_
 refine zg2 ?_
 refine zsp 5 rfl (fun h1 => ?_) fun h1 => ?_
 ·rw [h1]; replace h1 := zcl h1
  refine zg10 ?_
  refine zg4 ?_
  refine zon ?_
  refine AWp_condT rfl ?_
  refine AWp_skip ?_
  refine AWp_block ?_
  refine AWp_regL ?_
  refine zv8 ?_
  have hk := pk_yes (s := s) (a := i) (bad := bad) (by omega)
  have hbl : isbl (bat s i) := by simp only [isbl]; omega
  refine ⟨i + 1, σ.length, ⟨fun h => by rw [← blk_yes hk.2.1 hbl]; exact hi1 h, fun h => absurd hk.1 h, by omega⟩, by omega, by simp, ⟨rfl, rfl, trivial⟩, closed_set (x := .box [.str s, .int .i64 ((i : Int) + 1), .int .i64 deep, .int .i64 bad, .int .i64 spot]) hcl (by simp [AO.cells, AV.ltL, AV.lt]), ?_, take_set ?_⟩
  ·simp [ltE, AV.lt]; omega
  ·rw [Int.natCast_add]; rfl
 ·rw [h1]; replace h1 := zcl h1
  refine zg1 ?_
  refine ztG rfl rfl (zc rfl (peek_c s (i : Int) deep bad spot p _ (get_set hp) (by omega))) ?_
  refine zg3 ?_
  refine zsp 10 rfl (fun h2 => ?_) fun h2 => ?_
  ·rw [h2]; replace h2 := zcl h2
   refine zv9 ?_
   refine AWp_condT rfl ?_
   refine AWp_skip ?_
   refine AWp_block ?_
   refine AWp_regL ?_
   refine zv8 ?_
   have hk := pk_yes (s := s) (a := i) (bad := bad) (by omega)
   have hbl : isbl (bat s i) := by simp only [isbl]; omega
   refine ⟨i + 1, σ.length, ⟨fun h => by rw [← blk_yes hk.2.1 hbl]; exact hi1 h, fun h => absurd hk.1 h, by omega⟩, by omega, by simp, ⟨rfl, rfl, trivial⟩, closed_set (x := .box [.str s, .int .i64 ((i : Int) + 1), .int .i64 deep, .int .i64 bad, .int .i64 spot]) hcl (by simp [AO.cells, AV.ltL, AV.lt]), ?_, take_set ?_⟩
   ·simp [ltE, AV.lt]; omega
   ·rw [Int.natCast_add]; rfl
  ·rw [h2]; replace h2 := zcl h2
   refine zg1 ?_
   refine ztG rfl rfl (zc rfl (peek_c s (i : Int) deep bad spot p _ (get_set hp) (by omega))) ?_
   refine zg3 ?_
   refine zsp 15 rfl (fun h3 => ?_) fun h3 => ?_
   ·rw [h3]; replace h3 := zcl h3
    refine zv4 ?_
    refine AWp_condT rfl ?_
    refine AWp_skip ?_
    refine AWp_block ?_
    refine AWp_regL ?_
    refine zv8 ?_
    have hk := pk_yes (s := s) (a := i) (bad := bad) (by omega)
    have hbl : isbl (bat s i) := by simp only [isbl]; omega
    refine ⟨i + 1, σ.length, ⟨fun h => by rw [← blk_yes hk.2.1 hbl]; exact hi1 h, fun h => absurd hk.1 h, by omega⟩, by omega, by simp, ⟨rfl, rfl, trivial⟩, closed_set (x := .box [.str s, .int .i64 ((i : Int) + 1), .int .i64 deep, .int .i64 bad, .int .i64 spot]) hcl (by simp [AO.cells, AV.ltL, AV.lt]), ?_, take_set ?_⟩
    ·simp [ltE, AV.lt]; omega
    ·rw [Int.natCast_add]; rfl
   ·rw [h3]; replace h3 := zcl h3
    refine zg1 ?_
    refine ztG rfl rfl (zc rfl (peek_c s (i : Int) deep bad spot p _ (get_set hp) (by omega))) ?_
    refine zv2 ?_
    refine AWp_cond rfl (fun h4 => ?_) (fun h4 => ?_)
    ·(try rw [h4]); replace h4 := zcl h4
     refine AWp_skip ?_
     refine AWp_block ?_
     refine AWp_regL ?_
     refine zv8 ?_
     have hk := pk_yes (s := s) (a := i) (bad := bad) (by omega)
     have hbl : isbl (bat s i) := by simp only [isbl]; omega
     refine ⟨i + 1, σ.length, ⟨fun h => by rw [← blk_yes hk.2.1 hbl]; exact hi1 h, fun h => absurd hk.1 h, by omega⟩, by omega, by simp, ⟨rfl, rfl, trivial⟩, closed_set (x := .box [.str s, .int .i64 ((i : Int) + 1), .int .i64 deep, .int .i64 bad, .int .i64 spot]) hcl (by simp [AO.cells, AV.ltL, AV.lt]), ?_, take_set ?_⟩
     ·simp [ltE, AV.lt]; omega
     ·rw [Int.natCast_add]; rfl
    ·(try rw [h4]); replace h4 := zcl h4
     refine AWp_exit ?_
     (try simp only [blockQ, thenQ])
     have hfin : i = (if bad = 0 then blk s a else a) := by
      by_cases hb : bad = 0
      ·rw [if_pos hb, ← hi1 hb, blk_no]; intro hx; have := pk_in (s := s) hb hx.1; have := hx.2; simp only [isbl] at this; omega
      ·rw [if_neg hb]; exact hi2 hb
     rw [← hfin]
     exact ResQ_N0 (x := .box [.str s, .int .i64 (i : Int), .int .i64 deep, .int .i64 bad, .int .i64 spot]) hcl (by simp [AO.cells, AV.ltL, AV.lt]) ⟨rfl, rfl⟩
end Lg
set_option maxRecDepth 20000
set_option maxHeartbeats 4000000
namespace Lg
open Go Go.Proofs Go.RowKit
variable [GLay] 
theorem open_c (s : ByteArray) (a : Nat) (deep bad spot : Int) (p : Nat) (σ : List AO) (hσ : σ[p]? = some (.box [.str s, .int .i64 (a : Int), .int .i64 deep, .int .i64 bad, .int .i64 spot])) (hs : s.size ≤ 1000000) (ha : a < 1000000) (hd : 0 ≤ deep) (hd2 : deep ≤ 1000000) : ACalls Tryd.prog 89 [.ptr p 0] σ (Ret (.tup []) (σ.set p (.box [.str s, .int .i64 ((if (if deep = 32 then (if bad = 0 then 3 else bad) else bad) = 0 then blk s (a + 1) else a + 1 : Nat) : Int), .int .i64 (deep + 1), .int .i64 (if deep = 32 then (if bad = 0 then 3 else bad) else bad), .int .i64 (if deep = 32 then (if bad = 0 then (a : Int) else spot) else spot)]))) := by
 have hp : p < σ.length := (List.getElem?_eq_some_iff.1 hσ).1
 refine ACalls_body Tryd.func89 rfl Tryd.ntmps89 (res0 Tryd.results89) (Nat.le_of_ble_eq_true rfl) (fun hcl hal => ?_)
 refine AWp_heap (set_same hσ) ?_
 refine AWp_seq ?_
 refine zw5 ?_
 refine AWp_cond rfl (fun h1 => ?_) (fun h1 => ?_)
 ·(try rw [h1]); replace h1 := zcl h1
  refine AWp_regL ?_
  refine zg5 ?_
  refine zt rfl (zc rfl (callS (fail_c s (a : Int) deep bad spot p _ (get_set hp) (a : Int) 3))) ?_
  refine zon ?_
  refine zw8 ?_
  refine zw8 ?_
  refine AWp_regL ?_
  refine zg1 ?_
  refine zt rfl (zc rfl (callS (blank_c s (a + 1) (deep + 1) _ _ p _ (get_set hp) hs (by omega)))) ?_
  refine zon ?_
  (try simp only [blockQ, thenQ])
  simp only [if_pos h1]
  exact ResQ_N0 hcl (by simp [AO.cells, AV.ltL, AV.lt]) ⟨rfl, rfl⟩
 ·(try rw [h1]); replace h1 := zcl h1
  refine AWp_skip ?_
  refine zw8 ?_
  refine zw8 ?_
  refine AWp_regL ?_
  refine zg1 ?_
  refine zt rfl (zc rfl (callS (blank_c s (a + 1) (deep + 1) _ _ p _ (get_set hp) hs (by omega)))) ?_
  refine zon ?_
  (try simp only [blockQ, thenQ])
  simp only [if_neg h1]
  exact ResQ_N0 hcl (by simp [AO.cells, AV.ltL, AV.lt]) ⟨rfl, rfl⟩
end Lg
set_option maxRecDepth 20000
set_option maxHeartbeats 4000000
namespace Lg
open Go Go.Proofs Go.RowKit
variable [GLay] 
theorem run_n (s : ByteArray) (a : Nat) (σ : List AO) (hs : s.size ≤ 1000000) (ha : a ≤ 1000000) : ACalls Tryd.prog 76 [.str s, .int .i64 (a : Int)] σ (Ret (.int .i64 (runl s a : Int)) σ) := by
  have := run_c s (a : Int) σ (by omega) (by omega) (by omega)
  simpa using this
theorem end_c (s : ByteArray) (a : Nat) (σ : List AO) (hs : s.size ≤ 1000000) (ha : a ≤ s.size) : ACalls Tryd.prog 70 [.str s, .int .i64 (a : Int)] σ (Ret (.tup [.int .i64 ((rEnd s a).1 : Int), .bool (rEnd s a).2]) σ) := by
 refine ACalls_body Tryd.func70 rfl Tryd.ntmps70 (res2 Tryd.results70) (Nat.le_of_ble_eq_true rfl) (fun hcl hal => ?_)
 have hi1 := eSign_le ha
 have hr1 := runl_le s (eSign s a)
 refine zw2 ?_
 refine zw2 ?_
 refine AWp_join (ι := Unit) (fun b => True) (fun b => ⟨[], [(0, .str s), (6, .int .i64 (eSign s a : Int))]⟩) (fun b => σ) ?_ (fun b hj => ?_)
 ·skip
  refine zu5 ?_
  refine zsp 13 rfl (fun h1 => ?_) fun h1 => ?_
  ·rw [h1]; (try simp only [decide_eq_true_eq, decide_eq_false_iff_not, Bool.not_eq_true', Bool.not_eq_false', Int.not_lt, Int.not_le, Bool.not_true, Bool.not_false, Int.toNat_natCast, tn1, tn2, tnn, bne_iff_ne, beq_iff_eq, beq_eq_false_iff_ne, ne_eq, Decidable.not_not] at h1)
   refine zv5 ?_
   refine AWp_cond rfl (fun h2 => ?_) (fun h2 => ?_)
   ·(try rw [h2]); (try simp only [decide_eq_true_eq, decide_eq_false_iff_not, Bool.not_eq_true', Bool.not_eq_false', Int.not_lt, Int.not_le, Bool.not_true, Bool.not_false, Int.toNat_natCast, tn1, tn2, tnn, bne_iff_ne, beq_iff_eq, beq_eq_false_iff_ne, ne_eq, Decidable.not_not] at h2)
    refine AWp_regL ?_
    refine zv3 ?_
    refine ⟨(), trivial, ⟨rfl, rfl, ?_, trivial⟩, rfl⟩
    unfold eSign; first | (rw [if_pos (by omega)]; rfl) | (rw [if_neg (by omega)]; rfl)
   ·(try rw [h2]); (try simp only [decide_eq_true_eq, decide_eq_false_iff_not, Bool.not_eq_true', Bool.not_eq_false', Int.not_lt, Int.not_le, Bool.not_true, Bool.not_false, Int.toNat_natCast, tn1, tn2, tnn, bne_iff_ne, beq_iff_eq, beq_eq_false_iff_ne, ne_eq, Decidable.not_not] at h2)
    refine AWp_skip ?_
    refine ⟨(), trivial, ⟨rfl, rfl, ?_, trivial⟩, rfl⟩
    unfold eSign; first | (rw [if_pos (by omega)]; rfl) | (rw [if_neg (by omega)]; rfl)
  ·rw [h1]; (try simp only [decide_eq_true_eq, decide_eq_false_iff_not, Bool.not_eq_true', Bool.not_eq_false', Int.not_lt, Int.not_le, Bool.not_true, Bool.not_false, Int.toNat_natCast, tn1, tn2, tnn, bne_iff_ne, beq_iff_eq, beq_eq_false_iff_ne, ne_eq, Decidable.not_not] at h1)
   refine zv5 ?_
   refine AWp_condF rfl ?_
   refine AWp_skip ?_
   refine ⟨(), trivial, ⟨rfl, rfl, ?_, trivial⟩, rfl⟩
   unfold eSign; first | (rw [if_pos (by omega)]; rfl) | (rw [if_neg (by omega)]; rfl)
 ·skip
  refine zu2 ?_
  refine zt rfl (zc rfl (run_n s (eSign s a) _ hs (by omega))) ?_
  refine zv1 ?_
  refine AWp_seq ?_
  refine zw2 ?_
  refine AWp_cond rfl (fun h3 => ?_) (fun h3 => ?_)
  ·(try rw [h3]); (try simp only [decide_eq_true_eq, decide_eq_false_iff_not, Bool.not_eq_true', Bool.not_eq_false', Int.not_lt, Int.not_le, Bool.not_true, Bool.not_false, Int.toNat_natCast, tn1, tn2, tnn, bne_iff_ne, beq_iff_eq, beq_eq_false_iff_ne, ne_eq, Decidable.not_not] at h3)
   refine zw3 ?_
   refine zrt ?_
   have hE : rEnd s a = (eSign s a, false) := by unfold rEnd; rw [if_pos (by omega)]
   rw [hE]; exact ResQ_20 rfl rfl hcl (by simp [AV.lt, AV.ltL]) (Ret_of rfl)
  ·(try rw [h3]); (try simp only [decide_eq_true_eq, decide_eq_false_iff_not, Bool.not_eq_true', Bool.not_eq_false', Int.not_lt, Int.not_le, Bool.not_true, Bool.not_false, Int.toNat_natCast, tn1, tn2, tnn, bne_iff_ne, beq_iff_eq, beq_eq_false_iff_ne, ne_eq, Decidable.not_not] at h3)
   refine AWp_skip ?_
   refine AWp_join (ι := Unit) (fun b => True) (fun b => ⟨[], [(0, .str s), (6, .int .i64 (eSign s a : Int)), (7, .int .i64 (eInt s (eSign s a) : Int))]⟩) (fun b => σ) ?_ (fun b hj => ?_)
   ·skip
    refine zw4 ?_
    refine AWp_cond rfl (fun h4 => ?_) (fun h4 => ?_)
    ·(try rw [h4]); (try simp only [decide_eq_true_eq, decide_eq_false_iff_not, Bool.not_eq_true', Bool.not_eq_false', Int.not_lt, Int.not_le, Bool.not_true, Bool.not_false, Int.toNat_natCast, tn1, tn2, tnn, bne_iff_ne, beq_iff_eq, beq_eq_false_iff_ne, ne_eq, Decidable.not_not] at h4)
     refine AWp_regL ?_
     refine zv1 ?_
     refine ⟨(), trivial, ⟨rfl, rfl, rfl, ?_, trivial⟩, rfl⟩
     unfold eInt; first | (rw [if_pos (by omega)]; rfl) | (rw [if_neg (by omega)]; rfl)
    ·(try rw [h4]); (try simp only [decide_eq_true_eq, decide_eq_false_iff_not, Bool.not_eq_true', Bool.not_eq_false', Int.not_lt, Int.not_le, Bool.not_true, Bool.not_false, Int.toNat_natCast, tn1, tn2, tnn, bne_iff_ne, beq_iff_eq, beq_eq_false_iff_ne, ne_eq, Decidable.not_not] at h4)
     refine AWp_skip ?_
     refine ⟨(), trivial, ⟨rfl, rfl, rfl, ?_, trivial⟩, rfl⟩
     unfold eInt; first | (rw [if_pos (by omega)]; rfl) | (rw [if_neg (by omega)]; rfl)
   ·skip
    have hi2 := eInt_le hi1.2 (by omega)
    have hE : rEnd s a = eFrac s (eSign s a + eInt s (eSign s a)) := by unfold rEnd; rw [if_neg (by omega)]
    generalize hk : (eSign s a + eInt s (eSign s a)) = k at hE
    have hr2 := runl_le s (k + 1)
    refine zu3 ?_
    rw [← Int.natCast_add, hk]
    refine zv1 ?_
    refine AWp_join (ι := Nat) (fun j => rEnd s a = ePow s j ∧ j ≤ s.size) (fun j => ⟨[], [(0, .str s), (6, .int .i64 (j : Int))]⟩) (fun j => σ) ?_ (fun j hj => ?_)
    ·skip
     refine zu5 ?_
     refine zsp 38 rfl (fun h5 => ?_) fun h5 => ?_
     ·rw [h5]; (try simp only [decide_eq_true_eq, decide_eq_false_iff_not, Bool.not_eq_true', Bool.not_eq_false', Int.not_lt, Int.not_le, Bool.not_true, Bool.not_false, Int.toNat_natCast, tn1, tn2, tnn, bne_iff_ne, beq_iff_eq, beq_eq_false_iff_ne, ne_eq, Decidable.not_not] at h5)
      refine zv5 ?_
      refine AWp_cond rfl (fun h6 => ?_) (fun h6 => ?_)
      ·(try rw [h6]); (try simp only [decide_eq_true_eq, decide_eq_false_iff_not, Bool.not_eq_true', Bool.not_eq_false', Int.not_lt, Int.not_le, Bool.not_true, Bool.not_false, Int.toNat_natCast, tn1, tn2, tnn, bne_iff_ne, beq_iff_eq, beq_eq_false_iff_ne, ne_eq, Decidable.not_not] at h6)
       refine zu3 ?_
       refine zt rfl (zc rfl (run_n s (k + 1) _ hs (by omega))) ?_
       refine zv1 ?_
       refine zw5 ?_
       refine zw2 ?_
       refine AWp_cond rfl (fun h7 => ?_) (fun h7 => ?_)
       ·(try rw [h7]); (try simp only [decide_eq_true_eq, decide_eq_false_iff_not, Bool.not_eq_true', Bool.not_eq_false', Int.not_lt, Int.not_le, Bool.not_true, Bool.not_false, Int.toNat_natCast, tn1, tn2, tnn, bne_iff_ne, beq_iff_eq, beq_eq_false_iff_ne, ne_eq, Decidable.not_not] at h7)
        refine zw3 ?_
        refine zrt ?_
        have hE : rEnd s a = (k + 1, false) := by rw [hE]; unfold eFrac; rw [if_pos (by omega), if_pos (by omega)]
        rw [hE]; refine ResQ_20 rfl rfl hcl (by simp [AV.lt, AV.ltL]) (Ret_of ?_)
        congr 3; dsimp only; omega
       ·(try rw [h7]); (try simp only [decide_eq_true_eq, decide_eq_false_iff_not, Bool.not_eq_true', Bool.not_eq_false', Int.not_lt, Int.not_le, Bool.not_true, Bool.not_false, Int.toNat_natCast, tn1, tn2, tnn, bne_iff_ne, beq_iff_eq, beq_eq_false_iff_ne, ne_eq, Decidable.not_not] at h7)
        refine AWp_skip ?_
        first | refine ⟨k + 1 + runl s (k + 1), ⟨by rw [hE]; unfold eFrac; rw [if_pos (by omega), if_neg (by omega)], by omega⟩, ⟨rfl, rfl, rfl, trivial⟩, rfl⟩ | refine ⟨k, ⟨by rw [hE]; unfold eFrac; rw [if_neg (by omega)], by omega⟩, ⟨rfl, rfl, rfl, trivial⟩, rfl⟩
      ·(try rw [h6]); (try simp only [decide_eq_true_eq, decide_eq_false_iff_not, Bool.not_eq_true', Bool.not_eq_false', Int.not_lt, Int.not_le, Bool.not_true, Bool.not_false, Int.toNat_natCast, tn1, tn2, tnn, bne_iff_ne, beq_iff_eq, beq_eq_false_iff_ne, ne_eq, Decidable.not_not] at h6)
       refine AWp_skip ?_
       first | refine ⟨k + 1 + runl s (k + 1), ⟨by rw [hE]; unfold eFrac; rw [if_pos (by omega), if_neg (by omega)], by omega⟩, ⟨rfl, rfl, rfl, trivial⟩, rfl⟩ | refine ⟨k, ⟨by rw [hE]; unfold eFrac; rw [if_neg (by omega)], by omega⟩, ⟨rfl, rfl, rfl, trivial⟩, rfl⟩
     ·rw [h5]; (try simp only [decide_eq_true_eq, decide_eq_false_iff_not, Bool.not_eq_true', Bool.not_eq_false', Int.not_lt, Int.not_le, Bool.not_true, Bool.not_false, Int.toNat_natCast, tn1, tn2, tnn, bne_iff_ne, beq_iff_eq, beq_eq_false_iff_ne, ne_eq, Decidable.not_not] at h5)
      refine zv5 ?_
      refine AWp_condF rfl ?_
      refine AWp_skip ?_
      first | refine ⟨k + 1 + runl s (k + 1), ⟨by rw [hE]; unfold eFrac; rw [if_pos (by omega), if_neg (by omega)], by omega⟩, ⟨rfl, rfl, rfl, trivial⟩, rfl⟩ | refine ⟨k, ⟨by rw [hE]; unfold eFrac; rw [if_neg (by omega)], by omega⟩, ⟨rfl, rfl, rfl, trivial⟩, rfl⟩
    ·skip
     obtain ⟨hE, hj⟩ := hj
     refine AWp_seq ?_
     refine zu5 ?_
     refine zsp 59 rfl (fun h8 => ?_) fun h8 => ?_
     ·rw [h8]; (try simp only [decide_eq_true_eq, decide_eq_false_iff_not, Bool.not_eq_true', Bool.not_eq_false', Int.not_lt, Int.not_le, Bool.not_true, Bool.not_false, Int.toNat_natCast, tn1, tn2, tnn, bne_iff_ne, beq_iff_eq, beq_eq_false_iff_ne, ne_eq, Decidable.not_not] at h8)
      refine zg5 ?_
      refine zsp 64 rfl (fun h9 => ?_) fun h9 => ?_
      ·rw [h9]; (try simp only [decide_eq_true_eq, decide_eq_false_iff_not, Bool.not_eq_true', Bool.not_eq_false', Int.not_lt, Int.not_le, Bool.not_true, Bool.not_false, Int.toNat_natCast, tn1, tn2, tnn, bne_iff_ne, beq_iff_eq, beq_eq_false_iff_ne, ne_eq, Decidable.not_not] at h9)
       refine zv6 ?_
       refine AWp_condT rfl ?_
       refine zw3 ?_
       refine AWp_join (ι := Unit) (fun b => True) (fun b => ⟨[], [(0, .str s), (6, .int .i64 (eSg s (j + 1) : Int))]⟩) (fun b => σ) ?_ (fun b hj => ?_)
       ·skip
        refine zu5 ?_
        refine zsp 77 rfl (fun h10 => ?_) fun h10 => ?_
        ·rw [h10]; (try simp only [decide_eq_true_eq, decide_eq_false_iff_not, Bool.not_eq_true', Bool.not_eq_false', Int.not_lt, Int.not_le, Bool.not_true, Bool.not_false, Int.toNat_natCast, tn1, tn2, tnn, bne_iff_ne, beq_iff_eq, beq_eq_false_iff_ne, ne_eq, Decidable.not_not] at h10)
         refine zg5 ?_
         refine zsp 82 rfl (fun h11 => ?_) fun h11 => ?_
         ·rw [h11]; (try simp only [decide_eq_true_eq, decide_eq_false_iff_not, Bool.not_eq_true', Bool.not_eq_false', Int.not_lt, Int.not_le, Bool.not_true, Bool.not_false, Int.toNat_natCast, tn1, tn2, tnn, bne_iff_ne, beq_iff_eq, beq_eq_false_iff_ne, ne_eq, Decidable.not_not] at h11)
          refine zv6 ?_
          refine AWp_condT rfl ?_
          refine AWp_regL ?_
          refine zv3 ?_
          refine ⟨(), trivial, ⟨rfl, rfl, ?_, trivial⟩, rfl⟩
          unfold eSg; first | (rw [if_pos (by omega)]; rfl) | (rw [if_neg (by omega)]; rfl)
         ·rw [h11]; (try simp only [decide_eq_true_eq, decide_eq_false_iff_not, Bool.not_eq_true', Bool.not_eq_false', Int.not_lt, Int.not_le, Bool.not_true, Bool.not_false, Int.toNat_natCast, tn1, tn2, tnn, bne_iff_ne, beq_iff_eq, beq_eq_false_iff_ne, ne_eq, Decidable.not_not] at h11)
          refine zv6 ?_
          refine AWp_cond rfl (fun h12 => ?_) (fun h12 => ?_)
          ·(try rw [h12]); (try simp only [decide_eq_true_eq, decide_eq_false_iff_not, Bool.not_eq_true', Bool.not_eq_false', Int.not_lt, Int.not_le, Bool.not_true, Bool.not_false, Int.toNat_natCast, tn1, tn2, tnn, bne_iff_ne, beq_iff_eq, beq_eq_false_iff_ne, ne_eq, Decidable.not_not] at h12)
           refine AWp_regL ?_
           refine zv3 ?_
           refine ⟨(), trivial, ⟨rfl, rfl, ?_, trivial⟩, rfl⟩
           unfold eSg; first | (rw [if_pos (by omega)]; rfl) | (rw [if_neg (by omega)]; rfl)
          ·(try rw [h12]); (try simp only [decide_eq_true_eq, decide_eq_false_iff_not, Bool.not_eq_true', Bool.not_eq_false', Int.not_lt, Int.not_le, Bool.not_true, Bool.not_false, Int.toNat_natCast, tn1, tn2, tnn, bne_iff_ne, beq_iff_eq, beq_eq_false_iff_ne, ne_eq, Decidable.not_not] at h12)
           refine AWp_skip ?_
           refine ⟨(), trivial, ⟨rfl, rfl, ?_, trivial⟩, rfl⟩
           unfold eSg; first | (rw [if_pos (by omega)]; rfl) | (rw [if_neg (by omega)]; rfl)
        ·rw [h10]; (try simp only [decide_eq_true_eq, decide_eq_false_iff_not, Bool.not_eq_true', Bool.not_eq_false', Int.not_lt, Int.not_le, Bool.not_true, Bool.not_false, Int.toNat_natCast, tn1, tn2, tnn, bne_iff_ne, beq_iff_eq, beq_eq_false_iff_ne, ne_eq, Decidable.not_not] at h10)
         refine zg10 ?_
         refine zg1 ?_
         refine zon ?_
         refine AWp_condF rfl ?_
         refine AWp_skip ?_
         refine ⟨(), trivial, ⟨rfl, rfl, ?_, trivial⟩, rfl⟩
         unfold eSg; first | (rw [if_pos (by omega)]; rfl) | (rw [if_neg (by omega)]; rfl)
       ·skip
        have hi3 := eSg_le (s := s) (a := j + 1) (by omega)
        have hr3 := runl_le s (eSg s (j + 1))
        refine zu2 ?_
        refine zt rfl (zc rfl (run_n s (eSg s (j + 1)) _ hs (by omega))) ?_
        refine zv1 ?_
        refine zw4 ?_
        refine zw2 ?_
        refine AWp_cond rfl (fun h13 => ?_) (fun h13 => ?_)
        ·(try rw [h13]); (try simp only [decide_eq_true_eq, decide_eq_false_iff_not, Bool.not_eq_true', Bool.not_eq_false', Int.not_lt, Int.not_le, Bool.not_true, Bool.not_false, Int.toNat_natCast, tn1, tn2, tnn, bne_iff_ne, beq_iff_eq, beq_eq_false_iff_ne, ne_eq, Decidable.not_not] at h13)
         refine zw3 ?_
         refine zrt ?_
         first | (have hE2 : rEnd s a = (eSg s (j + 1), false) := by rw [hE]; unfold ePow; rw [if_pos (by omega), if_pos (by omega)]); rw [hE2]; (refine ResQ_20 rfl rfl hcl (by simp [AV.lt, AV.ltL]) (Ret_of ?_)); congr 3; dsimp only; omega | (have hE2 : rEnd s a = (eSg s (j + 1) + runl s (eSg s (j + 1)), true) := by rw [hE]; unfold ePow; rw [if_pos (by omega), if_neg (by omega)]); rw [hE2]; exact ResQ_20 rfl rfl hcl (by simp [AV.lt, AV.ltL]) (Ret_of rfl) | (have hE2 : rEnd s a = (j, true) := by rw [hE]; unfold ePow; rw [if_neg (by omega)]); rw [hE2]; exact ResQ_20 rfl rfl hcl (by simp [AV.lt, AV.ltL]) (Ret_of rfl)
        ·(try rw [h13]); (try simp only [decide_eq_true_eq, decide_eq_false_iff_not, Bool.not_eq_true', Bool.not_eq_false', Int.not_lt, Int.not_le, Bool.not_true, Bool.not_false, Int.toNat_natCast, tn1, tn2, tnn, bne_iff_ne, beq_iff_eq, beq_eq_false_iff_ne, ne_eq, Decidable.not_not] at h13)
         refine AWp_skip ?_
         refine zw3 ?_
         refine zrt ?_
         first | (have hE2 : rEnd s a = (eSg s (j + 1), false) := by rw [hE]; unfold ePow; rw [if_pos (by omega), if_pos (by omega)]); rw [hE2]; (refine ResQ_20 rfl rfl hcl (by simp [AV.lt, AV.ltL]) (Ret_of ?_)); congr 3; dsimp only; omega | (have hE2 : rEnd s a = (eSg s (j + 1) + runl s (eSg s (j + 1)), true) := by rw [hE]; unfold ePow; rw [if_pos (by omega), if_neg (by omega)]); rw [hE2]; exact ResQ_20 rfl rfl hcl (by simp [AV.lt, AV.ltL]) (Ret_of rfl) | (have hE2 : rEnd s a = (j, true) := by rw [hE]; unfold ePow; rw [if_neg (by omega)]); rw [hE2]; exact ResQ_20 rfl rfl hcl (by simp [AV.lt, AV.ltL]) (Ret_of rfl)
      ·rw [h9]; (try simp only [decide_eq_true_eq, decide_eq_false_iff_not, Bool.not_eq_true', Bool.not_eq_false', Int.not_lt, Int.not_le, Bool.not_true, Bool.not_false, Int.toNat_natCast, tn1, tn2, tnn, bne_iff_ne, beq_iff_eq, beq_eq_false_iff_ne, ne_eq, Decidable.not_not] at h9)
       refine zv6 ?_
       refine AWp_cond rfl (fun h14 => ?_) (fun h14 => ?_)
       ·(try rw [h14]); (try simp only [decide_eq_true_eq, decide_eq_false_iff_not, Bool.not_eq_true', Bool.not_eq_false', Int.not_lt, Int.not_le, Bool.not_true, Bool.not_false, Int.toNat_natCast, tn1, tn2, tnn, bne_iff_ne, beq_iff_eq, beq_eq_false_iff_ne, ne_eq, Decidable.not_not] at h14)
        refine zw3 ?_
        refine AWp_join (ι := Unit) (fun b => True) (fun b => ⟨[], [(0, .str s), (6, .int .i64 (eSg s (j + 1) : Int))]⟩) (fun b => σ) ?_ (fun b hj => ?_)
        ·skip
         refine zu5 ?_
         refine zsp 77 rfl (fun h15 => ?_) fun h15 => ?_
         ·rw [h15]; (try simp only [decide_eq_true_eq, decide_eq_false_iff_not, Bool.not_eq_true', Bool.not_eq_false', Int.not_lt, Int.not_le, Bool.not_true, Bool.not_false, Int.toNat_natCast, tn1, tn2, tnn, bne_iff_ne, beq_iff_eq, beq_eq_false_iff_ne, ne_eq, Decidable.not_not] at h15)
          refine zg5 ?_
          refine zsp 82 rfl (fun h16 => ?_) fun h16 => ?_
          ·rw [h16]; (try simp only [decide_eq_true_eq, decide_eq_false_iff_not, Bool.not_eq_true', Bool.not_eq_false', Int.not_lt, Int.not_le, Bool.not_true, Bool.not_false, Int.toNat_natCast, tn1, tn2, tnn, bne_iff_ne, beq_iff_eq, beq_eq_false_iff_ne, ne_eq, Decidable.not_not] at h16)
           refine zv6 ?_
           refine AWp_condT rfl ?_
           refine AWp_regL ?_
           refine zv3 ?_
           refine ⟨(), trivial, ⟨rfl, rfl, ?_, trivial⟩, rfl⟩
           unfold eSg; first | (rw [if_pos (by omega)]; rfl) | (rw [if_neg (by omega)]; rfl)
          ·rw [h16]; (try simp only [decide_eq_true_eq, decide_eq_false_iff_not, Bool.not_eq_true', Bool.not_eq_false', Int.not_lt, Int.not_le, Bool.not_true, Bool.not_false, Int.toNat_natCast, tn1, tn2, tnn, bne_iff_ne, beq_iff_eq, beq_eq_false_iff_ne, ne_eq, Decidable.not_not] at h16)
           refine zv6 ?_
           refine AWp_cond rfl (fun h17 => ?_) (fun h17 => ?_)
           ·(try rw [h17]); (try simp only [decide_eq_true_eq, decide_eq_false_iff_not, Bool.not_eq_true', Bool.not_eq_false', Int.not_lt, Int.not_le, Bool.not_true, Bool.not_false, Int.toNat_natCast, tn1, tn2, tnn, bne_iff_ne, beq_iff_eq, beq_eq_false_iff_ne, ne_eq, Decidable.not_not] at h17)
            refine AWp_regL ?_
            refine zv3 ?_
            refine ⟨(), trivial, ⟨rfl, rfl, ?_, trivial⟩, rfl⟩
            unfold eSg; first | (rw [if_pos (by omega)]; rfl) | (rw [if_neg (by omega)]; rfl)
           ·(try rw [h17]); (try simp only [decide_eq_true_eq, decide_eq_false_iff_not, Bool.not_eq_true', Bool.not_eq_false', Int.not_lt, Int.not_le, Bool.not_true, Bool.not_false, Int.toNat_natCast, tn1, tn2, tnn, bne_iff_ne, beq_iff_eq, beq_eq_false_iff_ne, ne_eq, Decidable.not_not] at h17)
            refine AWp_skip ?_
            refine ⟨(), trivial, ⟨rfl, rfl, ?_, trivial⟩, rfl⟩
            unfold eSg; first | (rw [if_pos (by omega)]; rfl) | (rw [if_neg (by omega)]; rfl)
         ·rw [h15]; (try simp only [decide_eq_true_eq, decide_eq_false_iff_not, Bool.not_eq_true', Bool.not_eq_false', Int.not_lt, Int.not_le, Bool.not_true, Bool.not_false, Int.toNat_natCast, tn1, tn2, tnn, bne_iff_ne, beq_iff_eq, beq_eq_false_iff_ne, ne_eq, Decidable.not_not] at h15)
          refine zg10 ?_
          refine zg1 ?_
          refine zon ?_
          refine AWp_condF rfl ?_
          refine AWp_skip ?_
          refine ⟨(), trivial, ⟨rfl, rfl, ?_, trivial⟩, rfl⟩
          unfold eSg; first | (rw [if_pos (by omega)]; rfl) | (rw [if_neg (by omega)]; rfl)
        ·skip
         have hi3 := eSg_le (s := s) (a := j + 1) (by omega)
         have hr3 := runl_le s (eSg s (j + 1))
         refine zu2 ?_
         refine zt rfl (zc rfl (run_n s (eSg s (j + 1)) _ hs (by omega))) ?_
         refine zv1 ?_
         refine zw4 ?_
         refine zw2 ?_
         refine AWp_cond rfl (fun h18 => ?_) (fun h18 => ?_)
         ·(try rw [h18]); (try simp only [decide_eq_true_eq, decide_eq_false_iff_not, Bool.not_eq_true', Bool.not_eq_false', Int.not_lt, Int.not_le, Bool.not_true, Bool.not_false, Int.toNat_natCast, tn1, tn2, tnn, bne_iff_ne, beq_iff_eq, beq_eq_false_iff_ne, ne_eq, Decidable.not_not] at h18)
          refine zw3 ?_
          refine zrt ?_
          first | (have hE2 : rEnd s a = (eSg s (j + 1), false) := by rw [hE]; unfold ePow; rw [if_pos (by omega), if_pos (by omega)]); rw [hE2]; (refine ResQ_20 rfl rfl hcl (by simp [AV.lt, AV.ltL]) (Ret_of ?_)); congr 3; dsimp only; omega | (have hE2 : rEnd s a = (eSg s (j + 1) + runl s (eSg s (j + 1)), true) := by rw [hE]; unfold ePow; rw [if_pos (by omega), if_neg (by omega)]); rw [hE2]; exact ResQ_20 rfl rfl hcl (by simp [AV.lt, AV.ltL]) (Ret_of rfl) | (have hE2 : rEnd s a = (j, true) := by rw [hE]; unfold ePow; rw [if_neg (by omega)]); rw [hE2]; exact ResQ_20 rfl rfl hcl (by simp [AV.lt, AV.ltL]) (Ret_of rfl)
         ·(try rw [h18]); (try simp only [decide_eq_true_eq, decide_eq_false_iff_not, Bool.not_eq_true', Bool.not_eq_false', Int.not_lt, Int.not_le, Bool.not_true, Bool.not_false, Int.toNat_natCast, tn1, tn2, tnn, bne_iff_ne, beq_iff_eq, beq_eq_false_iff_ne, ne_eq, Decidable.not_not] at h18)
          refine AWp_skip ?_
          refine zw3 ?_
          refine zrt ?_
          first | (have hE2 : rEnd s a = (eSg s (j + 1), false) := by rw [hE]; unfold ePow; rw [if_pos (by omega), if_pos (by omega)]); rw [hE2]; (refine ResQ_20 rfl rfl hcl (by simp [AV.lt, AV.ltL]) (Ret_of ?_)); congr 3; dsimp only; omega | (have hE2 : rEnd s a = (eSg s (j + 1) + runl s (eSg s (j + 1)), true) := by rw [hE]; unfold ePow; rw [if_pos (by omega), if_neg (by omega)]); rw [hE2]; exact ResQ_20 rfl rfl hcl (by simp [AV.lt, AV.ltL]) (Ret_of rfl) | (have hE2 : rEnd s a = (j, true) := by rw [hE]; unfold ePow; rw [if_neg (by omega)]); rw [hE2]; exact ResQ_20 rfl rfl hcl (by simp [AV.lt, AV.ltL]) (Ret_of rfl)
       ·(try rw [h14]); (try simp only [decide_eq_true_eq, decide_eq_false_iff_not, Bool.not_eq_true', Bool.not_eq_false', Int.not_lt, Int.not_le, Bool.not_true, Bool.not_false, Int.toNat_natCast, tn1, tn2, tnn, bne_iff_ne, beq_iff_eq, beq_eq_false_iff_ne, ne_eq, Decidable.not_not] at h14)
        refine AWp_skip ?_
        refine zw3 ?_
        refine zrt ?_
        first | (have hE2 : rEnd s a = (eSg s (j + 1), false) := by rw [hE]; unfold ePow; rw [if_pos (by omega), if_pos (by omega)]); rw [hE2]; (refine ResQ_20 rfl rfl hcl (by simp [AV.lt, AV.ltL]) (Ret_of ?_)); congr 3; dsimp only; omega | (have hE2 : rEnd s a = (eSg s (j + 1) + runl s (eSg s (j + 1)), true) := by rw [hE]; unfold ePow; rw [if_pos (by omega), if_neg (by omega)]); rw [hE2]; exact ResQ_20 rfl rfl hcl (by simp [AV.lt, AV.ltL]) (Ret_of rfl) | (have hE2 : rEnd s a = (j, true) := by rw [hE]; unfold ePow; rw [if_neg (by omega)]); rw [hE2]; exact ResQ_20 rfl rfl hcl (by simp [AV.lt, AV.ltL]) (Ret_of rfl)
     ·rw [h8]; (try simp only [decide_eq_true_eq, decide_eq_false_iff_not, Bool.not_eq_true', Bool.not_eq_false', Int.not_lt, Int.not_le, Bool.not_true, Bool.not_false, Int.toNat_natCast, tn1, tn2, tnn, bne_iff_ne, beq_iff_eq, beq_eq_false_iff_ne, ne_eq, Decidable.not_not] at h8)
      refine zg10 ?_
      refine zg1 ?_
      refine zon ?_
      refine AWp_condF rfl ?_
      refine AWp_skip ?_
      refine zw3 ?_
      refine zrt ?_
      first | (have hE2 : rEnd s a = (eSg s (j + 1), false) := by rw [hE]; unfold ePow; rw [if_pos (by omega), if_pos (by omega)]); rw [hE2]; (refine ResQ_20 rfl rfl hcl (by simp [AV.lt, AV.ltL]) (Ret_of ?_)); congr 3; dsimp only; omega | (have hE2 : rEnd s a = (eSg s (j + 1) + runl s (eSg s (j + 1)), true) := by rw [hE]; unfold ePow; rw [if_pos (by omega), if_neg (by omega)]); rw [hE2]; exact ResQ_20 rfl rfl hcl (by simp [AV.lt, AV.ltL]) (Ret_of rfl) | (have hE2 : rEnd s a = (j, true) := by rw [hE]; unfold ePow; rw [if_neg (by omega)]); rw [hE2]; exact ResQ_20 rfl rfl hcl (by simp [AV.lt, AV.ltL]) (Ret_of rfl)
end Lg
set_option maxRecDepth 20000
set_option maxHeartbeats 4000000
namespace Lg
open Go Go.Proofs Go.RowKit
variable [GLay] 
theorem hex_c (s : ByteArray) (a : Nat) (σ : List AO) (hs : s.size ≤ 1000000) (ha : a ≤ 2000000) : ACalls Tryd.prog 113 [.str s, .int .i64 (a : Int)] σ (Ret (.tup [.int .i64 (rhex s a).1, .int .i64 (rhex s a).2]) σ) := by
 refine ACalls_body Tryd.func113 rfl Tryd.ntmps113 (res2 Tryd.results113) (Nat.le_of_ble_eq_true rfl) (fun hcl hal => ?_)
 refine zw2 ?_
 refine zw1 ?_
 refine AWp_seq ?_
 refine zw2 ?_
 refine AWp_block ?_
 -- loop 0 LIVE 0:param 1:param 4:assign 5:assign 6:assign 7:assign
 refine AWp_loop (ι := Nat × Int) (fun q => hexF s q.1 (a + 4) q.2 = rhex s a ∧ a ≤ q.1 ∧ 0 ≤ q.2 ∧ ((q.1 = a ∧ q.2 = 0) ∨ (q.1 = a + 1 ∧ q.2 < 16) ∨ (q.1 = a + 2 ∧ q.2 < 256) ∨ (q.1 = a + 3 ∧ q.2 < 4096) ∨ (q.1 = a + 4 ∧ q.2 < 65536))) (fun q => ⟨[], [(0, .str s), (1, .int .i64 (a : Int)), (6, .int .i64 q.2), (7, .int .i64 (q.1 : Int))]⟩) (fun q => σ) (fun q => a + 4 - q.1) ((a, 0)) (⟨rfl, Nat.le_refl _, Int.le_refl _, .inl ⟨rfl, rfl⟩⟩) ?_ rfl (fun q hq => ?_)
 ·exact ⟨rfl, rfl, rfl, rfl, rfl, trivial⟩
 obtain ⟨i, v⟩ := q
 obtain ⟨hq1, hq2, hq3, hq4⟩ := hq
 simp only at hq1 hq2 hq3 hq4 ⊢
 have hbl := bat_lt s i
 refine AWp_seq ?_
 refine zw4 ?_
 refine AWp_cond rfl (fun h1 => ?_) (fun h1 => ?_)
 ·(try rw [h1]); (try simp only [decide_eq_true_eq, decide_eq_false_iff_not, Bool.not_eq_true', Bool.not_eq_false', Int.not_lt, Int.not_le, Bool.not_true, Bool.not_false, Int.toNat_natCast, tn1, tn2, tnn, bne_iff_ne, beq_iff_eq, beq_eq_false_iff_ne, ne_eq, Decidable.not_not] at h1)
  refine AWp_skip ?_
  refine AWp_seq ?_
  refine AWp_block ?_
  refine AWp_seq ?_
  refine zw4 ?_
  refine AWp_cond rfl (fun h2 => ?_) (fun h2 => ?_)
  ·(try rw [h2]); (try simp only [decide_eq_true_eq, decide_eq_false_iff_not, Bool.not_eq_true', Bool.not_eq_false', Int.not_lt, Int.not_le, Bool.not_true, Bool.not_false, Int.toNat_natCast, tn1, tn2, tnn, bne_iff_ne, beq_iff_eq, beq_eq_false_iff_ne, ne_eq, Decidable.not_not] at h2)
   refine zw3 ?_
   refine zrt ?_
   first | (have hE : rhex s a = (0, (i : Int)) := by rw [← hq1, hexF.eq_1 s i, if_pos (by omega)]; first | (rw [if_pos (by omega)]; done) | (rw [if_neg (by omega), if_pos (by omega)]; done)); rw [hE]; exact ResQ_20 rfl rfl hcl (by simp [AV.lt, AV.ltL]) (Ret_of rfl) | (have hE : rhex s a = (v, -1) := by rw [← hq1, hexF.eq_1 s i, if_neg (by omega)]); rw [hE]; exact ResQ_20 rfl rfl hcl (by simp [AV.lt, AV.ltL]) (Ret_of rfl)
  ·(try rw [h2]); (try simp only [decide_eq_true_eq, decide_eq_false_iff_not, Bool.not_eq_true', Bool.not_eq_false', Int.not_lt, Int.not_le, Bool.not_true, Bool.not_false, Int.toNat_natCast, tn1, tn2, tnn, bne_iff_ne, beq_iff_eq, beq_eq_false_iff_ne, ne_eq, Decidable.not_not] at h2)
   refine AWp_skip ?_
   refine zu3 ?_
   simp only [Int.toNat_natCast]
   refine zv2 ?_
   refine zw1 ?_
   refine AWp_join (ι := Unit) (fun b => True) (fun b => ⟨[], [(0, .str s), (1, .int .i64 (a : Int)), (6, .int .i64 v), (7, .int .i64 (i : Int)), (8, .int .i64 ((bat s i).toNat : Int)), (9, .int .i64 (hd1 (bat s i).toNat))]⟩) (fun b => σ) ?_ (fun b hj => ?_)
   ·skip
    refine zu3 ?_
    refine zsp 28 rfl (fun h3 => ?_) fun h3 => ?_
    ·rw [h3]; (try simp only [decide_eq_true_eq, decide_eq_false_iff_not, Bool.not_eq_true', Bool.not_eq_false', Int.not_lt, Int.not_le, Bool.not_true, Bool.not_false, Int.toNat_natCast, tn1, tn2, tnn, bne_iff_ne, beq_iff_eq, beq_eq_false_iff_ne, ne_eq, Decidable.not_not] at h3)
     refine zv3 ?_
     refine AWp_cond rfl (fun h4 => ?_) (fun h4 => ?_)
     ·(try rw [h4]); (try simp only [decide_eq_true_eq, decide_eq_false_iff_not, Bool.not_eq_true', Bool.not_eq_false', Int.not_lt, Int.not_le, Bool.not_true, Bool.not_false, Int.toNat_natCast, tn1, tn2, tnn, bne_iff_ne, beq_iff_eq, beq_eq_false_iff_ne, ne_eq, Decidable.not_not] at h4)
      refine AWp_regL ?_
      refine zv3 ?_
      refine ⟨(), trivial, ⟨rfl, rfl, rfl, rfl, rfl, rfl, ?_, trivial⟩, rfl⟩
      unfold hd1; first | (rw [if_pos (by omega)]; rfl) | (rw [if_neg (by omega)]; rfl)
     ·(try rw [h4]); (try simp only [decide_eq_true_eq, decide_eq_false_iff_not, Bool.not_eq_true', Bool.not_eq_false', Int.not_lt, Int.not_le, Bool.not_true, Bool.not_false, Int.toNat_natCast, tn1, tn2, tnn, bne_iff_ne, beq_iff_eq, beq_eq_false_iff_ne, ne_eq, Decidable.not_not] at h4)
      refine AWp_skip ?_
      refine ⟨(), trivial, ⟨rfl, rfl, rfl, rfl, rfl, rfl, ?_, trivial⟩, rfl⟩
      unfold hd1; first | (rw [if_pos (by omega)]; rfl) | (rw [if_neg (by omega)]; rfl)
    ·rw [h3]; (try simp only [decide_eq_true_eq, decide_eq_false_iff_not, Bool.not_eq_true', Bool.not_eq_false', Int.not_lt, Int.not_le, Bool.not_true, Bool.not_false, Int.toNat_natCast, tn1, tn2, tnn, bne_iff_ne, beq_iff_eq, beq_eq_false_iff_ne, ne_eq, Decidable.not_not] at h3)
     refine zv3 ?_
     refine AWp_condF rfl ?_
     refine AWp_skip ?_
     refine ⟨(), trivial, ⟨rfl, rfl, rfl, rfl, rfl, rfl, ?_, trivial⟩, rfl⟩
     unfold hd1; first | (rw [if_pos (by omega)]; rfl) | (rw [if_neg (by omega)]; rfl)
   ·skip
    refine AWp_join (ι := Unit) (fun b => True) (fun b => ⟨[], [(0, .str s), (1, .int .i64 (a : Int)), (6, .int .i64 v), (7, .int .i64 (i : Int)), (8, .int .i64 ((bat s i).toNat : Int)), (9, .int .i64 (hd2 (bat s i).toNat))]⟩) (fun b => σ) ?_ (fun b hj => ?_)
    ·skip
     refine zu3 ?_
     refine zsp 36 rfl (fun h5 => ?_) fun h5 => ?_
     ·rw [h5]; (try simp only [decide_eq_true_eq, decide_eq_false_iff_not, Bool.not_eq_true', Bool.not_eq_false', Int.not_lt, Int.not_le, Bool.not_true, Bool.not_false, Int.toNat_natCast, tn1, tn2, tnn, bne_iff_ne, beq_iff_eq, beq_eq_false_iff_ne, ne_eq, Decidable.not_not] at h5)
      refine zv3 ?_
      refine AWp_cond rfl (fun h6 => ?_) (fun h6 => ?_)
      ·(try rw [h6]); (try simp only [decide_eq_true_eq, decide_eq_false_iff_not, Bool.not_eq_true', Bool.not_eq_false', Int.not_lt, Int.not_le, Bool.not_true, Bool.not_false, Int.toNat_natCast, tn1, tn2, tnn, bne_iff_ne, beq_iff_eq, beq_eq_false_iff_ne, ne_eq, Decidable.not_not] at h6)
       refine AWp_regL ?_
       refine zv3 ?_
       refine ⟨(), trivial, ⟨rfl, rfl, rfl, rfl, rfl, rfl, ?_, trivial⟩, rfl⟩
       unfold hd2; first | (rw [if_pos (by omega)]; rfl) | (rw [if_neg (by omega)]; rfl)
      ·(try rw [h6]); (try simp only [decide_eq_true_eq, decide_eq_false_iff_not, Bool.not_eq_true', Bool.not_eq_false', Int.not_lt, Int.not_le, Bool.not_true, Bool.not_false, Int.toNat_natCast, tn1, tn2, tnn, bne_iff_ne, beq_iff_eq, beq_eq_false_iff_ne, ne_eq, Decidable.not_not] at h6)
       refine AWp_skip ?_
       refine ⟨(), trivial, ⟨rfl, rfl, rfl, rfl, rfl, rfl, ?_, trivial⟩, rfl⟩
       unfold hd2; first | (rw [if_pos (by omega)]; rfl) | (rw [if_neg (by omega)]; rfl)
     ·rw [h5]; (try simp only [decide_eq_true_eq, decide_eq_false_iff_not, Bool.not_eq_true', Bool.not_eq_false', Int.not_lt, Int.not_le, Bool.not_true, Bool.not_false, Int.toNat_natCast, tn1, tn2, tnn, bne_iff_ne, beq_iff_eq, beq_eq_false_iff_ne, ne_eq, Decidable.not_not] at h5)
      refine zv3 ?_
      refine AWp_condF rfl ?_
      refine AWp_skip ?_
      refine ⟨(), trivial, ⟨rfl, rfl, rfl, rfl, rfl, rfl, ?_, trivial⟩, rfl⟩
      unfold hd2; first | (rw [if_pos (by omega)]; rfl) | (rw [if_neg (by omega)]; rfl)
    ·skip
     refine AWp_join (ι := Unit) (fun b => True) (fun b => ⟨[], [(0, .str s), (1, .int .i64 (a : Int)), (6, .int .i64 v), (7, .int .i64 (i : Int)), (8, .int .i64 ((bat s i).toNat : Int)), (9, .int .i64 (hexd (bat s i).toNat))]⟩) (fun b => σ) ?_ (fun b hj => ?_)
     ·skip
      refine zu3 ?_
      refine zsp 44 rfl (fun h7 => ?_) fun h7 => ?_
      ·rw [h7]; (try simp only [decide_eq_true_eq, decide_eq_false_iff_not, Bool.not_eq_true', Bool.not_eq_false', Int.not_lt, Int.not_le, Bool.not_true, Bool.not_false, Int.toNat_natCast, tn1, tn2, tnn, bne_iff_ne, beq_iff_eq, beq_eq_false_iff_ne, ne_eq, Decidable.not_not] at h7)
       refine zv3 ?_
       refine AWp_cond rfl (fun h8 => ?_) (fun h8 => ?_)
       ·(try rw [h8]); (try simp only [decide_eq_true_eq, decide_eq_false_iff_not, Bool.not_eq_true', Bool.not_eq_false', Int.not_lt, Int.not_le, Bool.not_true, Bool.not_false, Int.toNat_natCast, tn1, tn2, tnn, bne_iff_ne, beq_iff_eq, beq_eq_false_iff_ne, ne_eq, Decidable.not_not] at h8)
        refine AWp_regL ?_
        refine zv3 ?_
        refine ⟨(), trivial, ⟨rfl, rfl, rfl, rfl, rfl, rfl, ?_, trivial⟩, rfl⟩
        unfold hexd; first | (rw [if_pos (by omega)]; rfl) | (rw [if_neg (by omega)]; rfl)
       ·(try rw [h8]); (try simp only [decide_eq_true_eq, decide_eq_false_iff_not, Bool.not_eq_true', Bool.not_eq_false', Int.not_lt, Int.not_le, Bool.not_true, Bool.not_false, Int.toNat_natCast, tn1, tn2, tnn, bne_iff_ne, beq_iff_eq, beq_eq_false_iff_ne, ne_eq, Decidable.not_not] at h8)
        refine AWp_skip ?_
        refine ⟨(), trivial, ⟨rfl, rfl, rfl, rfl, rfl, rfl, ?_, trivial⟩, rfl⟩
        unfold hexd; first | (rw [if_pos (by omega)]; rfl) | (rw [if_neg (by omega)]; rfl)
      ·rw [h7]; (try simp only [decide_eq_true_eq, decide_eq_false_iff_not, Bool.not_eq_true', Bool.not_eq_false', Int.not_lt, Int.not_le, Bool.not_true, Bool.not_false, Int.toNat_natCast, tn1, tn2, tnn, bne_iff_ne, beq_iff_eq, beq_eq_false_iff_ne, ne_eq, Decidable.not_not] at h7)
       refine zv3 ?_
       refine AWp_condF rfl ?_
       refine AWp_skip ?_
       refine ⟨(), trivial, ⟨rfl, rfl, rfl, rfl, rfl, rfl, ?_, trivial⟩, rfl⟩
       unfold hexd; first | (rw [if_pos (by omega)]; rfl) | (rw [if_neg (by omega)]; rfl)
     ·skip
      have hdd := hexd_lt (bat s i).toNat
      refine AWp_seq ?_
      refine zw2 ?_
      refine AWp_cond rfl (fun h9 => ?_) (fun h9 => ?_)
      ·(try rw [h9]); (try simp only [decide_eq_true_eq, decide_eq_false_iff_not, Bool.not_eq_true', Bool.not_eq_false', Int.not_lt, Int.not_le, Bool.not_true, Bool.not_false, Int.toNat_natCast, tn1, tn2, tnn, bne_iff_ne, beq_iff_eq, beq_eq_false_iff_ne, ne_eq, Decidable.not_not] at h9)
       refine zw3 ?_
       refine zrt ?_
       first | (have hE : rhex s a = (0, (i : Int)) := by rw [← hq1, hexF.eq_1 s i, if_pos (by omega)]; first | (rw [if_pos (by omega)]; done) | (rw [if_neg (by omega), if_pos (by omega)]; done)); rw [hE]; exact ResQ_20 rfl rfl hcl (by simp [AV.lt, AV.ltL]) (Ret_of rfl) | (have hE : rhex s a = (v, -1) := by rw [← hq1, hexF.eq_1 s i, if_neg (by omega)]); rw [hE]; exact ResQ_20 rfl rfl hcl (by simp [AV.lt, AV.ltL]) (Ret_of rfl)
      ·(try rw [h9]); (try simp only [decide_eq_true_eq, decide_eq_false_iff_not, Bool.not_eq_true', Bool.not_eq_false', Int.not_lt, Int.not_le, Bool.not_true, Bool.not_false, Int.toNat_natCast, tn1, tn2, tnn, bne_iff_ne, beq_iff_eq, beq_eq_false_iff_ne, ne_eq, Decidable.not_not] at h9)
       refine AWp_skip ?_
       refine AWp_regL ?_
       refine zv5 ?_
       refine AWp_regL ?_
       refine zv3 ?_
       refine ⟨(i + 1, 16 * v + hexd (bat s i).toNat), σ.length, ⟨?_, ?_, ?_, ?_⟩, ?_, Nat.le_refl _, ⟨rfl, rfl, rfl, rfl, rfl, trivial⟩, hcl, ?_, List.take_length⟩
       ·rw [← hq1, hexF.eq_1 s i, if_pos (by omega), if_neg (by omega), if_neg (by omega)]
       ·simp only; omega
       ·simp only; omega
       ·simp only; omega
       ·simp only; omega
       ·simp [ltE, AV.lt]
 ·(try rw [h1]); (try simp only [decide_eq_true_eq, decide_eq_false_iff_not, Bool.not_eq_true', Bool.not_eq_false', Int.not_lt, Int.not_le, Bool.not_true, Bool.not_false, Int.toNat_natCast, tn1, tn2, tnn, bne_iff_ne, beq_iff_eq, beq_eq_false_iff_ne, ne_eq, Decidable.not_not] at h1)
  refine AWp_exit ?_
  refine zw3 ?_
  refine zrt ?_
  first | (have hE : rhex s a = (0, (i : Int)) := by rw [← hq1, hexF.eq_1 s i, if_pos (by omega)]; first | (rw [if_pos (by omega)]; done) | (rw [if_neg (by omega), if_pos (by omega)]; done)); rw [hE]; exact ResQ_20 rfl rfl hcl (by simp [AV.lt, AV.ltL]) (Ret_of rfl) | (have hE : rhex s a = (v, -1) := by rw [← hq1, hexF.eq_1 s i, if_neg (by omega)]); rw [hE]; exact ResQ_20 rfl rfl hcl (by simp [AV.lt, AV.ltL]) (Ret_of rfl)

theorem low_c (s : ByteArray) (a : Nat) (σ : List AO) (hs : s.size ≤ 1000000) (ha : a ≤ 2000000) : ACalls Tryd.prog 114 [.str s, .int .i64 (a : Int)] σ (Ret (.int .i64 (rlow s a)) σ) := by
 refine ACalls_body Tryd.func114 rfl Tryd.ntmps114 (res1 Tryd.results114) (Nat.le_of_ble_eq_true rfl) (fun hcl hal => ?_)
 have hh := rhex_ok s (a + 2)
 refine zw1 ?_
 refine AWp_seq ?_
 refine zw5 ?_
 refine AWp_cond rfl (fun h1 => ?_) (fun h1 => ?_)
 ·(try rw [h1]); (try simp only [decide_eq_true_eq, decide_eq_false_iff_not, Bool.not_eq_true', Bool.not_eq_false', Int.not_lt, Int.not_le, Bool.not_true, Bool.not_false, Int.toNat_natCast, tn1, tn2, tnn, bne_iff_ne, beq_iff_eq, beq_eq_false_iff_ne, ne_eq, Decidable.not_not] at h1)
  refine zw1 ?_
  refine zrt ?_
  refine ResQ_10 rfl hcl (by simp [AV.lt, AV.ltL]) (Ret_of ?_)
  congr 1; unfold rlow; first | (rw [if_pos (by omega)]; done) | (rw [if_neg (by omega), if_pos (by omega)]; done) | (rw [if_neg (by omega), if_neg (by omega), if_pos (by omega)]; done) | (rw [if_neg (by omega), if_neg (by omega), if_neg (by omega)]; done)
 ·(try rw [h1]); (try simp only [decide_eq_true_eq, decide_eq_false_iff_not, Bool.not_eq_true', Bool.not_eq_false', Int.not_lt, Int.not_le, Bool.not_true, Bool.not_false, Int.toNat_natCast, tn1, tn2, tnn, bne_iff_ne, beq_iff_eq, beq_eq_false_iff_ne, ne_eq, Decidable.not_not] at h1)
  refine AWp_skip ?_
  refine AWp_seq ?_
  refine zu5 ?_
  refine zsp 16 rfl (fun h2 => ?_) fun h2 => ?_
  ·rw [h2]; (try simp only [decide_eq_true_eq, decide_eq_false_iff_not, Bool.not_eq_true', Bool.not_eq_false', Int.not_lt, Int.not_le, Bool.not_true, Bool.not_false, Int.toNat_natCast, tn1, tn2, tnn, bne_iff_ne, beq_iff_eq, beq_eq_false_iff_ne, ne_eq, Decidable.not_not] at h2)
   refine zv6 ?_
   refine AWp_condT rfl ?_
   refine zw1 ?_
   refine zrt ?_
   refine ResQ_10 rfl hcl (by simp [AV.lt, AV.ltL]) (Ret_of ?_)
   congr 1; unfold rlow; first | (rw [if_pos (by omega)]; done) | (rw [if_neg (by omega), if_pos (by omega)]; done) | (rw [if_neg (by omega), if_neg (by omega), if_pos (by omega)]; done) | (rw [if_neg (by omega), if_neg (by omega), if_neg (by omega)]; done)
  ·rw [h2]; (try simp only [decide_eq_true_eq, decide_eq_false_iff_not, Bool.not_eq_true', Bool.not_eq_false', Int.not_lt, Int.not_le, Bool.not_true, Bool.not_false, Int.toNat_natCast, tn1, tn2, tnn, bne_iff_ne, beq_iff_eq, beq_eq_false_iff_ne, ne_eq, Decidable.not_not] at h2)
   refine zv6 ?_
   refine AWp_cond rfl (fun h3 => ?_) (fun h3 => ?_)
   ·(try rw [h3]); (try simp only [decide_eq_true_eq, decide_eq_false_iff_not, Bool.not_eq_true', Bool.not_eq_false', Int.not_lt, Int.not_le, Bool.not_true, Bool.not_false, Int.toNat_natCast, tn1, tn2, tnn, bne_iff_ne, beq_iff_eq, beq_eq_false_iff_ne, ne_eq, Decidable.not_not] at h3)
    refine zw1 ?_
    refine zrt ?_
    refine ResQ_10 rfl hcl (by simp [AV.lt, AV.ltL]) (Ret_of ?_)
    congr 1; unfold rlow; first | (rw [if_pos (by omega)]; done) | (rw [if_neg (by omega), if_pos (by omega)]; done) | (rw [if_neg (by omega), if_neg (by omega), if_pos (by omega)]; done) | (rw [if_neg (by omega), if_neg (by omega), if_neg (by omega)]; done)
   ·(try rw [h3]); (try simp only [decide_eq_true_eq, decide_eq_false_iff_not, Bool.not_eq_true', Bool.not_eq_false', Int.not_lt, Int.not_le, Bool.not_true, Bool.not_false, Int.toNat_natCast, tn1, tn2, tnn, bne_iff_ne, beq_iff_eq, beq_eq_false_iff_ne, ne_eq, Decidable.not_not] at h3)
    refine AWp_skip ?_
    refine zu3 ?_
    refine zt rfl (zc rfl (hex_c s (a + 2) _ hs (by omega))) ?_
    refine zv5 ?_
    refine AWp_seq ?_
    refine zu3 ?_
    refine zsp 32 rfl (fun h4 => ?_) fun h4 => ?_
    ·rw [h4]; (try simp only [decide_eq_true_eq, decide_eq_false_iff_not, Bool.not_eq_true', Bool.not_eq_false', Int.not_lt, Int.not_le, Bool.not_true, Bool.not_false, Int.toNat_natCast, tn1, tn2, tnn, bne_iff_ne, beq_iff_eq, beq_eq_false_iff_ne, ne_eq, Decidable.not_not] at h4)
     refine zv7 ?_
     refine AWp_condT rfl ?_
     refine zw1 ?_
     refine zrt ?_
     refine ResQ_10 rfl hcl (by simp [AV.lt, AV.ltL]) (Ret_of ?_)
     congr 1; unfold rlow; first | (rw [if_pos (by omega)]; done) | (rw [if_neg (by omega), if_pos (by omega)]; done) | (rw [if_neg (by omega), if_neg (by omega), if_pos (by omega)]; done) | (rw [if_neg (by omega), if_neg (by omega), if_neg (by omega)]; done)
    ·rw [h4]; (try simp only [decide_eq_true_eq, decide_eq_false_iff_not, Bool.not_eq_true', Bool.not_eq_false', Int.not_lt, Int.not_le, Bool.not_true, Bool.not_false, Int.toNat_natCast, tn1, tn2, tnn, bne_iff_ne, beq_iff_eq, beq_eq_false_iff_ne, ne_eq, Decidable.not_not] at h4)
     refine zg4 ?_
     refine zsp 36 rfl (fun h5 => ?_) fun h5 => ?_
     ·rw [h5]; (try simp only [decide_eq_true_eq, decide_eq_false_iff_not, Bool.not_eq_true', Bool.not_eq_false', Int.not_lt, Int.not_le, Bool.not_true, Bool.not_false, Int.toNat_natCast, tn1, tn2, tnn, bne_iff_ne, beq_iff_eq, beq_eq_false_iff_ne, ne_eq, Decidable.not_not] at h5)
      refine zv3 ?_
      refine AWp_condT rfl ?_
      refine zw1 ?_
      refine zrt ?_
      refine ResQ_10 rfl hcl (by simp [AV.lt, AV.ltL]) (Ret_of ?_)
      congr 1; unfold rlow; first | (rw [if_pos (by omega)]; done) | (rw [if_neg (by omega), if_pos (by omega)]; done) | (rw [if_neg (by omega), if_neg (by omega), if_pos (by omega)]; done) | (rw [if_neg (by omega), if_neg (by omega), if_neg (by omega)]; done)
     ·rw [h5]; (try simp only [decide_eq_true_eq, decide_eq_false_iff_not, Bool.not_eq_true', Bool.not_eq_false', Int.not_lt, Int.not_le, Bool.not_true, Bool.not_false, Int.toNat_natCast, tn1, tn2, tnn, bne_iff_ne, beq_iff_eq, beq_eq_false_iff_ne, ne_eq, Decidable.not_not] at h5)
      refine zv3 ?_
      refine AWp_cond rfl (fun h6 => ?_) (fun h6 => ?_)
      ·(try rw [h6]); (try simp only [decide_eq_true_eq, decide_eq_false_iff_not, Bool.not_eq_true', Bool.not_eq_false', Int.not_lt, Int.not_le, Bool.not_true, Bool.not_false, Int.toNat_natCast, tn1, tn2, tnn, bne_iff_ne, beq_iff_eq, beq_eq_false_iff_ne, ne_eq, Decidable.not_not] at h6)
       refine zw1 ?_
       refine zrt ?_
       refine ResQ_10 rfl hcl (by simp [AV.lt, AV.ltL]) (Ret_of ?_)
       congr 1; unfold rlow; first | (rw [if_pos (by omega)]; done) | (rw [if_neg (by omega), if_pos (by omega)]; done) | (rw [if_neg (by omega), if_neg (by omega), if_pos (by omega)]; done) | (rw [if_neg (by omega), if_neg (by omega), if_neg (by omega)]; done)
      ·(try rw [h6]); (try simp only [decide_eq_true_eq, decide_eq_false_iff_not, Bool.not_eq_true', Bool.not_eq_false', Int.not_lt, Int.not_le, Bool.not_true, Bool.not_false, Int.toNat_natCast, tn1, tn2, tnn, bne_iff_ne, beq_iff_eq, beq_eq_false_iff_ne, ne_eq, Decidable.not_not] at h6)
       refine AWp_skip ?_
       refine zw2 ?_
       refine zrt ?_
       refine ResQ_10 rfl hcl (by simp [AV.lt, AV.ltL]) (Ret_of ?_)
       congr 1; unfold rlow; first | (rw [if_pos (by omega)]; done) | (rw [if_neg (by omega), if_pos (by omega)]; done) | (rw [if_neg (by omega), if_neg (by omega), if_pos (by omega)]; done) | (rw [if_neg (by omega), if_neg (by omega), if_neg (by omega)]; done)

theorem char_c (v : Int) (σ : List AO) (h0 : 0 ≤ v) (h1 : v < 1114112) : ACalls Tryd.prog 115 [.int .i64 v] σ (Ret (.str (rchar v)) σ) := by
 refine ACalls_body Tryd.func115 rfl Tryd.ntmps115 (res1 Tryd.results115) (Nat.le_of_ble_eq_true rfl) (fun hcl hal => ?_)
 refine zw1 ?_
 refine AWp_seq ?_
 refine zw2 ?_
 refine AWp_cond rfl (fun h1 => ?_) (fun h1 => ?_)
 ·(try rw [h1]); replace h1 := zcl h1
  refine zu2 ?_
  refine zt rfl (op_buildSlice [[_]] rfl Tryd.underlying114 Tryd.sizeOf5 Tryd.zeroValue5 rfl (by decide) (by decide) rfl rfl rfl rfl rfl) ?_
  refine zt rfl (op_bytesStr (b := _) (m := 1) rfl Tryd.underlying114 Tryd.underlying5 Tryd.underlying9 (bs1 ⟨by omega, by omega⟩) rfl rfl) ?_
  refine zv1 ?_
  refine zrt ?_
  refine ResQ_10 rfl hcl (by simp [AV.lt, AV.ltL]) (Ret_of ?_)
  congr 1; unfold rchar; first | (rw [if_pos (by omega)]; done) | (rw [if_neg (by omega), if_pos (by omega)]; done) | (rw [if_neg (by omega), if_neg (by omega), if_pos (by omega)]; done) | (rw [if_neg (by omega), if_neg (by omega), if_neg (by omega)]; done)
 ·(try rw [h1]); replace h1 := zcl h1
  refine AWp_skip ?_
  refine AWp_seq ?_
  refine zw2 ?_
  refine AWp_cond rfl (fun h2 => ?_) (fun h2 => ?_)
  ·(try rw [h2]); replace h2 := zcl h2
   refine zu1 ?_
   refine zt rfl (op_quo64 rfl rfl rfl (by omega) (by omega) (by omega)) ?_
   refine zg3 ?_
   refine zt rfl (op_rem64 rfl rfl rfl (by omega) (by omega)) ?_
   refine zg2 ?_
   refine zt rfl (op_buildSlice [[_], [_]] rfl Tryd.underlying114 Tryd.sizeOf5 Tryd.zeroValue5 rfl (by decide) (by decide) rfl rfl rfl rfl rfl) ?_
   refine zt rfl (op_bytesStr (b := _) (m := 2) rfl Tryd.underlying114 Tryd.underlying5 Tryd.underlying9 (bs2 ⟨by omega, by omega⟩ ⟨by omega, by omega⟩) rfl rfl) ?_
   refine zv1 ?_
   refine zrt ?_
   refine ResQ_10 rfl hcl (by simp [AV.lt, AV.ltL]) (Ret_of ?_)
   congr 1; unfold rchar; first | (rw [if_pos (by omega)]; done) | (rw [if_neg (by omega), if_pos (by omega)]; done) | (rw [if_neg (by omega), if_neg (by omega), if_pos (by omega)]; done) | (rw [if_neg (by omega), if_neg (by omega), if_neg (by omega)]; done)
  ·(try rw [h2]); replace h2 := zcl h2
   refine AWp_skip ?_
   refine AWp_seq ?_
   refine zw2 ?_
   refine AWp_cond rfl (fun h3 => ?_) (fun h3 => ?_)
   ·(try rw [h3]); replace h3 := zcl h3
    refine zu1 ?_
    refine zt rfl (op_quo64 rfl rfl rfl (by omega) (by omega) (by omega)) ?_
    refine zg3 ?_
    refine zt rfl (op_quo64 rfl rfl rfl (by omega) (by omega) (by omega)) ?_
    refine zt rfl (op_rem64 rfl rfl rfl (by omega) (by omega)) ?_
    refine zg3 ?_
    refine zt rfl (op_rem64 rfl rfl rfl (by omega) (by omega)) ?_
    refine zg2 ?_
    refine zt rfl (op_buildSlice [[_], [_], [_]] rfl Tryd.underlying114 Tryd.sizeOf5 Tryd.zeroValue5 rfl (by decide) (by decide) rfl rfl rfl rfl rfl) ?_
    refine zt rfl (op_bytesStr (b := _) (m := 3) rfl Tryd.underlying114 Tryd.underlying5 Tryd.underlying9 (bs3 ⟨by omega, by omega⟩ ⟨by omega, by omega⟩ ⟨by omega, by omega⟩) rfl rfl) ?_
    refine zv1 ?_
    refine zrt ?_
    refine ResQ_10 rfl hcl (by simp [AV.lt, AV.ltL]) (Ret_of ?_)
    congr 1; unfold rchar; first | (rw [if_pos (by omega)]; done) | (rw [if_neg (by omega), if_pos (by omega)]; done) | (rw [if_neg (by omega), if_neg (by omega), if_pos (by omega)]; done) | (rw [if_neg (by omega), if_neg (by omega), if_neg (by omega)]; done)
   ·(try rw [h3]); replace h3 := zcl h3
    refine AWp_skip ?_
    refine zu1 ?_
    refine zt rfl (op_quo64 rfl rfl rfl (by omega) (by omega) (by omega)) ?_
    refine zg3 ?_
    refine zt rfl (op_quo64 rfl rfl rfl (by omega) (by omega) (by omega)) ?_
    refine zt rfl (op_rem64 rfl rfl rfl (by omega) (by omega)) ?_
    refine zg3 ?_
    refine zt rfl (op_quo64 rfl rfl rfl (by omega) (by omega) (by omega)) ?_
    refine zt rfl (op_rem64 rfl rfl rfl (by omega) (by omega)) ?_
    refine zg3 ?_
    refine zt rfl (op_rem64 rfl rfl rfl (by omega) (by omega)) ?_
    refine zg2 ?_
    refine zt rfl (op_buildSlice [[_], [_], [_], [_]] rfl Tryd.underlying114 Tryd.sizeOf5 Tryd.zeroValue5 rfl (by decide) (by decide) rfl rfl rfl rfl rfl) ?_
    refine zt rfl (op_bytesStr (b := _) (m := 4) rfl Tryd.underlying114 Tryd.underlying5 Tryd.underlying9 (bs4 ⟨by omega, by omega⟩ ⟨by omega, by omega⟩ ⟨by omega, by omega⟩ ⟨by omega, by omega⟩) rfl rfl) ?_
    refine zv1 ?_
    refine zrt ?_
    refine ResQ_10 rfl hcl (by simp [AV.lt, AV.ltL]) (Ret_of ?_)
    congr 1; unfold rchar; first | (rw [if_pos (by omega)]; done) | (rw [if_neg (by omega), if_pos (by omega)]; done) | (rw [if_neg (by omega), if_neg (by omega), if_pos (by omega)]; done) | (rw [if_neg (by omega), if_neg (by omega), if_neg (by omega)]; done)
end Lg
set_option maxRecDepth 20000
set_option maxHeartbeats 4000000
namespace Lg
open Go Go.Proofs Go.RowKit
variable [GLay] 
theorem utf8_c (s : ByteArray) (a : Int) (σ : List AO) (hs : s.size ≤ 140737488355328) (h0 : 0 ≤ a) (ha : a < s.size) : ACalls Tryd.prog 47 [.str s, .int .i64 a] σ (Ret (.int .i64 (u8 s a.toNat : Int)) σ) := by
 refine ACalls_body Tryd.func47 rfl Tryd.ntmps47 (res1 Tryd.results47) (Nat.le_of_ble_eq_true rfl) (fun hcl hal => ?_)
 have c0 := bat_lt s a.toNat
 have c1 := bat_lt s (a.toNat + 1)
 have c2 := bat_lt s (a.toNat + 2)
 have c3 := bat_lt s (a.toNat + 3)
 refine zw1 ?_
 refine zw5 ?_
 refine AWp_seq ?_
 refine zw2 ?_
 refine AWp_cond rfl (fun h1 => ?_) (fun h1 => ?_)
 ·(try rw [h1]); replace h1 := zcl h1
  refine zw1 ?_
  refine zrt ?_
  refine ResQ_10 rfl hcl trivial (Ret_of ?_)
  congr 1
  unfold u8
  first | rw [u8N_1 (by omega)] | rw [u8N_2 (by omega) (by omega)] | rw [u8N_3 (by omega) (by omega) rfl] | rw [u8N_4 (by omega) (by omega) rfl] | rw [u8N_0 (by omega) (by omega)]
  all_goals (try split) <;> omega
 ·(try rw [h1]); replace h1 := zcl h1
  refine AWp_skip ?_
  refine zw1 ?_
  refine zw1 ?_
  refine zw1 ?_
  refine AWp_seq ?_
  refine zu3 ?_
  refine zsp 19 rfl (fun h2 => ?_) fun h2 => ?_
  ·rw [h2]; replace h2 := zcl h2
   refine zv3 ?_
   refine AWp_cond rfl (fun h3 => ?_) (fun h3 => ?_)
   ·(try rw [h3]); replace h3 := zcl h3
    refine zw1 ?_
    refine zw1 ?_
    refine AWp_regL ?_
    refine zv3 ?_
    refine AWp_seq ?_
    refine zw6 ?_
    refine AWp_cond rfl (fun h4 => ?_) (fun h4 => ?_)
    ·(try rw [h4]); replace h4 := zcl h4
     refine zw1 ?_
     refine zrt ?_
     refine ResQ_10 rfl hcl trivial (Ret_of ?_)
     congr 1
     unfold u8
     first | rw [u8N_1 (by omega)] | rw [u8N_2 (by omega) (by omega)] | rw [u8N_3 (by omega) (by omega) rfl] | rw [u8N_4 (by omega) (by omega) rfl] | rw [u8N_0 (by omega) (by omega)]
     all_goals (try split) <;> omega
    ·(try rw [h4]); replace h4 := zcl h4
     refine AWp_skip ?_
     refine AWp_seq ?_
     refine zw1 ?_
     refine AWp_block ?_
     -- loop 0 LIVE 0:param 1:param 4:assign 6:assign 7:assign 8:assign 9:assign
     refine AWp_loop (ι := Nat × Int) (fun p => (p.1 = 1 ∧ p.2 = ((bat s a.toNat).toNat : Int) - 192) ∨ (p.1 = 2 ∧ 128 ≤ ((bat s (a.toNat + 1)).toNat : Int) ∧ ((bat s (a.toNat + 1)).toNat : Int) < 192 ∧ p.2 = (64 * (((bat s a.toNat).toNat : Int) - 192) + (((bat s (a.toNat + 1)).toNat : Int) - 128)))) (fun p => ⟨[], [(0, .str s), (1, .int .i64 a), (6, .int .i64 2), (7, .int .i64 128), (8, .int .i64 p.2), (9, .int .i64 (p.1 : Int))]⟩) (fun p => σ) (fun p => 2 - p.1) ((1, ((bat s a.toNat).toNat : Int) - 192)) (.inl ⟨rfl, rfl⟩) ?_ rfl (fun p hp => ?_)
     ·exact ⟨rfl, rfl, rfl, rfl, rfl, rfl, rfl, trivial⟩
     obtain ⟨i, v⟩ := p
     simp only at hp ⊢
     have ci := bat_lt s (a + (i : Int)).toNat
     have k1 : i = 1 → (bat s (a + (i : Int)).toNat).toNat = (bat s (a.toNat + 1)).toNat := fun h => by rw [h]; congr 2; omega
     have k2 : i = 2 → (bat s (a + (i : Int)).toNat).toNat = (bat s (a.toNat + 2)).toNat := fun h => by rw [h]; congr 2; omega
     have k3 : i = 3 → (bat s (a + (i : Int)).toNat).toNat = (bat s (a.toNat + 3)).toNat := fun h => by rw [h]; congr 2; omega
     refine AWp_seq ?_
     refine zw3 ?_
     refine AWp_cond rfl (fun h5 => ?_) (fun h5 => ?_)
     ·(try rw [h5]); replace h5 := zcl h5
      refine AWp_skip ?_
      refine AWp_seq ?_
      refine AWp_block ?_
      refine zw7 ?_
      refine AWp_seq ?_
      refine zu3 ?_
      refine zsp 60 rfl (fun h6 => ?_) fun h6 => ?_
      ·rw [h6]; replace h6 := zcl h6
       refine zv3 ?_
       refine AWp_condT rfl ?_
       refine zw1 ?_
       refine zrt ?_
       refine ResQ_10 rfl hcl trivial (Ret_of ?_)
       congr 1
       unfold u8
       first | rw [u8N_1 (by omega)] | rw [u8N_2 (by omega) (by omega)] | rw [u8N_3 (by omega) (by omega) rfl] | rw [u8N_4 (by omega) (by omega) rfl] | rw [u8N_0 (by omega) (by omega)]
       all_goals (try split) <;> omega
      ·rw [h6]; replace h6 := zcl h6
       refine zv3 ?_
       refine AWp_cond rfl (fun h7 => ?_) (fun h7 => ?_)
       ·(try rw [h7]); replace h7 := zcl h7
        refine zw1 ?_
        refine zrt ?_
        refine ResQ_10 rfl hcl trivial (Ret_of ?_)
        congr 1
        unfold u8
        first | rw [u8N_1 (by omega)] | rw [u8N_2 (by omega) (by omega)] | rw [u8N_3 (by omega) (by omega) rfl] | rw [u8N_4 (by omega) (by omega) rfl] | rw [u8N_0 (by omega) (by omega)]
        all_goals (try split) <;> omega
       ·(try rw [h7]); replace h7 := zcl h7
        refine AWp_skip ?_
        refine AWp_regL ?_
        refine zv6 ?_
        refine AWp_regL ?_
        refine zv3 ?_
        refine ⟨(i + 1, _), σ.length, ?_, ?_, Nat.le_refl _, ⟨rfl, rfl, rfl, rfl, rfl, rfl, rfl, trivial⟩, hcl, ?_, List.take_length⟩
        ·simp only; omega
        ·simp only; omega
        ·simp [ltE, AV.lt]
     ·(try rw [h5]); replace h5 := zcl h5
      refine AWp_exit ?_
      refine AWp_seq ?_
      refine zu4 ?_
      refine zsp 72 rfl (fun h8 => ?_) fun h8 => ?_
      ·rw [h8]; replace h8 := zcl h8
       refine zg10 ?_
       refine zg1 ?_
       refine zon ?_
       refine AWp_condT rfl ?_
       refine zw1 ?_
       refine zrt ?_
       refine ResQ_10 rfl hcl trivial (Ret_of ?_)
       congr 1
       unfold u8
       first | rw [u8N_1 (by omega)] | rw [u8N_2 (by omega) (by omega)] | rw [u8N_3 (by omega) (by omega) rfl] | rw [u8N_4 (by omega) (by omega) rfl] | rw [u8N_0 (by omega) (by omega)]
       all_goals (try split) <;> omega
      ·rw [h8]; replace h8 := zcl h8
       refine zg4 ?_
       refine zsp 76 rfl (fun h9 => ?_) fun h9 => ?_
       ·rw [h9]; replace h9 := zcl h9
        refine zv7 ?_
        refine AWp_condT rfl ?_
        refine zw1 ?_
        refine zrt ?_
        refine ResQ_10 rfl hcl trivial (Ret_of ?_)
        congr 1
        unfold u8
        first | rw [u8N_1 (by omega)] | rw [u8N_2 (by omega) (by omega)] | rw [u8N_3 (by omega) (by omega) rfl] | rw [u8N_4 (by omega) (by omega) rfl] | rw [u8N_0 (by omega) (by omega)]
        all_goals (try split) <;> omega
       ·rw [h9]; replace h9 := zcl h9
        refine zg3 ?_
        refine zsp 79 rfl (fun h10 => ?_) fun h10 => ?_
        ·rw [h10]; replace h10 := zcl h10
         refine zv4 ?_
         refine AWp_cond rfl (fun h11 => ?_) (fun h11 => ?_)
         ·(try rw [h11]); replace h11 := zcl h11
          refine zw1 ?_
          refine zrt ?_
          refine ResQ_10 rfl hcl trivial (Ret_of ?_)
          congr 1
          unfold u8
          first | rw [u8N_1 (by omega)] | rw [u8N_2 (by omega) (by omega)] | rw [u8N_3 (by omega) (by omega) rfl] | rw [u8N_4 (by omega) (by omega) rfl] | rw [u8N_0 (by omega) (by omega)]
          all_goals (try split) <;> omega
         ·(try rw [h11]); replace h11 := zcl h11
          refine AWp_skip ?_
          refine zw2 ?_
          refine zrt ?_
          refine ResQ_10 rfl hcl trivial (Ret_of ?_)
          congr 1
          unfold u8
          first | rw [u8N_1 (by omega)] | rw [u8N_2 (by omega) (by omega)] | rw [u8N_3 (by omega) (by omega) rfl] | rw [u8N_4 (by omega) (by omega) rfl] | rw [u8N_0 (by omega) (by omega)]
          all_goals (try split) <;> omega
        ·rw [h10]; replace h10 := zcl h10
         refine zv4 ?_
         refine AWp_condF rfl ?_
         refine AWp_skip ?_
         refine zw2 ?_
         refine zrt ?_
         refine ResQ_10 rfl hcl trivial (Ret_of ?_)
         congr 1
         unfold u8
         first | rw [u8N_1 (by omega)] | rw [u8N_2 (by omega) (by omega)] | rw [u8N_3 (by omega) (by omega) rfl] | rw [u8N_4 (by omega) (by omega) rfl] | rw [u8N_0 (by omega) (by omega)]
         all_goals (try split) <;> omega
   ·(try rw [h3]); replace h3 := zcl h3
    refine zu3 ?_
    refine zsp 27 rfl (fun h12 => ?_) fun h12 => ?_
    ·rw [h12]; replace h12 := zcl h12
     refine zv3 ?_
     refine AWp_cond rfl (fun h13 => ?_) (fun h13 => ?_)
     ·(try rw [h13]); replace h13 := zcl h13
      refine zw1 ?_
      refine zw1 ?_
      refine AWp_regL ?_
      refine zv3 ?_
      refine AWp_seq ?_
      refine zw6 ?_
      refine AWp_cond rfl (fun h14 => ?_) (fun h14 => ?_)
      ·(try rw [h14]); replace h14 := zcl h14
       refine zw1 ?_
       refine zrt ?_
       refine ResQ_10 rfl hcl trivial (Ret_of ?_)
       congr 1
       unfold u8
       first | rw [u8N_1 (by omega)] | rw [u8N_2 (by omega) (by omega)] | rw [u8N_3 (by omega) (by omega) rfl] | rw [u8N_4 (by omega) (by omega) rfl] | rw [u8N_0 (by omega) (by omega)]
       all_goals (try split) <;> omega
      ·(try rw [h14]); replace h14 := zcl h14
       refine AWp_skip ?_
       refine AWp_seq ?_
       refine zw1 ?_
       refine AWp_block ?_
       -- loop 1 LIVE 0:param 1:param 4:assign 6:assign 7:assign 8:assign 9:assign
       refine AWp_loop (ι := Nat × Int) (fun p => (p.1 = 1 ∧ p.2 = ((bat s a.toNat).toNat : Int) - 224) ∨ (p.1 = 2 ∧ 128 ≤ ((bat s (a.toNat + 1)).toNat : Int) ∧ ((bat s (a.toNat + 1)).toNat : Int) < 192 ∧ p.2 = (64 * (((bat s a.toNat).toNat : Int) - 224) + (((bat s (a.toNat + 1)).toNat : Int) - 128))) ∨ (p.1 = 3 ∧ 128 ≤ ((bat s (a.toNat + 1)).toNat : Int) ∧ ((bat s (a.toNat + 1)).toNat : Int) < 192 ∧ 128 ≤ ((bat s (a.toNat + 2)).toNat : Int) ∧ ((bat s (a.toNat + 2)).toNat : Int) < 192 ∧ p.2 = (64 * (64 * (((bat s a.toNat).toNat : Int) - 224) + (((bat s (a.toNat + 1)).toNat : Int) - 128)) + (((bat s (a.toNat + 2)).toNat : Int) - 128)))) (fun p => ⟨[], [(0, .str s), (1, .int .i64 a), (6, .int .i64 3), (7, .int .i64 2048), (8, .int .i64 p.2), (9, .int .i64 (p.1 : Int))]⟩) (fun p => σ) (fun p => 3 - p.1) ((1, ((bat s a.toNat).toNat : Int) - 224)) (.inl ⟨rfl, rfl⟩) ?_ rfl (fun p hp => ?_)
       ·exact ⟨rfl, rfl, rfl, rfl, rfl, rfl, rfl, trivial⟩
       obtain ⟨i, v⟩ := p
       simp only at hp ⊢
       have ci := bat_lt s (a + (i : Int)).toNat
       have k1 : i = 1 → (bat s (a + (i : Int)).toNat).toNat = (bat s (a.toNat + 1)).toNat := fun h => by rw [h]; congr 2; omega
       have k2 : i = 2 → (bat s (a + (i : Int)).toNat).toNat = (bat s (a.toNat + 2)).toNat := fun h => by rw [h]; congr 2; omega
       have k3 : i = 3 → (bat s (a + (i : Int)).toNat).toNat = (bat s (a.toNat + 3)).toNat := fun h => by rw [h]; congr 2; omega
       refine AWp_seq ?_
       refine zw3 ?_
       refine AWp_cond rfl (fun h15 => ?_) (fun h15 => ?_)
       ·(try rw [h15]); replace h15 := zcl h15
        refine AWp_skip ?_
        refine AWp_seq ?_
        refine AWp_block ?_
        refine zw7 ?_
        refine AWp_seq ?_
        refine zu3 ?_
        refine zsp 60 rfl (fun h16 => ?_) fun h16 => ?_
        ·rw [h16]; replace h16 := zcl h16
         refine zv3 ?_
         refine AWp_condT rfl ?_
         refine zw1 ?_
         refine zrt ?_
         refine ResQ_10 rfl hcl trivial (Ret_of ?_)
         congr 1
         unfold u8
         first | rw [u8N_1 (by omega)] | rw [u8N_2 (by omega) (by omega)] | rw [u8N_3 (by omega) (by omega) rfl] | rw [u8N_4 (by omega) (by omega) rfl] | rw [u8N_0 (by omega) (by omega)]
         all_goals (try split) <;> omega
        ·rw [h16]; replace h16 := zcl h16
         refine zv3 ?_
         refine AWp_cond rfl (fun h17 => ?_) (fun h17 => ?_)
         ·(try rw [h17]); replace h17 := zcl h17
          refine zw1 ?_
          refine zrt ?_
          refine ResQ_10 rfl hcl trivial (Ret_of ?_)
          congr 1
          unfold u8
          first | rw [u8N_1 (by omega)] | rw [u8N_2 (by omega) (by omega)] | rw [u8N_3 (by omega) (by omega) rfl] | rw [u8N_4 (by omega) (by omega) rfl] | rw [u8N_0 (by omega) (by omega)]
          all_goals (try split) <;> omega
         ·(try rw [h17]); replace h17 := zcl h17
          refine AWp_skip ?_
          refine AWp_regL ?_
          refine zv6 ?_
          refine AWp_regL ?_
          refine zv3 ?_
          refine ⟨(i + 1, _), σ.length, ?_, ?_, Nat.le_refl _, ⟨rfl, rfl, rfl, rfl, rfl, rfl, rfl, trivial⟩, hcl, ?_, List.take_length⟩
          ·simp only; omega
          ·simp only; omega
          ·simp [ltE, AV.lt]
       ·(try rw [h15]); replace h15 := zcl h15
        refine AWp_exit ?_
        refine AWp_seq ?_
        refine zu4 ?_
        refine zsp 72 rfl (fun h18 => ?_) fun h18 => ?_
        ·rw [h18]; replace h18 := zcl h18
         refine zg10 ?_
         refine zg1 ?_
         refine zon ?_
         refine AWp_condT rfl ?_
         refine zw1 ?_
         refine zrt ?_
         refine ResQ_10 rfl hcl trivial (Ret_of ?_)
         congr 1
         unfold u8
         first | rw [u8N_1 (by omega)] | rw [u8N_2 (by omega) (by omega)] | rw [u8N_3 (by omega) (by omega) rfl] | rw [u8N_4 (by omega) (by omega) rfl] | rw [u8N_0 (by omega) (by omega)]
         all_goals (try split) <;> omega
        ·rw [h18]; replace h18 := zcl h18
         refine zg4 ?_
         refine zsp 76 rfl (fun h19 => ?_) fun h19 => ?_
         ·rw [h19]; replace h19 := zcl h19
          refine zv7 ?_
          refine AWp_condT rfl ?_
          refine zw1 ?_
          refine zrt ?_
          refine ResQ_10 rfl hcl trivial (Ret_of ?_)
          congr 1
          unfold u8
          first | rw [u8N_1 (by omega)] | rw [u8N_2 (by omega) (by omega)] | rw [u8N_3 (by omega) (by omega) rfl] | rw [u8N_4 (by omega) (by omega) rfl] | rw [u8N_0 (by omega) (by omega)]
          all_goals (try split) <;> omega
         ·rw [h19]; replace h19 := zcl h19
          refine zg3 ?_
          refine zsp 79 rfl (fun h20 => ?_) fun h20 => ?_
          ·rw [h20]; replace h20 := zcl h20
           refine zv4 ?_
           refine AWp_cond rfl (fun h21 => ?_) (fun h21 => ?_)
           ·(try rw [h21]); replace h21 := zcl h21
            refine zw1 ?_
            refine zrt ?_
            refine ResQ_10 rfl hcl trivial (Ret_of ?_)
            congr 1
            unfold u8
            first | rw [u8N_1 (by omega)] | rw [u8N_2 (by omega) (by omega)] | rw [u8N_3 (by omega) (by omega) rfl] | rw [u8N_4 (by omega) (by omega) rfl] | rw [u8N_0 (by omega) (by omega)]
            all_goals (try split) <;> omega
           ·(try rw [h21]); replace h21 := zcl h21
            refine AWp_skip ?_
            refine zw2 ?_
            refine zrt ?_
            refine ResQ_10 rfl hcl trivial (Ret_of ?_)
            congr 1
            unfold u8
            first | rw [u8N_1 (by omega)] | rw [u8N_2 (by omega) (by omega)] | rw [u8N_3 (by omega) (by omega) rfl] | rw [u8N_4 (by omega) (by omega) rfl] | rw [u8N_0 (by omega) (by omega)]
            all_goals (try split) <;> omega
          ·rw [h20]; replace h20 := zcl h20
           refine zv4 ?_
           refine AWp_condF rfl ?_
           refine AWp_skip ?_
           refine zw2 ?_
           refine zrt ?_
           refine ResQ_10 rfl hcl trivial (Ret_of ?_)
           congr 1
           unfold u8
           first | rw [u8N_1 (by omega)] | rw [u8N_2 (by omega) (by omega)] | rw [u8N_3 (by omega) (by omega) rfl] | rw [u8N_4 (by omega) (by omega) rfl] | rw [u8N_0 (by omega) (by omega)]
           all_goals (try split) <;> omega
     ·(try rw [h13]); replace h13 := zcl h13
      refine zu3 ?_
      refine zsp 35 rfl (fun h22 => ?_) fun h22 => ?_
      ·rw [h22]; replace h22 := zcl h22
       refine zv3 ?_
       refine AWp_cond rfl (fun h23 => ?_) (fun h23 => ?_)
       ·(try rw [h23]); replace h23 := zcl h23
        refine zw1 ?_
        refine zw1 ?_
        refine AWp_regL ?_
        refine zv3 ?_
        refine AWp_seq ?_
        refine zw6 ?_
        refine AWp_cond rfl (fun h24 => ?_) (fun h24 => ?_)
        ·(try rw [h24]); replace h24 := zcl h24
         refine zw1 ?_
         refine zrt ?_
         refine ResQ_10 rfl hcl trivial (Ret_of ?_)
         congr 1
         unfold u8
         first | rw [u8N_1 (by omega)] | rw [u8N_2 (by omega) (by omega)] | rw [u8N_3 (by omega) (by omega) rfl] | rw [u8N_4 (by omega) (by omega) rfl] | rw [u8N_0 (by omega) (by omega)]
         all_goals (try split) <;> omega
        ·(try rw [h24]); replace h24 := zcl h24
         refine AWp_skip ?_
         refine AWp_seq ?_
         refine zw1 ?_
         refine AWp_block ?_
         -- loop 2 LIVE 0:param 1:param 4:assign 6:assign 7:assign 8:assign 9:assign
         refine AWp_loop (ι := Nat × Int) (fun p => (p.1 = 1 ∧ p.2 = ((bat s a.toNat).toNat : Int) - 240) ∨ (p.1 = 2 ∧ 128 ≤ ((bat s (a.toNat + 1)).toNat : Int) ∧ ((bat s (a.toNat + 1)).toNat : Int) < 192 ∧ p.2 = (64 * (((bat s a.toNat).toNat : Int) - 240) + (((bat s (a.toNat + 1)).toNat : Int) - 128))) ∨ (p.1 = 3 ∧ 128 ≤ ((bat s (a.toNat + 1)).toNat : Int) ∧ ((bat s (a.toNat + 1)).toNat : Int) < 192 ∧ 128 ≤ ((bat s (a.toNat + 2)).toNat : Int) ∧ ((bat s (a.toNat + 2)).toNat : Int) < 192 ∧ p.2 = (64 * (64 * (((bat s a.toNat).toNat : Int) - 240) + (((bat s (a.toNat + 1)).toNat : Int) - 128)) + (((bat s (a.toNat + 2)).toNat : Int) - 128))) ∨ (p.1 = 4 ∧ 128 ≤ ((bat s (a.toNat + 1)).toNat : Int) ∧ ((bat s (a.toNat + 1)).toNat : Int) < 192 ∧ 128 ≤ ((bat s (a.toNat + 2)).toNat : Int) ∧ ((bat s (a.toNat + 2)).toNat : Int) < 192 ∧ 128 ≤ ((bat s (a.toNat + 3)).toNat : Int) ∧ ((bat s (a.toNat + 3)).toNat : Int) < 192 ∧ p.2 = (64 * (64 * (64 * (((bat s a.toNat).toNat : Int) - 240) + (((bat s (a.toNat + 1)).toNat : Int) - 128)) + (((bat s (a.toNat + 2)).toNat : Int) - 128)) + (((bat s (a.toNat + 3)).toNat : Int) - 128)))) (fun p => ⟨[], [(0, .str s), (1, .int .i64 a), (6, .int .i64 4), (7, .int .i64 65536), (8, .int .i64 p.2), (9, .int .i64 (p.1 : Int))]⟩) (fun p => σ) (fun p => 4 - p.1) ((1, ((bat s a.toNat).toNat : Int) - 240)) (.inl ⟨rfl, rfl⟩) ?_ rfl (fun p hp => ?_)
         ·exact ⟨rfl, rfl, rfl, rfl, rfl, rfl, rfl, trivial⟩
         obtain ⟨i, v⟩ := p
         simp only at hp ⊢
         have ci := bat_lt s (a + (i : Int)).toNat
         have k1 : i = 1 → (bat s (a + (i : Int)).toNat).toNat = (bat s (a.toNat + 1)).toNat := fun h => by rw [h]; congr 2; omega
         have k2 : i = 2 → (bat s (a + (i : Int)).toNat).toNat = (bat s (a.toNat + 2)).toNat := fun h => by rw [h]; congr 2; omega
         have k3 : i = 3 → (bat s (a + (i : Int)).toNat).toNat = (bat s (a.toNat + 3)).toNat := fun h => by rw [h]; congr 2; omega
         refine AWp_seq ?_
         refine zw3 ?_
         refine AWp_cond rfl (fun h25 => ?_) (fun h25 => ?_)
         ·(try rw [h25]); replace h25 := zcl h25
          refine AWp_skip ?_
          refine AWp_seq ?_
          refine AWp_block ?_
          refine zw7 ?_
          refine AWp_seq ?_
          refine zu3 ?_
          refine zsp 60 rfl (fun h26 => ?_) fun h26 => ?_
          ·rw [h26]; replace h26 := zcl h26
           refine zv3 ?_
           refine AWp_condT rfl ?_
           refine zw1 ?_
           refine zrt ?_
           refine ResQ_10 rfl hcl trivial (Ret_of ?_)
           congr 1
           unfold u8
           first | rw [u8N_1 (by omega)] | rw [u8N_2 (by omega) (by omega)] | rw [u8N_3 (by omega) (by omega) rfl] | rw [u8N_4 (by omega) (by omega) rfl] | rw [u8N_0 (by omega) (by omega)]
           all_goals (try split) <;> omega
          ·rw [h26]; replace h26 := zcl h26
           refine zv3 ?_
           refine AWp_cond rfl (fun h27 => ?_) (fun h27 => ?_)
           ·(try rw [h27]); replace h27 := zcl h27
            refine zw1 ?_
            refine zrt ?_
            refine ResQ_10 rfl hcl trivial (Ret_of ?_)
            congr 1
            unfold u8
            first | rw [u8N_1 (by omega)] | rw [u8N_2 (by omega) (by omega)] | rw [u8N_3 (by omega) (by omega) rfl] | rw [u8N_4 (by omega) (by omega) rfl] | rw [u8N_0 (by omega) (by omega)]
            all_goals (try split) <;> omega
           ·(try rw [h27]); replace h27 := zcl h27
            refine AWp_skip ?_
            refine AWp_regL ?_
            refine zv6 ?_
            refine AWp_regL ?_
            refine zv3 ?_
            refine ⟨(i + 1, _), σ.length, ?_, ?_, Nat.le_refl _, ⟨rfl, rfl, rfl, rfl, rfl, rfl, rfl, trivial⟩, hcl, ?_, List.take_length⟩
            ·simp only; omega
            ·simp only; omega
            ·simp [ltE, AV.lt]
         ·(try rw [h25]); replace h25 := zcl h25
          refine AWp_exit ?_
          refine AWp_seq ?_
          refine zu4 ?_
          refine zsp 72 rfl (fun h28 => ?_) fun h28 => ?_
          ·rw [h28]; replace h28 := zcl h28
           refine zg10 ?_
           refine zg1 ?_
           refine zon ?_
           refine AWp_condT rfl ?_
           refine zw1 ?_
           refine zrt ?_
           refine ResQ_10 rfl hcl trivial (Ret_of ?_)
           congr 1
           unfold u8
           first | rw [u8N_1 (by omega)] | rw [u8N_2 (by omega) (by omega)] | rw [u8N_3 (by omega) (by omega) rfl] | rw [u8N_4 (by omega) (by omega) rfl] | rw [u8N_0 (by omega) (by omega)]
           all_goals (try split) <;> omega
          ·rw [h28]; replace h28 := zcl h28
           refine zg4 ?_
           refine zsp 76 rfl (fun h29 => ?_) fun h29 => ?_
           ·rw [h29]; replace h29 := zcl h29
            refine zv7 ?_
            refine AWp_condT rfl ?_
            refine zw1 ?_
            refine zrt ?_
            refine ResQ_10 rfl hcl trivial (Ret_of ?_)
            congr 1
            unfold u8
            first | rw [u8N_1 (by omega)] | rw [u8N_2 (by omega) (by omega)] | rw [u8N_3 (by omega) (by omega) rfl] | rw [u8N_4 (by omega) (by omega) rfl] | rw [u8N_0 (by omega) (by omega)]
            all_goals (try split) <;> omega
           ·rw [h29]; replace h29 := zcl h29
            refine zg3 ?_
            refine zsp 79 rfl (fun h30 => ?_) fun h30 => ?_
            ·rw [h30]; replace h30 := zcl h30
             refine zv4 ?_
             refine AWp_cond rfl (fun h31 => ?_) (fun h31 => ?_)
             ·(try rw [h31]); replace h31 := zcl h31
              refine zw1 ?_
              refine zrt ?_
              refine ResQ_10 rfl hcl trivial (Ret_of ?_)
              congr 1
              unfold u8
              first | rw [u8N_1 (by omega)] | rw [u8N_2 (by omega) (by omega)] | rw [u8N_3 (by omega) (by omega) rfl] | rw [u8N_4 (by omega) (by omega) rfl] | rw [u8N_0 (by omega) (by omega)]
              all_goals (try split) <;> omega
             ·(try rw [h31]); replace h31 := zcl h31
              refine AWp_skip ?_
              refine zw2 ?_
              refine zrt ?_
              refine ResQ_10 rfl hcl trivial (Ret_of ?_)
              congr 1
              unfold u8
              first | rw [u8N_1 (by omega)] | rw [u8N_2 (by omega) (by omega)] | rw [u8N_3 (by omega) (by omega) rfl] | rw [u8N_4 (by omega) (by omega) rfl] | rw [u8N_0 (by omega) (by omega)]
              all_goals (try split) <;> omega
            ·rw [h30]; replace h30 := zcl h30
             refine zv4 ?_
             refine AWp_condF rfl ?_
             refine AWp_skip ?_
             refine zw2 ?_
             refine zrt ?_
             refine ResQ_10 rfl hcl trivial (Ret_of ?_)
             congr 1
             unfold u8
             first | rw [u8N_1 (by omega)] | rw [u8N_2 (by omega) (by omega)] | rw [u8N_3 (by omega) (by omega) rfl] | rw [u8N_4 (by omega) (by omega) rfl] | rw [u8N_0 (by omega) (by omega)]
             all_goals (try split) <;> omega
       ·(try rw [h23]); replace h23 := zcl h23
        refine zw1 ?_
        refine zrt ?_
        refine ResQ_10 rfl hcl trivial (Ret_of ?_)
        congr 1
        unfold u8
        first | rw [u8N_1 (by omega)] | rw [u8N_2 (by omega) (by omega)] | rw [u8N_3 (by omega) (by omega) rfl] | rw [u8N_4 (by omega) (by omega) rfl] | rw [u8N_0 (by omega) (by omega)]
        all_goals (try split) <;> omega
      ·rw [h22]; replace h22 := zcl h22
       exfalso; omega
    ·rw [h12]; replace h12 := zcl h12
     exfalso; omega
  ·rw [h2]; replace h2 := zcl h2
   refine zv3 ?_
   refine AWp_condF rfl ?_
   refine zu3 ?_
   refine zsp 27 rfl (fun h32 => ?_) fun h32 => ?_
   ·rw [h32]; replace h32 := zcl h32
    exfalso; omega
   ·rw [h32]; replace h32 := zcl h32
    refine zv3 ?_
    refine AWp_condF rfl ?_
    refine zu3 ?_
    refine zsp 35 rfl (fun h33 => ?_) fun h33 => ?_
    ·rw [h33]; replace h33 := zcl h33
     exfalso; omega
    ·rw [h33]; replace h33 := zcl h33
     refine zv3 ?_
     refine AWp_condF rfl ?_
     refine zw1 ?_
     refine zrt ?_
     refine ResQ_10 rfl hcl trivial (Ret_of ?_)
     congr 1
     unfold u8
     first | rw [u8N_1 (by omega)] | rw [u8N_2 (by omega) (by omega)] | rw [u8N_3 (by omega) (by omega) rfl] | rw [u8N_4 (by omega) (by omega) rfl] | rw [u8N_0 (by omega) (by omega)]
     all_goals (try split) <;> omega

theorem text_c (s : ByteArray) (σ : List AO) (hs : s.size ≤ 140737488355328) : ACalls Tryd.prog 23 [.str s] σ (Ret (.bool (pb (Utf s))) σ) := by
 refine ACalls_body Tryd.func23 rfl Tryd.ntmps23 (res1 Tryd.results23) (Nat.le_of_ble_eq_true rfl) (fun hcl hal => ?_)
 have hU : utfFrom s 0 = Go.Lib.validD s.data.toList := rfl
 refine zw1 ?_
 refine AWp_seq ?_
 refine zw1 ?_
 refine AWp_block ?_
 -- loop 0 LIVE 0:param 2:assign 3:assign
 refine AWp_loop (ι := Nat) (fun i => i ≤ s.size ∧ utfFrom s i = utfFrom s 0) (fun i => ⟨[], [(0, .str s), (3, .int .i64 (i : Int))]⟩) (fun i => σ) (fun i => s.size - i) (0) (⟨Nat.zero_le _, rfl⟩) ?_ rfl (fun i hi => ?_)
 ·exact ⟨rfl, rfl, rfl, trivial⟩
 obtain ⟨hi1, hi2⟩ := hi
 refine AWp_seq ?_
 refine zw4 ?_
 refine AWp_cond rfl (fun h1 => ?_) (fun h1 => ?_)
 ·(try rw [h1]); replace h1 := zcl h1
  have hst := utfFrom_step (s := s) (a := i) (by omega)
  have hle := u8_le (s := s) (a := i) (by omega)
  refine AWp_skip ?_
  refine AWp_block ?_
  refine zu2 ?_
  refine zt rfl (zc rfl (utf8_c s _ _ (by omega) (by omega) (by omega))) ?_
  simp only [Int.toNat_natCast]
  refine zv1 ?_
  refine AWp_seq ?_
  refine zw2 ?_
  refine AWp_cond rfl (fun h2 => ?_) (fun h2 => ?_)
  ·(try rw [h2]); replace h2 := zcl h2
   refine zw1 ?_
   refine zrt ?_
   refine ResQ_10 rfl hcl trivial (Ret_of (bool_f ?_))
   rw [if_pos (by omega)] at hst
   unfold Utf; rw [← hU, ← hi2, hst]; decide
  ·(try rw [h2]); replace h2 := zcl h2
   refine AWp_skip ?_
   refine AWp_regL ?_
   refine zv4 ?_
   have hn : u8 s i ≠ 0 := by omega
   rw [if_neg hn] at hst
   refine ⟨i + u8 s i, σ.length, ⟨u8_le (by omega), by rw [← hi2, hst]⟩, by omega, Nat.le_refl _, ⟨rfl, rfl, ?_, trivial⟩, hcl, ?_, List.take_length⟩
   ·rw [Int.natCast_add]; rfl
   ·simp [ltE, AV.lt]
 ·(try rw [h1]); replace h1 := zcl h1
  have hend := utfFrom_end (s := s) (a := i) (by omega)
  refine AWp_exit ?_
  refine zw1 ?_
  refine zrt ?_
  exact ResQ_10 rfl hcl trivial (Ret_of (bool_t (by unfold Utf; rw [← hU, ← hi2, hend])))
end Lg
