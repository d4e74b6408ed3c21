/- A part of the proof of For every input the law doubletlaw09.ApplyTells returns true: what comes of any value by any patch, or what is amiss, at which operation, is what the document's answer says; the input reads as it did.: W22 X5 Y14 Lt4 Lt5 Y15 Y16 Lg50 Lg51 Lg52 Lg56 J2 S1 B1 B2 B3 Lq2 B4 Sq S4 Y17 J3 As9 As10 Lj3 Lg57 J4 W7 J5 Q2 Q4. -/
import Derived.Test.YtdacoelmmaiffaaGreatDoorR9
import Derived.Test.YtdacoelmmaiffaaGreatDoorR4
import Derived.Test.YtdacoelmmaiffaaGreatDoorR8
import Derived.Test.YtdacoelmmaiffaaGreatDoorR5
import Derived.Test.YtdacoelmmaiffaaGreatDoorR6
import Derived.Test.YtdacoelmmaiffaaGreatDoorR7
import Derived.Test.YtdacoelmmaiffaaGreatDoorR3
import Derived.Test.YtdacoelmmaiffaaGreatDoorR2
import Derived.Test.YtdacoelmmaiffaaGreatDoorProg
import Derived.WalkKit
import Derived.LaidEql
import Derived.Stop.Asserts
import Derived.RowKitTokens
set_option linter.unusedVariables false
set_option linter.unusedSimpArgs false
set_option linter.unusedSectionVars false
set_option maxRecDepth 20000
set_option maxHeartbeats 4000000
namespace Lg
open Go Go.Proofs Go.RowKit
variable [GLay] 
theorem rpar_c (s : ByteArray) (hs : s.size ≤ 100000) (p : Nat) (σ : List AO) (hσ : σ[p]? = some (rbox s ⟨0, 0, 0, 0⟩)) : ACalls Tryz.prog 61 [.ptr p 0] σ (Ret (.agg (vcells (rpar s).1)) (σ.set p (rbox s (rpar s).2))) := value_r s hs (s.size + 2) ⟨0, 0, 0, 0⟩ p σ hσ ⟨Nat.zero_le _, fun _ => Nat.zero_le _, Int.le_refl _, Int.le_refl _⟩ (by dsimp only; omega)
theorem parse_c (s : ByteArray) (σ : List AO) (hs : s.size ≤ 100000) : ACalls Tryz.prog 30 [.str s] σ (Ret (.tup [.agg (vcells (rParse s).1), .int .i64 (rParse s).2.1, .int .i64 (rParse s).2.2]) σ) := by
 refine ACalls_bodyC Tryz.func30 rfl Tryz.ntmps30 (by rw [Tryz.results30]; exact (.ck Tryz.isAgg28 Tryz.sizeOf28 (.t (.t .nil)))) (Nat.le_of_ble_eq_true rfl) (fun hcl hal => ?_)
 refine zw3 ?_
 refine AWp_seq ?_
 refine zw3 ?_
 refine AWp_cond rfl (fun h1 => ?_) (fun h1 => ?_)
 ·(try rw [h1]); replace h1 := zcl h1
  refine zw4 ?_
  refine AWp_boxLeO 0 (bs' := [.int .i64 vz.kind, .bool vz.b, .bool vz.n.neg, .str vz.n.digits, .int .i64 vz.n.exp, .str vz.s, .sl false 8 (lcells vz.l), .sl false 9 (mcells vz.m)]) rfl ⟨AVle.refl _, AVle.refl _, AVle.refl _, AVle.refl _, AVle.refl _, AVle.refl _, nilL, nilM, trivial⟩ ?_
  refine zrt ?_
  have hE : rParse s = (vz, 5, 20000) := by unfold rParse; rw [if_pos (by omega)]
  rw [hE, vcells_eq]; exact RQ_ret (rkvs_cons (rkv_ck rfl rfl rfl) (rkvs_cons (rkv_t rfl) (rkvs_cons (rkv_t rfl) rfl))) hcl (by simp [rks, AV.lt, AV.ltL, ofConst1, ncells]) ⟨rfl, rfl⟩
 ·(try rw [h1]); replace h1 := zcl h1
  refine AWp_skip ?_
  refine zw4 ?_
  refine zu1 ?_
  refine zt rfl (zc rfl (callO 1 (rpar_c s hs (σ.length + 1) _ (by rw [get_ownT rfl]; rfl)))) ?_
  rw [vcells_eq (rpar s).1]
  refine zv2 ?_
  refine AWp_join (ι := Unit) (fun b => True) (fun b => ⟨[], [(0, .str s), (2, .ptr (σ.length + 0) 0), (5, .ptr (σ.length + 1) 0), (6, .ptr (σ.length + 2) 0)]⟩) (fun b => σ ++ [.box [.int .i64 0, .bool false, .bool false, .str e0, .int .i64 0, .str e0, .nils, .nils], rbox s (rparE s), .box [.int .i64 (rpar s).1.kind, .bool (rpar s).1.b, .bool (rpar s).1.n.neg, .str (rpar s).1.n.digits, .int .i64 (rpar s).1.n.exp, .str (rpar s).1.s, .sl false 8 (lcells (rpar s).1.l), .sl false 9 (mcells (rpar s).1.m)]]) ?_ (fun b hj => ?_)
  ·skip
   refine zu6 ?_
   refine zsp 21 rfl (fun h2 => ?_) fun h2 => ?_
   ·rw [h2]; replace h2 := zcl h2
    refine zv8 ?_
    refine AWp_cond rfl (fun h3 => ?_) (fun h3 => ?_)
    ·(try rw [h3]); replace h3 := zcl h3
     refine AWp_regL ?_
     refine zg5 ?_
     refine zt rfl (zc rfl (callO 1 (fail_r s (rpar s).2 (σ.length + 1) _ (by rw [get_ownT rfl]; rfl) ((rpar s).2.a : Int) 1))) ?_
     refine zon ?_
     refine ⟨(), trivial, ⟨rfl, rfl, rfl, rfl, rfl, trivial⟩, ?_⟩
     unfold rparE; first | (rw [if_pos ⟨by omega, by omega⟩]; rfl) | (rw [if_neg (by omega)]; rfl)
    ·(try rw [h3]); replace h3 := zcl h3
     refine AWp_skip ?_
     refine ⟨(), trivial, ⟨rfl, rfl, rfl, rfl, rfl, trivial⟩, ?_⟩
     unfold rparE; first | (rw [if_pos ⟨by omega, by omega⟩]; rfl) | (rw [if_neg (by omega)]; rfl)
   ·rw [h2]; replace h2 := zcl h2
    refine zv8 ?_
    refine AWp_condF rfl ?_
    refine AWp_skip ?_
    refine ⟨(), trivial, ⟨rfl, rfl, rfl, rfl, rfl, trivial⟩, ?_⟩
    unfold rparE; first | (rw [if_pos ⟨by omega, by omega⟩]; rfl) | (rw [if_neg (by omega)]; rfl)
  ·skip
   refine AWp_seq ?_
   refine zw5 ?_
   refine AWp_cond rfl (fun h4 => ?_) (fun h4 => ?_)
   ·(try rw [h4]); replace h4 := zcl h4
    refine AWp_seq ?_
    refine AWp_drawL #[0, 0, 2, 6, 14, 0, 32, 96, 224, 1, 543, 2047] Tryz.mixed (by decide +kernel) (by decide +kernel) ?_
    refine zd4 ?_
    refine zp1 ?_
    refine zd3 ?_
    refine zp1 ?_
    refine yEN rfl rfl rfl (zoa) (⟨.inr (op_load1 rfl Tryz.isAgg3 (ldv_own rfl rfl)), ⟨.inr (op_load1 rfl Tryz.isAgg3 (ldv_own rfl rfl)), trivial⟩⟩) (trivial) ?_
    refine zd2 ?_
    refine RP.nil rfl ?_
    refine AWp_boxLeO 0 (bs' := [.int .i64 vz.kind, .bool vz.b, .bool vz.n.neg, .str vz.n.digits, .int .i64 vz.n.exp, .str vz.s, .sl false 8 (lcells vz.l), .sl false 9 (mcells vz.m)]) rfl ⟨AVle.refl _, AVle.refl _, AVle.refl _, AVle.refl _, AVle.refl _, AVle.refl _, nilL, nilM, trivial⟩ ?_
    refine zrt ?_
    have hE : rParse s = (vz, (rparE s).bad, (rparE s).spot) := by unfold rParse; rw [if_neg (by omega), if_neg (by assumption)]
    rw [hE, vcells_eq]; exact RQ_ret (rkvs_cons (rkv_ck rfl rfl rfl) (rkvs_cons (rkv_t rfl) (rkvs_cons (rkv_t rfl) rfl))) hcl (by simp [rks, AV.lt, AV.ltL, ofConst1, ncells]) ⟨rfl, rfl⟩
   ·(try rw [h4]); replace h4 := zcl h4
    refine AWp_skip ?_
    refine zw4 ?_
    refine zrt ?_
    have hE : rParse s = ((rpar s).1, 0, 0) := by unfold rParse; rw [if_neg (by omega), if_pos (by assumption)]
    rw [hE, vcells_eq]; exact RQ_ret (rkvs_cons (rkv_ck rfl rfl rfl) (rkvs_cons (rkv_t rfl) (rkvs_cons (rkv_t rfl) rfl))) hcl (by simp [rks, AV.lt, AV.ltL, ofConst1, ncells]) ⟨rfl, rfl⟩

theorem value_c (s : ByteArray) (σ : List AO) : ACalls Tryz.prog 11 [.str s] σ (Ret (.tup [.agg (vcells (rValue s).1), .int .i64 (rValue s).2]) σ) := by
 refine ACalls_bodyC Tryz.func11 rfl Tryz.ntmps11 (by rw [Tryz.results11]; exact (.ck Tryz.isAgg28 Tryz.sizeOf28 (.t .nil))) (Nat.le_of_ble_eq_true rfl) (fun hcl hal => ?_)
 refine zw2 ?_
 refine AWp_seq ?_
 refine zw3 ?_
 refine AWp_cond rfl (fun h1 => ?_) (fun h1 => ?_)
 ·(try rw [h1]); replace h1 := zcl h1
  refine zw3 ?_
  refine AWp_boxLeO 0 (bs' := [.int .i64 vz.kind, .bool vz.b, .bool vz.n.neg, .str vz.n.digits, .int .i64 vz.n.exp, .str vz.s, .sl false 8 (lcells vz.l), .sl false 9 (mcells vz.m)]) rfl ⟨AVle.refl _, AVle.refl _, AVle.refl _, AVle.refl _, AVle.refl _, AVle.refl _, nilL, nilM, trivial⟩ ?_
  refine zrt ?_
  have hE : rValue s = (vz, 0) := by unfold rValue; rw [if_pos (by omega)]
  rw [hE, vcells_eq]; exact RQ_ret (rkvs_cons (rkv_ck rfl rfl rfl) (rkvs_cons (rkv_t rfl) rfl)) hcl (by simp [rks, AV.lt, AV.ltL, ofConst1, ncells]) ⟨rfl, rfl⟩
 ·(try rw [h1]); replace h1 := zcl h1
  refine AWp_skip ?_
  refine zu1 ?_
  refine zt rfl (zc rfl (parse_c s _ (by omega))) ?_
  rw [vcells_eq (rParse s).1]
  refine zv8 ?_
  refine AWp_seq ?_
  refine zw2 ?_
  refine AWp_cond rfl (fun h2 => ?_) (fun h2 => ?_)
  ·(try rw [h2]); replace h2 := zcl h2
   refine zw3 ?_
   refine AWp_boxLeO 0 (bs' := [.int .i64 vz.kind, .bool vz.b, .bool vz.n.neg, .str vz.n.digits, .int .i64 vz.n.exp, .str vz.s, .sl false 8 (lcells vz.l), .sl false 9 (mcells vz.m)]) rfl ⟨AVle.refl _, AVle.refl _, AVle.refl _, AVle.refl _, AVle.refl _, AVle.refl _, nilL, nilM, trivial⟩ ?_
   refine zrt ?_
   have hE : rValue s = (vz, 0) := by unfold rValue; rw [if_neg (by omega), if_neg (by assumption)]
   rw [hE, vcells_eq]; exact RQ_ret (rkvs_cons (rkv_ck rfl rfl rfl) (rkvs_cons (rkv_t rfl) rfl)) hcl (by simp [rks, AV.lt, AV.ltL, ofConst1, ncells]) ⟨rfl, rfl⟩
  ·(try rw [h2]); replace h2 := zcl h2
   refine AWp_skip ?_
   refine zw3 ?_
   refine zrt ?_
   have hE : rValue s = ((rParse s).1, 1) := by unfold rValue; rw [if_neg (by omega), if_pos (by assumption)]
   rw [hE, vcells_eq]; exact RQ_ret (rkvs_cons (rkv_ck rfl rfl rfl) (rkvs_cons (rkv_t rfl) rfl)) hcl (by simp [rks, AV.lt, AV.ltL, ofConst1, ncells]) ⟨rfl, rfl⟩
end Lg
set_option maxRecDepth 20000
set_option maxHeartbeats 4000000
namespace Lg
open Go Go.Proofs Go.RowKit
variable [GLay] 
theorem rsameQ_c (v : JV) (cs : List AV) (σ : List AO) (hc : vcells v = cs) (hjb : jb v) : ACalls Tryz.prog 17 [.agg cs, .agg cs] σ (Ret (.bool true) σ) := by
  subst hc
  have h := rsame_any (jsize v).toNat v v σ (by have := jsize_pos v; omega) hjb hjb
  rwa [pb_t rfl] at h
theorem op_eqGerr {P : Program} {σ : List AO} {e : Env} {o : Oper} {T T' : TypeId} {x : Operand} {ms : Array (String × TypeId)} {z : Bool} (ho : o.op = .binOp .eql T x (.const .nilIface) T') (hu : P.underlying T = some (.interface ms)) (hx : opO e x = some (gerr z)) : AOp P σ e o (.bool z) σ := by
  cases z with
  | true => exact op_eqINil ho hu hx
  | false => exact op_eqIN ho hu hx
end Lg
set_option maxRecDepth 20000
set_option maxHeartbeats 4000000
namespace Lg
open Go Go.Proofs Go.RowKit
variable [GLay] 
end Lg
namespace Lg
open Go
section
variable {σ : List AO} {p q : Nat} {x y : AO}
end
section
variable [GLay]
variable {σ : List AO} {p q : Nat} {x y : AO}
end
section
variable [GLay]
structure SP (v : JV) (id deep frm nw lst : Int) (M : List (Int × AV)) (p q : Nat) (σ : List AO) : Prop where
  hp : σ[p]? = some (.box [.mapv q, .int .i64 frm, .int .i64 nw, .int .i64 lst])
  hq : σ[q]? = some (.map (imap M))
  key : ∀ a ∈ M, a.1 < id
  ml : ∀ k, ∀ a ∈ M, a.2.lt k
  len : (M.length : Int) + jsize v ≤ 20000
  d0 : 0 ≤ deep
  dd : deep + jdepth v ≤ 40
  i0 : 0 ≤ id
  ib : id + jsize v ≤ 1000000000
  f : frm ≤ id
  n0 : 0 ≤ nw
  nb : nw + jsize v ≤ 1000000
theorem SP.ne {v : JV} {id deep frm nw lst : Int} {M : List (Int × AV)} {p q : Nat} {σ : List AO} (h : SP v id deep frm nw lst M p q σ) : p ≠ q := fun e => by
  have h1 := h.hp; have h2 := h.hq
  rw [e, h2] at h1; cases h1
theorem SP.none {v : JV} {id deep frm nw lst : Int} {M : List (Int × AV)} {p q : Nat} {σ : List AO} (h : SP v id deep frm nw lst M p q σ) (K : List JV) : iget (M ++ seenL K (id + 1)) id = none :=
  iget_none fun a ha e => by
    rcases List.mem_append.1 ha with ha | ha
    · have := h.key a ha; omega
    · have := seenL_key _ _ a ha; omega
theorem SP.lt {v : JV} {id deep frm nw lst : Int} {M : List (Int × AV)} {p q : Nat} {σ : List AO} (h : SP v id deep frm nw lst M p q σ) (k : Nat) (K : List JV) : AV.ltL k (mflat (imap (M ++ seenL K (id + 1)))) :=
  imap_lt k _ fun a ha => by
    rcases List.mem_append.1 ha with ha | ha
    · exact h.ml k a ha
    · exact seenL_lt k _ _ a ha
end
end Lg
namespace Lg
open Go
section
variable [GLay] {P : Program} {σ l : List AO} {e : Env} {o : Oper} {f : FuncId} {args : List AV} {v : AV} {x y : AO}
end
end Lg
set_option maxRecDepth 20000
set_option maxHeartbeats 4000000
namespace Lg
open Go Go.Proofs Go.RowKit
variable [GLay] 
theorem redit_c (op : Int) (x : JV) (xs : List AV) (hxs : vcells x = xs) (hop : 1 ≤ op ∧ op ≤ 3) : ∀ (l : List BL) (f : Bool) (v : JV) (cs : List AV) (σ : List AO), (∀ nm ∈ l, nm.length ≤ 1000000) → vcells v = cs → jb v → ACalls Tryz.prog 16 [.int .i64 op, .agg cs, .sl f 1 (srow l), .agg xs] σ (Ret (.tup [.agg (vcells (jed op x l v).1), .int .i64 (jed op x l v).2]) σ)
  | [], f, v, cs, σ, _, hc, _ => redit_0 op x xs hxs f v cs σ hc
  | nm :: r, f, v, cs, σ, hl, hc, hb => by
    have ih : ∀ (v : JV) (cs : List AV) (es : List (List AV)) (σ : List AO), vcells v = cs → es = srow r → jb v → ACalls Tryz.prog 16 [.int .i64 op, .agg cs, .sl false 1 es, .agg xs] σ (Ret (.tup [.agg (vcells (jed op x r v).1), .int .i64 (jed op x r v).2]) σ) := by
      rintro v cs es σ hc rfl hb
      exact redit_c op x xs hxs hop r false v cs σ (fun n hn => hl n (List.mem_cons_of_mem _ hn)) hc hb
    by_cases h4 : v.kind = 4
    · exact redit_4 op x xs hxs r ih f nm v cs σ hc hb hop (hl nm (List.mem_cons_self ..)) h4
    · exact redit_5 op x xs hxs r ih f nm v cs σ hc hb hop h4
end Lg
set_option maxRecDepth 20000
set_option maxHeartbeats 4000000
namespace Lg
open Go Go.Proofs Go.RowKit
variable [GLay] 
def cerJ (k : Int) : AV := if k = 0 then .nili else .iface 69 (.int .i64 k)
theorem cerJ_b (b : Bool) : gerr b = cerJ (eC b) := by cases b <;> rfl
theorem eaddJ_c (x : JV) (xs : List AV) (hxs : vcells x = xs) (l : List BL) (hl : ∀ n ∈ l, n.length ≤ 1000000) (hll : l.length ≤ 2000000) (f : Bool) (v : JV) (cs : List AV) (σ : List AO) (hc : vcells v = cs) (hjb : jb v) (hmay : jst v) : ACalls Tryz.prog 13 [.agg cs, .sl f 1 (srow l), .agg xs] σ (Ret (.tup [.agg (vcells (jed 1 x l v).1), cerJ (jed 1 x l v).2]) σ) := by
  rcases List.eq_nil_or_concat l with rfl | ⟨l0, nm, rfl⟩
  · rw [jed_nil (by decide)]; exact eadd_0 x xs hxs f v cs σ hc hjb hmay
  · rw [List.concat_eq_append] at *
    rw [jed_add x l0 nm v hmay, ← cerJ_b]
    exact eadd_1 x xs hxs l0 nm (fun n hn => hl n (List.mem_append_left _ hn)) (by rw [List.length_append] at hll; omega) (hl nm (by simp)) f v cs σ hc hjb hmay
theorem eremJ_c (x : JV) (l : List BL) (hl : ∀ n ∈ l, n.length ≤ 1000000) (hll : l.length ≤ 2000000) (f : Bool) (v : JV) (cs : List AV) (σ : List AO) (hc : vcells v = cs) (hjb : jb v) (hmay : jst v) : ACalls Tryz.prog 14 [.agg cs, .sl f 1 (srow l)] σ (Ret (.tup [.agg (vcells (jed 2 x l v).1), cerJ (jed 2 x l v).2]) σ) := by
  rcases List.eq_nil_or_concat l with rfl | ⟨l0, nm, rfl⟩
  · exact erem_0 f v cs σ hc hjb hmay
  · rw [List.concat_eq_append] at *
    rw [jed_rem x l0 nm v hmay, ← cerJ_b]
    exact erem_1 l0 nm (fun n hn => hl n (List.mem_append_left _ hn)) (by rw [List.length_append] at hll; omega) (hl nm (by simp)) f v cs σ hc hjb hmay
theorem erepJ_c (x : JV) (xs : List AV) (hxs : vcells x = xs) (l : List BL) (hl : ∀ n ∈ l, n.length ≤ 1000000) (f : Bool) (v : JV) (cs : List AV) (σ : List AO) (hc : vcells v = cs) (hjb : jb v) (hmay : jst v) : ACalls Tryz.prog 15 [.agg cs, .sl f 1 (srow l), .agg xs] σ (Ret (.tup [.agg (vcells (jed 3 x l v).1), cerJ (jed 3 x l v).2]) σ) := by
  rw [jed_rep x l v hmay, ← cerJ_b]
  exact erep_c x xs hxs l hl f v cs σ hc hjb hmay
end Lg
namespace Lg
open Go Go.RowKit
variable [GLay]
def PastG (P : Program) (tb : Array Nat) (i : Nat) (e : Env) (o : Oper) (v : AV) : List (Nat × (Bool → List AO)) → Prop
  | [] => True
  | (j, σ) :: r => (befB tb j i = true ∨ ∀ b, AOp P (σ b) e o v (σ b)) ∧ PastG P tb i e o v r
def HeldG (tb : Array Nat) (i : Nat) (σ : Bool → List AO) : List (Nat × (List AO → Prop)) → Prop
  | [] => True
  | (k, p) :: r => (befB tb k i = true ∨ ∀ b, p (σ b)) ∧ HeldG tb i σ r
def ChainG (tb : Array Nat) (i : Nat) : List (Nat × (Bool → List AO)) → Prop
  | [] => True
  | (j, _) :: r => befB tb j i = true ∧ ChainG tb i r
inductive RT (P : Program) (N : Nat) (ops : Array Oper) (tb : Array Nat) (Q : Env → List AO → Prop) : Nat → Env → List AO → Prop
  | nil {i e σ} (hi : i = ops.size) (h : Q e σ) : RT P N ops tb Q i e σ
  | op {i e σ} (o : Oper) (v : AV) (σ' : List AO) (ho : ops[i]? = some o) (hg : GuardA ops N e o true) (hd : ∀ d, o.dst = some d → d < N) (h : AOp P σ e o v σ') (hall : ((List.range i).all fun j => befB tb j i) = true)
      (k : RT P N ops tb Q (i + 1) (e.put o.dst v) σ') : RT P N ops tb Q i e σ
def Twin (B : AO) (L : Nat) (σ : Bool → List AO) : Prop := (σ false).length = L ∧ σ true = σ false ++ [B]
inductive RG (P : Program) (N : Nat) (ops : Array Oper) (tb : Array Nat) (B : AO) (L : Nat) (Q : Env → List AO → Prop) : Nat → Env → (Bool → List AO) → List (Nat × (Bool → List AO)) → List (Nat × (List AO → Prop)) → Prop
  | pure {i e σ past held} (o : Oper) (v : AV) (ho : ops[i]? = some o) (hg : GuardA ops N e o true) (hd : ∀ d, o.dst = some d → d < N) (h : ∀ b, AOp P (σ b) e o v (σ b)) (hp : PastG P tb i e o v past)
      (k : RG P N ops tb B L Q (i + 1) (e.put o.dst v) σ past ((i, fun σ' => AOp P σ' e o v σ') :: held)) : RG P N ops tb B L Q i e σ past held
  | eff {i e σ past held} (o : Oper) (v : AV) (σ' : Bool → List AO) (ho : ops[i]? = some o) (hg : GuardA ops N e o true) (hd : ∀ d, o.dst = some d → d < N) (h : ∀ b, AOp P (σ b) e o v (σ' b)) (ht : Twin B L σ') (hh : HeldG tb i σ' held) (hc : ChainG tb i past)
      (k : RG P N ops tb B L Q (i + 1) (e.put o.dst v) σ' ((i, σ) :: past) held) : RG P N ops tb B L Q i e σ past held
  | flt {i e σ past held} (o : Oper) (ho : ops[i]? = some o) (hg : GuardA ops N e o true) (hd : ∀ d, o.dst = some d → d < N) (h : ∀ τ : List AO, τ.length = L → AOp P τ e o (.ptr L 0) (τ ++ [B]))
      (k : RT P N ops tb Q (i + 1) (e.put o.dst (.ptr L 0)) (σ true)) : RG P N ops tb B L Q i e σ past held
structure TrG (P : Program) (N : Nat) (ops : Array Oper) (tb : Array Nat) (B : AO) (L : Nat) (Q : Env → List AO → Prop) (i0 f : Nat) (E : Nat → Env) (H : Bool → Nat → List AO) (val : Nat → AV) (kd : Nat → Kd) : Prop where
  le : i0 ≤ f
  fl : f < ops.size
  twin : ∀ i, i0 ≤ i → i ≤ f → Twin B L fun b => H b i
  pre : ∀ i, i0 ≤ i → i < f → ∃ o, ops[i]? = some o ∧ (∀ d, o.dst = some d → d < N) ∧ E (i + 1) = (E i).put o.dst (val i) ∧ GuardA ops N (E i) o true ∧
    ((kd i = .pure ∧ (∀ b, AOp P (H b i) (E i) o (val i) (H b i) ∧ H b (i + 1) = H b i) ∧
      (∀ j, i0 ≤ j → j < i → kd j = .eff → befB tb j i = true ∨ ∀ b, AOp P (H b j) (E i) o (val i) (H b j)) ∧
      (∀ j, i < j → j < f → kd j = .eff → befB tb i j = true ∨ ∀ b, AOp P (H b (j + 1)) (E i) o (val i) (H b (j + 1)))) ∨
    (kd i = .eff ∧ (∀ b, AOp P (H b i) (E i) o (val i) (H b (i + 1))) ∧ (∀ j, i0 ≤ j → j < i → kd j = .eff → befB tb j i = true)))
  flt : ∃ o, ops[f]? = some o ∧ (∀ d, o.dst = some d → d < N) ∧ E (f + 1) = (E f).put o.dst (val f) ∧ GuardA ops N (E f) o true ∧ kd f = .skip ∧ (∀ b, H b (f + 1) = H b f) ∧
    ∀ τ : List AO, τ.length = L → AOp P τ (E f) o (val f) (τ ++ [B])
  tail : ∀ i, f < i → i < ops.size → ∃ o, ops[i]? = some o ∧ (∀ d, o.dst = some d → d < N) ∧ E (i + 1) = (E i).put o.dst (val i) ∧ GuardA ops N (E i) o true ∧ kd i = .eff ∧
    AOp P (H true i) (E i) o (val i) (H true (i + 1)) ∧ ∀ j, j < i → befB tb j i = true
  fin : Q (E ops.size) (H true ops.size)
section rp
variable {P : Program} {N : Nat} {ops : Array Oper} {tb : Array Nat} {Q : Env → List AO → Prop} {B : AO} {L : Nat}
theorem PastG.mem {i : Nat} {e : Env} {o : Oper} {v : AV} : ∀ {past : List (Nat × (Bool → List AO))}, PastG P tb i e o v past → ∀ q ∈ past, befB tb q.1 i = true ∨ ∀ b, AOp P (q.2 b) e o v (q.2 b)
  | [], _, q, h => by simp at h
  | (j, σ) :: r, ⟨h1, h2⟩, q, h => by
    rcases List.mem_cons.1 h with rfl | h
    · exact h1
    · exact PastG.mem h2 q h
theorem HeldG.mem {i : Nat} {σ : Bool → List AO} : ∀ {held : List (Nat × (List AO → Prop))}, HeldG tb i σ held → ∀ q ∈ held, befB tb q.1 i = true ∨ ∀ b, q.2 (σ b)
  | [], _, q, h => by simp at h
  | (j, p) :: r, ⟨h1, h2⟩, q, h => by
    rcases List.mem_cons.1 h with rfl | h
    · exact h1
    · exact HeldG.mem h2 q h
theorem ChainG.mem {i : Nat} : ∀ {past : List (Nat × (Bool → List AO))}, ChainG tb i past → ∀ q ∈ past, befB tb q.1 i = true
  | [], _, q, h => by simp at h
  | (j, σ) :: r, ⟨h1, h2⟩, q, h => by
    rcases List.mem_cons.1 h with rfl | h
    · exact h1
    · exact ChainG.mem h2 q h
theorem RT.trace {i : Nat} {e : Env} {σ : List AO} (h : RT P N ops tb Q i e σ) (hi : i ≤ ops.size) :
    ∃ (E : Nat → Env) (H : Nat → List AO) (val : Nat → AV), E i = e ∧ H i = σ ∧ (∀ j, i ≤ j → j < ops.size → ∃ o, ops[j]? = some o ∧ (∀ d, o.dst = some d → d < N) ∧ E (j + 1) = (E j).put o.dst (val j) ∧ GuardA ops N (E j) o true ∧
      AOp P (H j) (E j) o (val j) (H (j + 1)) ∧ ∀ k, k < j → befB tb k j = true) ∧ Q (E ops.size) (H ops.size) := by
  induction h with
  | nil hi' h =>
    rename_i i e σ
    exact ⟨fun _ => e, fun _ => σ, fun _ => .any, rfl, rfl, fun j h1 h2 => by omega, h⟩
  | op o v σ' ho hg hd h hall k ih =>
    rename_i i e σ
    have hlt : i < ops.size := (Array.getElem?_eq_some_iff.1 ho).1
    obtain ⟨E, H, val, hE, hH, hs, hQ⟩ := ih (by omega)
    refine ⟨fun j => if j = i then e else E j, fun j => if j = i then σ else H j, fun j => if j = i then v else val j, if_pos rfl, if_pos rfl, fun j h1 h2 => ?_, ?_⟩
    · by_cases hji : j = i
      · subst hji
        refine ⟨o, ho, hd, ?_, by simpa using hg, ?_, fun k hk => List.all_eq_true.1 hall k (List.mem_range.2 hk)⟩
        · simp [hE]
        · simp only [if_true, if_neg (show j + 1 ≠ j by omega), hH]; exact h
      · simp only [if_neg hji, if_neg (show j + 1 ≠ i by omega)]; exact hs j (by omega) h2
    · simp only [if_neg (show ops.size ≠ i by omega)]; exact hQ
theorem RG.trace {i : Nat} {e : Env} {σ : Bool → List AO} {past : List (Nat × (Bool → List AO))} {held : List (Nat × (List AO → Prop))} (h : RG P N ops tb B L Q i e σ past held) (htw : Twin B L σ) :
    ∃ f E H val kd, E i = e ∧ (∀ b, H b i = σ b) ∧ TrG P N ops tb B L Q i f E H val kd ∧
      (∀ j, i ≤ j → j < f → kd j = .pure → ∀ q ∈ past, ∃ o, ops[j]? = some o ∧ (befB tb q.1 j = true ∨ ∀ b, AOp P (q.2 b) (E j) o (val j) (q.2 b))) ∧
      (∀ j, i ≤ j → j < f → kd j = .eff → (∀ q ∈ held, befB tb q.1 j = true ∨ ∀ b, q.2 (H b (j + 1))) ∧ ∀ q ∈ past, befB tb q.1 j = true) := by
  induction h with
  | flt o ho hg hd h k =>
    rename_i i e σ past held
    have hlt : i < ops.size := (Array.getElem?_eq_some_iff.1 ho).1
    obtain ⟨E, H, val, hE, hH, hs, hQ⟩ := k.trace (by omega)
    refine ⟨i, fun j => if j = i then e else E j, fun b j => if j ≤ i + 1 then σ b else H j, fun j => if j = i then .ptr L 0 else val j, fun j => if j = i then .skip else .eff, if_pos rfl, fun b => if_pos (by omega), ⟨Nat.le_refl _, hlt, fun j h1 h2 => ?_, fun j h1 h2 => by omega, ⟨o, ho, hd, ?_, by simpa using hg, if_pos rfl, fun b => ?_, fun τ hτ => ?_⟩, fun j h1 h2 => ?_, ?_⟩, fun j h1 h2 => by omega, fun j h1 h2 => by omega⟩
    · simp only [if_pos (show j ≤ i + 1 by omega)]; exact htw
    · simp [hE]
    · simp
    · simp only [if_true]; exact h τ hτ
    · obtain ⟨o', a1, a2, a3, a4, a5, a6⟩ := hs j (by omega) h2
      refine ⟨o', a1, a2, ?_, ?_, ?_, ?_, a6⟩
      · simp only [if_neg (show j ≠ i by omega), if_neg (show j + 1 ≠ i by omega)]; exact a3
      · simp only [if_neg (show j ≠ i by omega)]; exact a4
      · simp only [if_neg (show j ≠ i by omega)]
      · simp only [if_neg (show j ≠ i by omega), if_neg (show ¬ j + 1 ≤ i + 1 by omega)]
        by_cases hj : j ≤ i + 1
        · have : j = i + 1 := by omega
          subst this
          simp only [Nat.le_refl, if_true]; rw [← hH]; exact a5
        · simp only [if_neg hj]; exact a5
    · simp only [if_neg (show ops.size ≠ i by omega)]
      by_cases hj : ops.size ≤ i + 1
      · simp only [if_pos hj]; have : ops.size = i + 1 := by omega
        rw [this] at hQ ⊢; rw [← hH]; exact hQ
      · simp only [if_neg hj]; exact hQ
  | pure o v ho hg hd h hp k ih =>
    rename_i i e σ past held
    obtain ⟨f, E, H, val, kd, hE, hH, ht, h1, h2⟩ := ih htw
    have hif := ht.le
    refine ⟨f, fun j => if j = i then e else E j, fun b j => if j = i then σ b else H b j, fun j => if j = i then v else val j, fun j => if j = i then .pure else kd j, if_pos rfl, fun b => if_pos rfl, ⟨by omega, ht.fl, fun j h3 h4 => ?_, fun j hj1 hj2 => ?_, ?_, fun j h3 h4 => ?_, ?_⟩, fun j hj1 hj2 hk q hq => ?_, fun j hj1 hj2 hk => ?_⟩
    · by_cases hji : j = i
      · simp only [if_pos hji]; exact htw
      · simp only [if_neg hji]; exact ht.twin j (by omega) h4
    · by_cases hji : j = i
      · subst hji
        refine ⟨o, ho, hd, by simp [hE], by simpa using hg, .inl ⟨by simp, fun b => ⟨by simpa using h b, by simp [hH]⟩, fun j' h4 h5 => by omega, fun j' h4 h5 hk => ?_⟩⟩
        simp only [if_neg (show j' ≠ j by omega), if_neg (show j' + 1 ≠ j by omega)] at hk ⊢
        simp only [if_true]
        exact (h2 j' (by omega) h5 hk).1 (j, fun σ' => AOp P σ' e o v σ') (by simp)
      · obtain ⟨o', ho', hd', hE', hg', hc⟩ := ht.pre j (by omega) hj2
        simp only [if_neg hji, if_neg (show j + 1 ≠ i by omega)]
        refine ⟨o', ho', hd', hE', hg', ?_⟩
        rcases hc with ⟨a0, a1, a4, a5⟩ | ⟨a0, a1, a3⟩
        · refine .inl ⟨a0, a1, fun j' h4 h5 hk' => ?_, fun j' h4 h5 hk' => ?_⟩
          · by_cases hj' : j' = i
            · subst hj'; simp at hk'
            · simp only [if_neg hj'] at hk' ⊢; exact a4 j' (by omega) h5 hk'
          · simp only [if_neg (show j' ≠ i by omega), if_neg (show j' + 1 ≠ i by omega)] at hk' ⊢; exact a5 j' h4 h5 hk'
        · refine .inr ⟨a0, a1, fun j' h4 h5 hk' => ?_⟩
          by_cases hj' : j' = i
          · subst hj'; simp at hk'
          · simp only [if_neg hj'] at hk'; exact a3 j' (by omega) h5 hk'
    · have := ht.flt; simpa only [if_neg (show f ≠ i by omega), if_neg (show f + 1 ≠ i by omega)] using this
    · have := ht.tail j h3 h4; simpa only [if_neg (show j ≠ i by omega), if_neg (show j + 1 ≠ i by omega)] using this
    · have := ht.fin; have h9 := ht.fl; simpa only [if_neg (show ops.size ≠ i by omega)] using this
    · by_cases hji : j = i
      · subst hji; exact ⟨o, ho, by simp only [if_true]; exact hp.mem q hq⟩
      · simp only [if_neg hji] at hk ⊢; exact h1 j (by omega) hj2 hk q hq
    · by_cases hji : j = i
      · subst hji; simp at hk
      · simp only [if_neg hji, if_neg (show j + 1 ≠ i by omega)] at hk ⊢
        obtain ⟨b1, b2⟩ := h2 j (by omega) hj2 hk
        exact ⟨fun q hq => b1 q (List.mem_cons_of_mem _ hq), b2⟩
  | eff o v σ' ho hg hd h htw' hh hc k ih =>
    rename_i i e σ past held
    obtain ⟨f, E, H, val, kd, hE, hH, ht, h1, h2⟩ := ih htw'
    have hif := ht.le
    refine ⟨f, fun j => if j = i then e else E j, fun b j => if j = i then σ b else H b j, fun j => if j = i then v else val j, fun j => if j = i then .eff else kd j, if_pos rfl, fun b => if_pos rfl, ⟨by omega, ht.fl, fun j h3 h4 => ?_, fun j hj1 hj2 => ?_, ?_, fun j h3 h4 => ?_, ?_⟩, fun j hj1 hj2 hk q hq => ?_, fun j hj1 hj2 hk => ?_⟩
    · by_cases hji : j = i
      · simp only [if_pos hji]; exact htw
      · simp only [if_neg hji]; exact ht.twin j (by omega) h4
    · by_cases hji : j = i
      · subst hji
        refine ⟨o, ho, hd, by simp [hE], by simpa using hg, .inr ⟨by simp, fun b => ?_, fun j' h4 h5 => by omega⟩⟩
        simp only [if_true, if_neg (show j + 1 ≠ j by omega), hH]; exact h b
      · obtain ⟨o', ho', hd', hE', hg', hc'⟩ := ht.pre j (by omega) hj2
        simp only [if_neg hji, if_neg (show j + 1 ≠ i by omega)]
        refine ⟨o', ho', hd', hE', hg', ?_⟩
        rcases hc' with ⟨a0, a1, a4, a5⟩ | ⟨a0, a1, a3⟩
        · refine .inl ⟨a0, a1, fun j' h4 h5 hk' => ?_, fun j' h4 h5 hk' => ?_⟩
          · by_cases hj' : j' = i
            · subst hj'
              obtain ⟨o2, ho2, hx⟩ := h1 j (by omega) hj2 a0 (j', σ) (by simp)
              rw [ho'] at ho2; cases ho2
              simp only [if_true]; exact hx
            · simp only [if_neg hj'] at hk' ⊢; exact a4 j' (by omega) h5 hk'
          · simp only [if_neg (show j' ≠ i by omega), if_neg (show j' + 1 ≠ i by omega)] at hk' ⊢; exact a5 j' h4 h5 hk'
        · refine .inr ⟨a0, a1, fun j' h4 h5 hk' => ?_⟩
          by_cases hj' : j' = i
          · subst hj'; exact (h2 j (by omega) hj2 a0).2 (j', σ) (by simp)
          · simp only [if_neg hj'] at hk'; exact a3 j' (by omega) h5 hk'
    · have := ht.flt; simpa only [if_neg (show f ≠ i by omega), if_neg (show f + 1 ≠ i by omega)] using this
    · have := ht.tail j h3 h4; simpa only [if_neg (show j ≠ i by omega), if_neg (show j + 1 ≠ i by omega)] using this
    · have := ht.fin; have h9 := ht.fl; simpa only [if_neg (show ops.size ≠ i by omega)] using this
    · by_cases hji : j = i
      · subst hji; simp at hk
      · simp only [if_neg hji] at hk ⊢; exact h1 j (by omega) hj2 hk q (List.mem_cons_of_mem _ hq)
    · by_cases hji : j = i
      · subst hji
        exact ⟨fun q hq => by simp only [if_neg (show j + 1 ≠ j by omega), hH]; exact hh.mem q hq, hc.mem⟩
      · simp only [if_neg hji, if_neg (show j + 1 ≠ i by omega)] at hk ⊢
        obtain ⟨b1, b2⟩ := h2 j (by omega) hj2 hk
        exact ⟨b1, fun q hq => b2 q (List.mem_cons_of_mem _ hq)⟩
end rp
end Lg
namespace Lg
open Go Go.RowKit
variable [GLay]
section sound
variable {P : Program} {N : Nat} {ops : Array Oper} {tb : Array Nat} {Q : Env → List AO → Prop} {B : AO} {L : Nat}
structure InvG (ops : Array Oper) (N f : Nat) (E : Nat → Env) (H : Bool → Nat → List AO) (val : Nat → AV) (kd : Nat → Kd) (s0 : CS) (listed : Array Bool) (a : Act) (w : World) : Prop where
  size : listed.size = ops.size
  dn : ∀ j o, ops[j]? = some o → listed.getD j false = true → ∀ ed ∈ o.after.toList, Region.binds .any ed = true → listed.getD ed.on false = true
  st : ∃ s q, s.w = w ∧ Good s ∧ Ext s0 s ∧ q ≤ ops.size ∧ (∀ j, j < q → kd j = .eff → listed.getD j false = true) ∧ (q < ops.size → kd q = .eff ∧ listed.getD q false = false) ∧ s.σ = H (listed.getD f false) q ∧
    a.tmps.size = N ∧ DefOK s (E 0).D a.defers ∧ ∀ t, V s (preA ops (E 0) val (fun j => listed.getD j false) ops.size t) (a.eval (.tmp t))
theorem InvG.way {f : Nat} {E : Nat → Env} {H : Bool → Nat → List AO} {val : Nat → AV} {kd : Nat → Kd} {s0 : CS} {listed : Array Bool} {a : Act} {w : World} (c : Chk ops tb) (h : InvG ops N f E H val kd s0 listed a w) :
    ∀ (j : Nat) (o : Oper), ops[j]? = some o → (∀ ed ∈ o.after.toList, Region.binds .any ed = true → listed.getD ed.on false = true) → ∀ i, i < ops.size → befB tb i j = true → listed.getD i false = true := by
  intro j
  induction j using Nat.strongRecOn with
  | _ j ih =>
    intro o ho hdeps i hi hb
    obtain ⟨ed, hed, hbd, h1⟩ := c.way i j o ho hi hb
    have hon := hdeps ed hed hbd
    rcases h1 with h1 | h1
    · rw [← h1]; exact hon
    · have hlt := (c.edge j o ho ed hed hbd).1
      have hjn : ed.on < ops.size := by have := (Array.getElem?_eq_some_iff.1 ho).1; omega
      have ho' := Array.getElem?_eq_getElem hjn
      exact ih ed.on hlt _ ho' (h.dn ed.on _ ho' hon) i hi h1
theorem TrG.step {i0 f : Nat} {E : Nat → Env} {H : Bool → Nat → List AO} {val : Nat → AV} {kd : Nat → Kd} (ht : TrG P N ops tb B L Q i0 f E H val kd) : ∀ i, i0 ≤ i → i < ops.size → ∃ o, ops[i]? = some o ∧ (∀ d, o.dst = some d → d < N) ∧ E (i + 1) = (E i).put o.dst (val i) ∧ GuardA ops N (E i) o true := fun i h0 hi => by
  rcases Nat.lt_trichotomy i f with h | h | h
  · obtain ⟨o, a1, a2, a3, a4, _⟩ := ht.pre i h0 h; exact ⟨o, a1, a2, a3, a4⟩
  · subst h; obtain ⟨o, a1, a2, a3, a4, _⟩ := ht.flt; exact ⟨o, a1, a2, a3, a4⟩
  · obtain ⟨o, a1, a2, a3, a4, _⟩ := ht.tail i h hi; exact ⟨o, a1, a2, a3, a4⟩
theorem TrG.hconst {i0 f : Nat} {E : Nat → Env} {H : Bool → Nat → List AO} {val : Nat → AV} {kd : Nat → Kd} (ht : TrG P N ops tb B L Q i0 f E H val kd) (z : Bool) : ∀ (b a : Nat), i0 ≤ a → a ≤ b → b ≤ ops.size → (∀ j, a ≤ j → j < b → kd j ≠ .eff) → H z a = H z b
  | 0, a, _, h, _, _ => by have : a = 0 := by omega
                           subst this; rfl
  | b + 1, a, h0, h, hb, hk => by
    by_cases e : a = b + 1
    · subst e; rfl
    · have ih := ht.hconst z b a h0 (by omega) (by omega) (fun j h1 h2 => hk j h1 (by omega))
      have hkb := hk b (by omega) (by omega)
      have : H z (b + 1) = H z b := by
        rcases Nat.lt_trichotomy b f with h1 | h1 | h1
        · obtain ⟨o, _, _, _, _, hc⟩ := ht.pre b (by omega) h1
          rcases hc with ⟨_, h2, _⟩ | ⟨h2, _⟩
          · exact (h2 z).2
          · exact absurd h2 hkb
        · subst h1
          obtain ⟨o, _, _, _, _, _, h2, _⟩ := ht.flt
          exact h2 z
        · obtain ⟨o, _, _, _, _, h2, _⟩ := ht.tail b h1 (by omega)
          exact absurd h2 hkb
      rw [ih, this]
end sound
end Lg
namespace Lg
open Go Go.RowKit
variable [GLay]
section
variable {P : Program} {N : Nat} {σ l : List AO} {e : Env} {o : Oper} {Q : QA}
end
section
variable {P : Program} {N : Nat} {ops : Array Oper} {tb : Array Nat} {B : AO} {L : Nat} {QR : Env → List AO → Prop} {i : Nat} {D : List (FuncId × List AV)} {el : List (Nat × AV)} {σ : Bool → List AO} {past : List (Nat × (Bool → List AO))} {held : List (Nat × (List AO → Prop))} {o : Oper} {v : AV} {d : Nat}
end
end Lg
namespace Lg
open Go Go.RowKit
variable [GLay]
section
variable {P : Program} {N : Nat} {e : Env} {σ : List AO} {Q : QA}
theorem AWp_joinT {ι : Type} {c d : Code} (I : ι → Prop) (E : ι → Env) (S : ι → List AO) (hc : AWp P N c e σ fun ex e' σ' => match ex with
      | .normal => ∃ j n, I j ∧ σ.length ≤ n ∧ Sub e' (E j) ∧ closed n σ' ∧ ltE n (E j) ∧ σ'.take n = S j
      | ex => Q ex e' σ') (hd : ∀ i, I i → AWp P N d (E i) (S i) Q) : AWp P N (.seq c d) e σ Q := fun s0 s a hs g x he =>
  wp_seq (wp_mono (hc s s a hs g (Ext.refl s) he) fun ex a' w' hp => by
    obtain ⟨s', h1, h2, h3, e', h4, h5⟩ := hp
    cases ex with
    | normal =>
      obtain ⟨j, n, hI, hn, hsub, hcl, hlt, hσ⟩ := h5
      subst h1
      exact hd j hI s0 (s'.cut n) a' hσ (h2.cut hcl) (x.trans (h3.cutm (by rw [hs]; exact hn))) ((hsub.ok h4).cut hlt)
    | exit id => exact ⟨s', h1, h2, x.trans h3, e', h4, h5⟩
    | ret => exact ⟨s', h1, h2, x.trans h3, e', h4, h5⟩
    | goto l => exact h5.elim
    | outgrown => exact h5.elim
    | panic ch =>
      cases ch with
      | nil => exact h5.elim
      | cons en r =>
        cases r with
        | nil => exact ⟨s', h1, h2, x.trans h3, e', h4, h5⟩
        | cons => exact h5.elim)
end
end Lg
set_option maxRecDepth 20000
set_option maxHeartbeats 4000000
namespace Lg
open Go Go.Proofs Go.RowKit
variable [GLay] 
theorem redit2_c (l : List BL) (f : Bool) (v : JV) (cs : List AV) (σ : List AO) (hl : ∀ nm ∈ l, nm.length ≤ 1000000) (hc : vcells v = cs) (hb : jb v) : ACalls Tryz.prog 16 [.int .i64 2, .agg cs, .sl f 1 (srow l), .agg [.int .i64 0, .bool false, .bool false, .str ⟨#[]⟩, .int .i64 0, .str ⟨#[]⟩, .nils, .nils]] σ (Ret (.tup [.agg (vcells (jed 2 vz l v).1), .int .i64 (jed 2 vz l v).2]) σ) :=
  ACalls.conv (args' := [.int .i64 2, .agg cs, .sl f 1 (srow l), .agg (vcells vz)]) ⟨AVle.refl _, AVle.refl _, AVle.refl _, AVle.agg (vle8 nilL nilM), trivial⟩ (redit_c 2 vz _ rfl ⟨by decide, by decide⟩ l f v cs σ hl hc hb)
theorem rsameP_c (x y : JV) (cs ds : List AV) (σ : List AO) (hc : vcells x = cs) (hd : vcells y = ds) (hx : jb x) (hy : jb y) : ACalls Tryz.prog 17 [.agg cs, .agg ds] σ (Ret (.bool (pb (x = y))) σ) := by
  subst hc; subst hd
  exact rsame_any (jsize x).toNat x y σ (by have := jsize_pos x; omega) hx hy
theorem psameP_c (x y : JV) (cs ds : List AV) (σ : List AO) (hc : vcells x = cs) (hd : vcells y = ds) (hx : jb x) (hy : jb y) : ACalls Tryz.prog 114 [.agg cs, .agg ds] σ (Ret (.bool (pb (x = y))) σ) := by
  subst hc; subst hd
  exact same_any (jsize x).toNat x y σ (by have := jsize_pos x; omega) hx hy
theorem rdo_c (o : JOp) (os : List AV) (hos : ocells o = os) (hob : OPB o) (v : JV) (cs : List AV) (σ : List AO) (hc : vcells v = cs) (hjb : jb v) (hst : jst v) (hsz : jsize v ≤ 3000) : ACalls Tryz.prog 57 [.agg cs, .agg os] σ (Ret (.tup [.agg (vcells (jdo v o).1), .int .i64 (jdo v o).2]) σ) := by
 refine ACalls_bodyC Tryz.func57 rfl Tryz.ntmps57 (by rw [Tryz.results57]; exact (.ck Tryz.isAgg28 Tryz.sizeOf28 (.t .nil))) (Nat.le_of_ble_eq_true rfl) (fun hcl hal => ?_)
 subst hc
 subst hos
 rw [vcells_eq v, ocells_eq o]
 have hpl := srow_len o.pa
 have hfl := srow_len o.fr
 have hb1 := hob.pa
 have hb2 := hob.fr
 refine zw4 ?_
 refine AWp_seq ?_
 refine zw3 ?_
 refine AWp_cond rfl (fun h1 => ?_) (fun h1 => ?_)
 ·(try rw [h1]); replace h1 := zcl h1
  refine zu7 ?_
  refine zt rfl (zc rfl (redit_c o.op o.v _ (vcells_eq o.v) ⟨hob.lo, h1⟩ o.pa _ v _ _ hob.pan (vcells_eq v) hjb)) ?_
  rw [vcells_eq (jed o.op o.v o.pa v).1]
  refine zv4 ?_
  refine zrt ?_
  rw [jdo_le3 h1, vcells_eq]
  exact RQ_ret (rkvs_cons (rkv_ck rfl rfl rfl) (rkvs_cons (rkv_t rfl) rfl)) hcl (by simp [rks, AV.lt, AV.ltL]) ⟨rfl, rfl⟩
 ·(try rw [h1]); replace h1 := zcl h1
  have h1 : ¬ o.op ≤ 3 := by omega
  refine AWp_skip ?_
  refine AWp_join (ι := Unit) (fun b => ¬ (o.op = 4 ∧ o.fr.length < o.pa.length ∧ o.pa.take o.fr.length = o.fr)) (fun b => ⟨[], [(2, .ptr (σ.length + 0) 0), (3, .ptr (σ.length + 1) 0), (4, .ptr (σ.length + 2) 0)]⟩) (fun b => σ ++ [.box [.int .i64 v.kind, .bool v.b, .bool v.n.neg, .str v.n.digits, .int .i64 v.n.exp, .str v.s, .sl false 8 (lcells v.l), .sl false 9 (mcells v.m)], .box [.int .i64 o.op, .sl false 1 (srow o.pa), .sl false 1 (srow o.fr), .int .i64 o.v.kind, .bool o.v.b, .bool o.v.n.neg, .str o.v.n.digits, .int .i64 o.v.n.exp, .str o.v.s, .sl false 8 (lcells o.v.l), .sl false 9 (mcells o.v.m)], .box [.int .i64 0, .bool false, .bool false, .str ⟨#[]⟩, .int .i64 0, .str ⟨#[]⟩, .nils, .nils]]) ?_ (fun b hj => ?_)
  ·skip
   refine zu4 ?_
   refine zsp 30 rfl (fun h2 => ?_) fun h2 => ?_
   ·rw [h2]; replace h2 := zcl h2
    refine zv8 ?_
    refine AWp_cond rfl (fun h3 => ?_) (fun h3 => ?_)
    ·(try rw [h3]); replace h3 := zcl h3
     refine AWp_seq ?_
     refine AWp_drawL #[0, 1, 0, 4, 12, 31, 0, 64, 255, 511] Tryz.mixed (by decide +kernel) (by decide +kernel) ?_
     refine zd1 ?_
     refine zp1 ?_
     refine zd1 ?_
     refine zp1 ?_
     refine zd1 ?_
     refine yA rfl rfl (fun _ => (by first | exact op_sliceSl _ _ rfl Tryz.underlying31 Tryz.sizeOf9 rfl (by first | exact ⟨_, rfl⟩ | rfl) (by first | exact ⟨_, rfl⟩ | rfl) (by omega) (by omega) (by omega) | exact op_sliceArr _ _ rfl Tryz.underlying31 Tryz.sizeOf9 rfl GET (by first | exact ⟨_, rfl⟩ | rfl) (by first | exact ⟨_, rfl⟩ | rfl) (by omega) (by omega) (by omega))) ?_
     refine zd1 ?_
     refine zp1 ?_
     refine yP rfl rfl (zc rfl (rsn_c _ _ (o.pa.take o.fr.length) o.fr _ _ _ (by rw [hfl]; simp [srow, List.map_take]) rfl (by rw [List.length_take]; omega) hb2 (fun x hx => hob.pan x (List.mem_of_mem_take hx)) hob.frn)) (trivial) ?_
     refine zd1 ?_
     refine RP.nil rfl ?_
     refine zw1 ?_
     refine AWp_cond rfl (fun h4 => ?_) (fun h4 => ?_)
     ·(try rw [h4]); replace h4 := zcl h4
      refine zw3 ?_
      refine AWp_boxLeO 2 (bs' := [.int .i64 vz.kind, .bool vz.b, .bool vz.n.neg, .str vz.n.digits, .int .i64 vz.n.exp, .str vz.s, .sl false 8 (lcells vz.l), .sl false 9 (mcells vz.m)]) rfl ⟨AVle.refl _, AVle.refl _, AVle.refl _, AVle.refl _, AVle.refl _, AVle.refl _, nilL, nilM, trivial⟩ ?_
      refine zrt ?_
      rw [jdo_into h1 ⟨h2, by omega, h4⟩, vcells_eq]
      exact RQ_ret (rkvs_cons (rkv_ck rfl rfl rfl) (rkvs_cons (rkv_t rfl) rfl)) hcl (by simp [rks, AV.lt, AV.ltL]) ⟨rfl, rfl⟩
     ·(try rw [h4]); replace h4 := zcl h4
      refine AWp_skip ?_
      exact ⟨(), fun z => h4 z.2.2, ⟨rfl, rfl, rfl, rfl, trivial⟩, rfl⟩
    ·(try rw [h3]); replace h3 := zcl h3
     refine AWp_skip ?_
     exact ⟨(), fun z => by omega, ⟨rfl, rfl, rfl, rfl, trivial⟩, rfl⟩
   ·rw [h2]; replace h2 := zcl h2
    refine zv8 ?_
    refine AWp_condF rfl ?_
    refine AWp_skip ?_
    exact ⟨(), fun z => h2 z.1, ⟨rfl, rfl, rfl, rfl, trivial⟩, rfl⟩
  ·skip
   have hni := hj
   clear hj
   refine zw3 ?_
   refine AWp_join (ι := Unit) (fun b => True) (fun b => ⟨[], [(2, .ptr (σ.length + 0) 0), (3, .ptr (σ.length + 1) 0), (4, .ptr (σ.length + 2) 0), (7, .sl false 1 (srow (if o.op = 6 then o.pa else o.fr)))]⟩) (fun b => σ ++ [.box [.int .i64 v.kind, .bool v.b, .bool v.n.neg, .str v.n.digits, .int .i64 v.n.exp, .str v.s, .sl false 8 (lcells v.l), .sl false 9 (mcells v.m)], .box [.int .i64 o.op, .sl false 1 (srow o.pa), .sl false 1 (srow o.fr), .int .i64 o.v.kind, .bool o.v.b, .bool o.v.n.neg, .str o.v.n.digits, .int .i64 o.v.n.exp, .str o.v.s, .sl false 8 (lcells o.v.l), .sl false 9 (mcells o.v.m)], .box [.int .i64 0, .bool false, .bool false, .str ⟨#[]⟩, .int .i64 0, .str ⟨#[]⟩, .nils, .nils]]) ?_ (fun b hj => ?_)
   ·skip
    refine zw3 ?_
    refine AWp_cond rfl (fun h5 => ?_) (fun h5 => ?_)
    ·(try rw [h5]); replace h5 := zcl h5
     refine AWp_regL ?_
     refine zv3 ?_
     rw [if_pos h5]
     exact ⟨(), trivial, ⟨rfl, rfl, rfl, rfl, rfl, trivial⟩, rfl⟩
    ·(try rw [h5]); replace h5 := zcl h5
     refine AWp_skip ?_
     rw [if_neg h5]
     exact ⟨(), trivial, ⟨rfl, rfl, rfl, rfl, rfl, trivial⟩, rfl⟩
   ·skip
    have hWn : ∀ n ∈ (if o.op = 6 then o.pa else o.fr), n.length ≤ 1000000 := by split; exact hob.pan; exact hob.frn
    have hwj := jget_jb (if o.op = 6 then o.pa else o.fr) hjb
    refine zu2 ?_
    refine zt rfl (zc rfl (rget_c (if o.op = 6 then o.pa else o.fr) _ v _ _ hWn (vcells_eq v) hjb)) ?_
    rw [vcells_eq (jget (if o.op = 6 then o.pa else o.fr) v).1]
    refine zv6 ?_
    refine AWp_seq ?_
    refine zw2 ?_
    refine AWp_cond rfl (fun h6 => ?_) (fun h6 => ?_)
    ·(try rw [h6]); replace h6 := zcl h6
     refine zw3 ?_
     refine AWp_boxLeO 2 (bs' := [.int .i64 vz.kind, .bool vz.b, .bool vz.n.neg, .str vz.n.digits, .int .i64 vz.n.exp, .str vz.s, .sl false 8 (lcells vz.l), .sl false 9 (mcells vz.m)]) rfl ⟨AVle.refl _, AVle.refl _, AVle.refl _, AVle.refl _, AVle.refl _, AVle.refl _, nilL, nilM, trivial⟩ ?_
     refine zrt ?_
     rw [jdo_none h1 hni (by simpa using h6), vcells_eq]
     exact RQ_ret (rkvs_cons (rkv_ck rfl rfl rfl) (rkvs_cons (rkv_t rfl) rfl)) hcl (by simp [rks, AV.lt, AV.ltL]) ⟨rfl, rfl⟩
    ·(try rw [h6]); replace h6 := zcl h6
     have hg0 : ¬ (jget (if o.op = 6 then o.pa else o.fr) v).2 = false := by simpa using h6
     refine AWp_skip ?_
     refine AWp_seq ?_
     refine zw3 ?_
     refine AWp_cond rfl (fun h7 => ?_) (fun h7 => ?_)
     ·(try rw [h7]); replace h7 := zcl h7
      refine AWp_seq ?_
      refine AWp_heap (σ' := σ ++ [.box [.int .i64 v.kind, .bool v.b, .bool v.n.neg, .str v.n.digits, .int .i64 v.n.exp, .str v.s, .sl false 8 (lcells v.l), .sl false 9 (mcells v.m)], .box [.int .i64 o.op, .sl false 1 (srow o.pa), .sl false 1 (srow o.fr), .int .i64 o.v.kind, .bool o.v.b, .bool o.v.n.neg, .str o.v.n.digits, .int .i64 o.v.n.exp, .str o.v.s, .sl false 8 (lcells o.v.l), .sl false 9 (mcells o.v.m)], .box [.int .i64 0, .bool false, .bool false, .str ⟨#[]⟩, .int .i64 0, .str ⟨#[]⟩, .nils, .nils], .box [.int .i64 (jget (if o.op = 6 then o.pa else o.fr) v).1.kind, .bool (jget (if o.op = 6 then o.pa else o.fr) v).1.b, .bool (jget (if o.op = 6 then o.pa else o.fr) v).1.n.neg, .str (jget (if o.op = 6 then o.pa else o.fr) v).1.n.digits, .int .i64 (jget (if o.op = 6 then o.pa else o.fr) v).1.n.exp, .str (jget (if o.op = 6 then o.pa else o.fr) v).1.s, .sl false 8 (lcells (jget (if o.op = 6 then o.pa else o.fr) v).1.l), .sl false 9 (mcells (jget (if o.op = 6 then o.pa else o.fr) v).1.m)]]) rfl ?_
      refine AWp_regL ?_
      refine zg3 ?_
      refine zt rfl (zc rfl (rsameP_c (jget (if o.op = 6 then o.pa else o.fr) v).1 o.v _ _ _ (vcells_eq _) (vcells_eq _) hwj hob.jb)) ?_
      refine zv1 ?_
      refine AWp_seq ?_
      refine zw2 ?_
      refine AWp_cond rfl (fun h8 => ?_) (fun h8 => ?_)
      ·(try rw [h8]); replace h8 := zcl h8
       have hs8 : ¬ (jget o.pa v).1 = o.v := by
        have h8' : pb ((jget (if o.op = 6 then o.pa else o.fr) v).1 = o.v) = false := by simpa using h8
        intro e; rw [if_pos h7, pb_t e] at h8'; cases h8'
       refine zw3 ?_
       refine AWp_boxLeO 2 (bs' := [.int .i64 vz.kind, .bool vz.b, .bool vz.n.neg, .str vz.n.digits, .int .i64 vz.n.exp, .str vz.s, .sl false 8 (lcells vz.l), .sl false 9 (mcells vz.m)]) rfl ⟨AVle.refl _, AVle.refl _, AVle.refl _, AVle.refl _, AVle.refl _, AVle.refl _, nilL, nilM, trivial⟩ ?_
       refine zrt ?_
       rw [jdo_t8 h1 hni hg0 h7 hs8, vcells_eq]
       exact RQ_ret (rkvs_cons (rkv_ck rfl rfl rfl) (rkvs_cons (rkv_t rfl) rfl)) hcl (by simp [rks, AV.lt, AV.ltL]) ⟨rfl, rfl⟩
      ·(try rw [h8]); replace h8 := zcl h8
       have hs0 : (jget o.pa v).1 = o.v := by
        have h8' : pb ((jget (if o.op = 6 then o.pa else o.fr) v).1 = o.v) = true := by simpa using h8
        rw [if_pos h7] at h8'; exact (pb_iff _).1 h8'
       refine AWp_skip ?_
       refine zw3 ?_
       refine zrt ?_
       rw [jdo_t0 h1 hni hg0 h7 hs0, vcells_eq]
       exact RQ_ret (rkvs_cons (rkv_ck rfl rfl rfl) (rkvs_cons (rkv_t rfl) rfl)) hcl (by simp [rks, AV.lt, AV.ltL]) ⟨rfl, rfl⟩
     ·(try rw [h7]); replace h7 := zcl h7
      refine AWp_skip ?_
      refine AWp_joinT (ι := JV) (fun u => jdo v o = jed 1 (jget (if o.op = 6 then o.pa else o.fr) v).1 o.pa u ∧ jb u) (fun u => ⟨[], [(2, .ptr (σ.length + 0) 0), (3, .ptr (σ.length + 1) 0), (4, .ptr (σ.length + 2) 0), (8, .ptr (σ.length + 3) 0)]⟩) (fun u => σ ++ [.box [.int .i64 u.kind, .bool u.b, .bool u.n.neg, .str u.n.digits, .int .i64 u.n.exp, .str u.s, .sl false 8 (lcells u.l), .sl false 9 (mcells u.m)], .box [.int .i64 o.op, .sl false 1 (srow o.pa), .sl false 1 (srow o.fr), .int .i64 o.v.kind, .bool o.v.b, .bool o.v.n.neg, .str o.v.n.digits, .int .i64 o.v.n.exp, .str o.v.s, .sl false 8 (lcells o.v.l), .sl false 9 (mcells o.v.m)], .box [.int .i64 0, .bool false, .bool false, .str ⟨#[]⟩, .int .i64 0, .str ⟨#[]⟩, .nils, .nils], .box [.int .i64 (jget (if o.op = 6 then o.pa else o.fr) v).1.kind, .bool (jget (if o.op = 6 then o.pa else o.fr) v).1.b, .bool (jget (if o.op = 6 then o.pa else o.fr) v).1.n.neg, .str (jget (if o.op = 6 then o.pa else o.fr) v).1.n.digits, .int .i64 (jget (if o.op = 6 then o.pa else o.fr) v).1.n.exp, .str (jget (if o.op = 6 then o.pa else o.fr) v).1.s, .sl false 8 (lcells (jget (if o.op = 6 then o.pa else o.fr) v).1.l), .sl false 9 (mcells (jget (if o.op = 6 then o.pa else o.fr) v).1.m)]]) ?_ (fun u hj => ?_)
      ·skip
       refine AWp_seq ?_
       refine AWp_heap (σ' := σ ++ [.box [.int .i64 v.kind, .bool v.b, .bool v.n.neg, .str v.n.digits, .int .i64 v.n.exp, .str v.s, .sl false 8 (lcells v.l), .sl false 9 (mcells v.m)], .box [.int .i64 o.op, .sl false 1 (srow o.pa), .sl false 1 (srow o.fr), .int .i64 o.v.kind, .bool o.v.b, .bool o.v.n.neg, .str o.v.n.digits, .int .i64 o.v.n.exp, .str o.v.s, .sl false 8 (lcells o.v.l), .sl false 9 (mcells o.v.m)], .box [.int .i64 0, .bool false, .bool false, .str ⟨#[]⟩, .int .i64 0, .str ⟨#[]⟩, .nils, .nils], .box [.int .i64 (jget (if o.op = 6 then o.pa else o.fr) v).1.kind, .bool (jget (if o.op = 6 then o.pa else o.fr) v).1.b, .bool (jget (if o.op = 6 then o.pa else o.fr) v).1.n.neg, .str (jget (if o.op = 6 then o.pa else o.fr) v).1.n.digits, .int .i64 (jget (if o.op = 6 then o.pa else o.fr) v).1.n.exp, .str (jget (if o.op = 6 then o.pa else o.fr) v).1.s, .sl false 8 (lcells (jget (if o.op = 6 then o.pa else o.fr) v).1.l), .sl false 9 (mcells (jget (if o.op = 6 then o.pa else o.fr) v).1.m)]]) rfl ?_
       refine AWp_regL ?_
       refine zv3 ?_
       refine AWp_cond rfl (fun h9 => ?_) (fun h9 => ?_)
       ·(try rw [h9]); replace h9 := zcl h9
        refine zu4 ?_
        refine zt rfl (zc rfl (rsn_c _ _ o.pa o.fr _ _ _ rfl rfl hb1 hb2 hob.pan hob.frn)) ?_
        refine zv1 ?_
        refine AWp_seq ?_
        refine zw1 ?_
        refine AWp_cond rfl (fun h10 => ?_) (fun h10 => ?_)
        ·(try rw [h10]); replace h10 := zcl h10
         refine zw3 ?_
         refine zrt ?_
         rw [jdo_stay h1 hni hg0 h7 h9 h10, vcells_eq]
         exact RQ_ret (rkvs_cons (rkv_ck rfl rfl rfl) (rkvs_cons (rkv_t rfl) rfl)) hcl (by simp [rks, AV.lt, AV.ltL]) ⟨rfl, rfl⟩
        ·(try rw [h10]); replace h10 := zcl h10
         refine AWp_skip ?_
         refine zu4 ?_
         refine zt rfl (zc rfl (redit2_c o.fr _ v _ _ hob.frn (vcells_eq v) hjb)) ?_
         rw [vcells_eq (jed 2 vz o.fr v).1]
         refine zv6 ?_
         refine AWp_seq ?_
         refine AWp_seq ?_
         refine AWp_heap (σ' := σ ++ [.box [.int .i64 v.kind, .bool v.b, .bool v.n.neg, .str v.n.digits, .int .i64 v.n.exp, .str v.s, .sl false 8 (lcells v.l), .sl false 9 (mcells v.m)], .box [.int .i64 o.op, .sl false 1 (srow o.pa), .sl false 1 (srow o.fr), .int .i64 o.v.kind, .bool o.v.b, .bool o.v.n.neg, .str o.v.n.digits, .int .i64 o.v.n.exp, .str o.v.s, .sl false 8 (lcells o.v.l), .sl false 9 (mcells o.v.m)], .box [.int .i64 0, .bool false, .bool false, .str ⟨#[]⟩, .int .i64 0, .str ⟨#[]⟩, .nils, .nils], .box [.int .i64 (jget (if o.op = 6 then o.pa else o.fr) v).1.kind, .bool (jget (if o.op = 6 then o.pa else o.fr) v).1.b, .bool (jget (if o.op = 6 then o.pa else o.fr) v).1.n.neg, .str (jget (if o.op = 6 then o.pa else o.fr) v).1.n.digits, .int .i64 (jget (if o.op = 6 then o.pa else o.fr) v).1.n.exp, .str (jget (if o.op = 6 then o.pa else o.fr) v).1.s, .sl false 8 (lcells (jget (if o.op = 6 then o.pa else o.fr) v).1.l), .sl false 9 (mcells (jget (if o.op = 6 then o.pa else o.fr) v).1.m)], .box [.int .i64 (jed 2 vz o.fr v).1.kind, .bool (jed 2 vz o.fr v).1.b, .bool (jed 2 vz o.fr v).1.n.neg, .str (jed 2 vz o.fr v).1.n.digits, .int .i64 (jed 2 vz o.fr v).1.n.exp, .str (jed 2 vz o.fr v).1.s, .sl false 8 (lcells (jed 2 vz o.fr v).1.l), .sl false 9 (mcells (jed 2 vz o.fr v).1.m)]]) rfl ?_
         refine AWp_regL ?_
         refine zv2 ?_
         refine AWp_cond rfl (fun h11 => ?_) (fun h11 => ?_)
         ·(try rw [h11]); replace h11 := zcl h11
          refine zw4 ?_
          refine AWp_boxLeO 2 (bs' := [.int .i64 vz.kind, .bool vz.b, .bool vz.n.neg, .str vz.n.digits, .int .i64 vz.n.exp, .str vz.s, .sl false 8 (lcells vz.l), .sl false 9 (mcells vz.m)]) rfl ⟨AVle.refl _, AVle.refl _, AVle.refl _, AVle.refl _, AVle.refl _, AVle.refl _, nilL, nilM, trivial⟩ ?_
          refine zrt ?_
          rw [jdo_rbad h1 hni hg0 h7 h9 h10 h11, vcells_eq]
          exact RQ_ret (rkvs_cons (rkv_ck rfl rfl rfl) (rkvs_cons (rkv_t rfl) rfl)) hcl (by simp [rks, AV.lt, AV.ltL]) ⟨rfl, rfl⟩
         ·(try rw [h11]); replace h11 := zcl h11
          refine AWp_skip ?_
          refine AWp_regL ?_
          refine zv2 ?_
          refine ⟨(jed 2 vz o.fr v).1, σ.length + 4, ⟨?_, (jed_jb (op := 2) (.inr (.inl rfl)) vz_jb0 o.fr hob.frn (by omega) hjb hst).1⟩, by simp, ⟨rfl, rfl, rfl, rfl, rfl, trivial⟩, closed_own 4 hcl ?_, ?_, ?_⟩
          ·rw [jdo_mv h1 hni hg0 h7 h9 h10 h11, if_neg h7]
          ·simp [ownLt, AO.cells, AV.ltL, AV.lt]
          ·simp [ltE, AV.lt, AV.ltL]
          ·exact take_own 4
       ·(try rw [h9]); replace h9 := zcl h9
        refine AWp_skip ?_
        refine ⟨v, σ.length + 4, ⟨?_, hjb⟩, by simp, ⟨rfl, rfl, rfl, rfl, rfl, trivial⟩, closed_own 4 hcl ?_, ?_, ?_⟩
        ·rw [jdo_cp h1 hni hg0 h7 h9, if_neg h7]
        ·simp [ownLt, AO.cells, AV.ltL, AV.lt]
        ·simp [ltE, AV.lt, AV.ltL]
        ·exact take_own 4
      ·skip
       obtain ⟨hj1, hj2⟩ := hj
       refine zu4 ?_
       refine zt rfl (zc rfl (redit_c 1 (jget (if o.op = 6 then o.pa else o.fr) v).1 _ (vcells_eq _) ⟨by decide, by decide⟩ o.pa _ u _ _ hob.pan (vcells_eq u) hj2)) ?_
       rw [vcells_eq (jed 1 (jget (if o.op = 6 then o.pa else o.fr) v).1 o.pa u).1]
       refine zv4 ?_
       refine zrt ?_
       rw [hj1, vcells_eq]
       exact RQ_ret (rkvs_cons (rkv_ck rfl rfl rfl) (rkvs_cons (rkv_t rfl) rfl)) hcl (by simp [rks, AV.lt, AV.ltL]) ⟨rfl, rfl⟩
end Lg
set_option maxRecDepth 20000
set_option maxHeartbeats 4000000
namespace Lg
open Go Go.Proofs Go.RowKit
variable [GLay] 
end Lg
set_option maxRecDepth 20000
set_option maxHeartbeats 4000000
namespace Lg
open Go Go.Proofs Go.RowKit
variable [GLay] 
end Lg
set_option maxRecDepth 20000
set_option maxHeartbeats 4000000
namespace Lg
open Go Go.Proofs Go.RowKit
variable [GLay] 
end Lg
set_option maxRecDepth 20000
set_option maxHeartbeats 4000000
namespace Lg
open Go Go.Proofs Go.RowKit
variable [GLay] 
end Lg
namespace Lg
open Go
variable [GLay] {σ : List AO}
end Lg
set_option maxRecDepth 20000
set_option maxHeartbeats 4000000
namespace Lg
open Go Go.Proofs Go.RowKit
variable [GLay] 
end Lg
set_option maxRecDepth 20000
set_option maxHeartbeats 4000000
namespace Lg
open Go Go.Proofs Go.RowKit
variable [GLay] 
end Lg
set_option maxRecDepth 20000
set_option maxHeartbeats 4000000
namespace Lg
open Go Go.Proofs Go.RowKit
variable [GLay] 
end Lg
set_option maxRecDepth 20000
set_option maxHeartbeats 4000000
namespace Lg
open Go Go.Proofs Go.RowKit
variable [GLay] 
theorem op_neCer {P : Program} {σ : List AO} {e : Env} {o : Oper} {T T' : TypeId} {x : Operand} {ms : Array (String × TypeId)} {k : Int} (ho : o.op = .binOp .neq T x (.const .nilIface) T') (hu : P.underlying T = some (.interface ms)) (hx : opO e x = some (cerJ k)) : AOp P σ e o (.bool (decide (¬ k = 0))) σ := by
  unfold cerJ at hx
  by_cases h : k = 0
  · rw [if_pos h] at hx; rw [decide_eq_false (fun z => z h)]; exact op_neINil ho hu hx
  · rw [if_neg h] at hx; rw [decide_eq_true h]; exact op_neIN ho hu hx
theorem cerJ_lt (n : Nat) (k : Int) : (cerJ k).lt n := by unfold cerJ; split <;> trivial
end Lg
set_option maxRecDepth 20000
set_option maxHeartbeats 4000000
namespace Lg
open Go Go.Proofs Go.RowKit
variable [GLay] 
theorem mv_c (o : JOp) (os : List AV) (hos : ocells o = os) (hob : OPB o) (v : JV) (cs : List AV) (σ : List AO) (hc : vcells v = cs) (hjb : jb v) (hst : jst v) (hsz : jsize v ≤ 3000) : ACalls Tryz.prog 77 [.agg cs, .agg os] σ (Ret (.tup [.agg (vcells (pmv v o).1), cerJ (pmv v o).2]) σ) := by
 refine ACalls_bodyC Tryz.func77 rfl Tryz.ntmps77 (by rw [Tryz.results77]; exact (.ck Tryz.isAgg28 Tryz.sizeOf28 (.t .nil))) (Nat.le_of_ble_eq_true rfl) (fun hcl hal => ?_)
 subst hc
 subst hos
 rw [vcells_eq v, ocells_eq o]
 have hpl := srow_len o.pa
 have hfl := srow_len o.fr
 have hb1 := hob.pa
 have hb2 := hob.fr
 refine zw4 ?_
 refine AWp_join (ι := Unit) (fun b => ¬ (o.fr.length < o.pa.length ∧ o.pa.take o.fr.length = o.fr)) (fun b => ⟨[], [(2, .ptr (σ.length + 0) 0), (3, .ptr (σ.length + 1) 0), (4, .ptr (σ.length + 2) 0)]⟩) (fun b => σ ++ [.box [.int .i64 v.kind, .bool v.b, .bool v.n.neg, .str v.n.digits, .int .i64 v.n.exp, .str v.s, .sl false 8 (lcells v.l), .sl false 9 (mcells v.m)], .box [.int .i64 o.op, .sl false 1 (srow o.pa), .sl false 1 (srow o.fr), .int .i64 o.v.kind, .bool o.v.b, .bool o.v.n.neg, .str o.v.n.digits, .int .i64 o.v.n.exp, .str o.v.s, .sl false 8 (lcells o.v.l), .sl false 9 (mcells o.v.m)], .box [.int .i64 0, .bool false, .bool false, .str ⟨#[]⟩, .int .i64 0, .str ⟨#[]⟩, .nils, .nils]]) ?_ (fun b hj => ?_)
 ·skip
  refine AWp_seq ?_
  refine AWp_drawL #[0, 1, 3, 0, 8, 24, 63, 127, 255, 511, 255, 1279, 3327, 8191, 255, 16639, 65535, 131071] Tryz.mixed (by decide +kernel) (by decide +kernel) ?_
  refine zd1 ?_
  refine zp1 ?_
  refine zd2 ?_
  refine zp1 ?_
  refine zd3 ?_
  refine zspr 16 rfl (fun h1 => ?_) fun h1 => ?_
  ·rw [h1]; replace h1 := zcl h1
   refine zd1 ?_
   refine zp1 ?_
   refine zd1 ?_
   refine zp1 ?_
   refine zd1 ?_
   refine yAG rfl rfl rfl (fun _ => (by first | exact op_sliceSl _ _ rfl Tryz.underlying31 Tryz.sizeOf9 rfl (by first | exact ⟨_, rfl⟩ | rfl) (by first | exact ⟨_, rfl⟩ | rfl) (by omega) (by omega) (by omega) | exact op_sliceArr _ _ rfl Tryz.underlying31 Tryz.sizeOf9 rfl GET (by first | exact ⟨_, rfl⟩ | rfl) (by first | exact ⟨_, rfl⟩ | rfl) (by omega) (by omega) (by omega))) ?_
   refine zd1 ?_
   refine zp1 ?_
   refine yPG rfl rfl rfl (zc rfl (seq_c _ _ (o.pa.take o.fr.length) o.fr _ _ _ (by rw [hfl]; simp [srow, List.map_take]) rfl (by rw [List.length_take]; omega) (by omega))) (trivial) ?_
   refine zd1 ?_
   refine RP.nil rfl ?_
   refine AWp_cond rfl (fun h2 => ?_) (fun h2 => ?_)
   ·(try rw [h2]); replace h2 := zcl h2
    refine zw4 ?_
    refine AWp_boxLeO 2 (bs' := [.int .i64 vz.kind, .bool vz.b, .bool vz.n.neg, .str vz.n.digits, .int .i64 vz.n.exp, .str vz.s, .sl false 8 (lcells vz.l), .sl false 9 (mcells vz.m)]) rfl ⟨AVle.refl _, AVle.refl _, AVle.refl _, AVle.refl _, AVle.refl _, AVle.refl _, nilL, nilM, trivial⟩ ?_
    refine zrt ?_
    rw [pmv_into ⟨by omega, h2⟩, vcells_eq]
    exact RQ_ret (rkvs_cons (rkv_ck rfl rfl rfl) (rkvs_cons (rkv_t rfl) rfl)) hcl (by simp [rks, AV.lt, AV.ltL]) ⟨rfl, rfl⟩
   ·(try rw [h2]); replace h2 := zcl h2
    refine AWp_skip ?_
    exact ⟨(), fun z => h2 z.2, ⟨rfl, rfl, rfl, rfl, trivial⟩, rfl⟩
  ·rw [h1]; replace h1 := zcl h1
   refine zd10 ?_
   refine RP.nil rfl ?_
   refine AWp_condF rfl ?_
   refine AWp_skip ?_
   exact ⟨(), fun z => by omega, ⟨rfl, rfl, rfl, rfl, trivial⟩, rfl⟩
 ·skip
  have hni := hj
  clear hj
  refine zu3 ?_
  refine zt rfl (zc rfl (pget_c o.fr _ v _ _ hb2 hob.frn (vcells_eq v) hjb)) ?_
  rw [vcells_eq (jget o.fr v).1]
  refine zv6 ?_
  refine AWp_seq ?_
  refine AWp_seq ?_
  refine AWp_heap (σ' := σ ++ [.box [.int .i64 v.kind, .bool v.b, .bool v.n.neg, .str v.n.digits, .int .i64 v.n.exp, .str v.s, .sl false 8 (lcells v.l), .sl false 9 (mcells v.m)], .box [.int .i64 o.op, .sl false 1 (srow o.pa), .sl false 1 (srow o.fr), .int .i64 o.v.kind, .bool o.v.b, .bool o.v.n.neg, .str o.v.n.digits, .int .i64 o.v.n.exp, .str o.v.s, .sl false 8 (lcells o.v.l), .sl false 9 (mcells o.v.m)], .box [.int .i64 0, .bool false, .bool false, .str ⟨#[]⟩, .int .i64 0, .str ⟨#[]⟩, .nils, .nils], .box [.int .i64 (jget o.fr v).1.kind, .bool (jget o.fr v).1.b, .bool (jget o.fr v).1.n.neg, .str (jget o.fr v).1.n.digits, .int .i64 (jget o.fr v).1.n.exp, .str (jget o.fr v).1.s, .sl false 8 (lcells (jget o.fr v).1.l), .sl false 9 (mcells (jget o.fr v).1.m)]]) rfl ?_
  refine AWp_regL ?_
  refine zg1 ?_
  refine zt rfl (op_neGerr rfl Tryz.underlying35 rfl) ?_
  refine zg1 ?_
  refine zsp 38 rfl (fun h3 => ?_) fun h3 => ?_
  ·rw [h3]; replace h3 := zcl h3
   have hg : (jget o.fr v).2 = false := by simpa using h3
   refine zv6 ?_
   refine AWp_condT rfl ?_
   refine zw4 ?_
   refine zrt ?_
   rw [pmv_none hni hg, vcells_eq, hg]
   exact RQ_ret (rkvs_cons (rkv_ck rfl rfl rfl) (rkvs_cons (rkv_t rfl) rfl)) hcl (by simp [rks, AV.lt, AV.ltL, gerr_lt]) ⟨rfl, rfl⟩
  ·rw [h3]; replace h3 := zcl h3
   have hg : (jget o.fr v).2 = true := by simpa using h3
   have hg0 : ¬ (jget o.fr v).2 = false := by rw [hg]; decide
   refine zg4 ?_
   refine ztG rfl rfl (zc rfl (seq_c _ _ o.pa o.fr _ _ _ rfl rfl (by omega) (by omega))) ?_
   refine zv1 ?_
   refine AWp_cond rfl (fun h4 => ?_) (fun h4 => ?_)
   ·(try rw [h4]); replace h4 := zcl h4
    refine zw4 ?_
    refine zrt ?_
    rw [pmv_stay hni hg0 h4, vcells_eq, hg]
    exact RQ_ret (rkvs_cons (rkv_ck rfl rfl rfl) (rkvs_cons (rkv_t rfl) rfl)) hcl (by simp [rks, AV.lt, AV.ltL, gerr_lt]) ⟨rfl, rfl⟩
   ·(try rw [h4]); replace h4 := zcl h4
    refine AWp_skip ?_
    refine zu3 ?_
    refine zt rfl (zc rfl (eremJ_c vz o.fr hob.frn hb2 _ v _ _ (vcells_eq v) hjb hst)) ?_
    rw [vcells_eq (jed 2 vz o.fr v).1]
    refine zv6 ?_
    refine AWp_seq ?_
    refine AWp_seq ?_
    have hr := jed_jb (op := 2) (.inr (.inl rfl)) vz_jb0 o.fr hob.frn (by omega : jsize v ≤ 10000) hjb hst
    have hrs := jed_st (op := 2) (.inr (.inl rfl)) st_vz o.fr hst
    refine AWp_heap (σ' := σ ++ [.box [.int .i64 v.kind, .bool v.b, .bool v.n.neg, .str v.n.digits, .int .i64 v.n.exp, .str v.s, .sl false 8 (lcells v.l), .sl false 9 (mcells v.m)], .box [.int .i64 o.op, .sl false 1 (srow o.pa), .sl false 1 (srow o.fr), .int .i64 o.v.kind, .bool o.v.b, .bool o.v.n.neg, .str o.v.n.digits, .int .i64 o.v.n.exp, .str o.v.s, .sl false 8 (lcells o.v.l), .sl false 9 (mcells o.v.m)], .box [.int .i64 0, .bool false, .bool false, .str ⟨#[]⟩, .int .i64 0, .str ⟨#[]⟩, .nils, .nils], .box [.int .i64 (jget o.fr v).1.kind, .bool (jget o.fr v).1.b, .bool (jget o.fr v).1.n.neg, .str (jget o.fr v).1.n.digits, .int .i64 (jget o.fr v).1.n.exp, .str (jget o.fr v).1.s, .sl false 8 (lcells (jget o.fr v).1.l), .sl false 9 (mcells (jget o.fr v).1.m)], .box [.int .i64 (jed 2 vz o.fr v).1.kind, .bool (jed 2 vz o.fr v).1.b, .bool (jed 2 vz o.fr v).1.n.neg, .str (jed 2 vz o.fr v).1.n.digits, .int .i64 (jed 2 vz o.fr v).1.n.exp, .str (jed 2 vz o.fr v).1.s, .sl false 8 (lcells (jed 2 vz o.fr v).1.l), .sl false 9 (mcells (jed 2 vz o.fr v).1.m)]]) rfl ?_
    refine AWp_regL ?_
    refine zg1 ?_
    refine zt rfl (op_neCer rfl Tryz.underlying35 rfl) ?_
    refine zon ?_
    refine AWp_cond rfl (fun h5 => ?_) (fun h5 => ?_)
    ·(try rw [h5]); replace h5 := zcl h5
     refine zw4 ?_
     refine AWp_boxLeO 2 (bs' := [.int .i64 vz.kind, .bool vz.b, .bool vz.n.neg, .str vz.n.digits, .int .i64 vz.n.exp, .str vz.s, .sl false 8 (lcells vz.l), .sl false 9 (mcells vz.m)]) rfl ⟨AVle.refl _, AVle.refl _, AVle.refl _, AVle.refl _, AVle.refl _, AVle.refl _, nilL, nilM, trivial⟩ ?_
     refine zrt ?_
     rw [pmv_rbad hni hg0 h4 h5, vcells_eq]
     exact RQ_ret (rkvs_cons (rkv_ck rfl rfl rfl) (rkvs_cons (rkv_t rfl) rfl)) hcl (by simp [rks, AV.lt, AV.ltL, cerJ_lt]) ⟨rfl, rfl⟩
    ·(try rw [h5]); replace h5 := zcl h5
     refine AWp_skip ?_
     refine zu4 ?_
     refine zt rfl (zc rfl (eaddJ_c (jget o.fr v).1 _ (vcells_eq _) o.pa hob.pan hb1 _ (jed 2 vz o.fr v).1 _ _ (vcells_eq _) hr.1 hrs)) ?_
     rw [vcells_eq (jed 1 (jget o.fr v).1 o.pa (jed 2 vz o.fr v).1).1]
     refine zv4 ?_
     refine zrt ?_
     rw [pmv_mv hni hg0 h4 h5, vcells_eq]
     exact RQ_ret (rkvs_cons (rkv_ck rfl rfl rfl) (rkvs_cons (rkv_t rfl) rfl)) hcl (by simp [rks, AV.lt, AV.ltL, cerJ_lt]) ⟨rfl, rfl⟩

theorem tst_c (o : JOp) (os : List AV) (hos : ocells o = os) (hob : OPB o) (v : JV) (cs : List AV) (σ : List AO) (hc : vcells v = cs) (hjb : jb v) (hst : jst v) (hsz : jsize v ≤ 3000) : ACalls Tryz.prog 79 [.agg cs, .agg os] σ (Ret (.tup [.agg (vcells (pts v o).1), cerJ (pts v o).2]) σ) := by
 refine ACalls_bodyC Tryz.func79 rfl Tryz.ntmps79 (by rw [Tryz.results79]; exact (.ck Tryz.isAgg28 Tryz.sizeOf28 (.t .nil))) (Nat.le_of_ble_eq_true rfl) (fun hcl hal => ?_)
 subst hc
 subst hos
 rw [vcells_eq v, ocells_eq o]
 have hpl := srow_len o.pa
 have hfl := srow_len o.fr
 have hb1 := hob.pa
 have hb2 := hob.fr
 refine zw4 ?_
 refine zu3 ?_
 refine zt rfl (zc rfl (pget_c o.pa _ v _ _ hb1 hob.pan (vcells_eq v) hjb)) ?_
 rw [vcells_eq (jget o.pa v).1]
 refine zv6 ?_
 refine AWp_join (ι := Unit) (fun b => True) (fun b => ⟨[], [(2, .ptr (σ.length + 0) 0), (3, .ptr (σ.length + 1) 0), (4, .ptr (σ.length + 2) 0), (7, cerJ (pts v o).2)]⟩) (fun b => σ ++ [.box [.int .i64 v.kind, .bool v.b, .bool v.n.neg, .str v.n.digits, .int .i64 v.n.exp, .str v.s, .sl false 8 (lcells v.l), .sl false 9 (mcells v.m)], .box [.int .i64 o.op, .sl false 1 (srow o.pa), .sl false 1 (srow o.fr), .int .i64 o.v.kind, .bool o.v.b, .bool o.v.n.neg, .str o.v.n.digits, .int .i64 o.v.n.exp, .str o.v.s, .sl false 8 (lcells o.v.l), .sl false 9 (mcells o.v.m)], .box [.int .i64 0, .bool false, .bool false, .str ⟨#[]⟩, .int .i64 0, .str ⟨#[]⟩, .nils, .nils], .box [.int .i64 (jget o.pa v).1.kind, .bool (jget o.pa v).1.b, .bool (jget o.pa v).1.n.neg, .str (jget o.pa v).1.n.digits, .int .i64 (jget o.pa v).1.n.exp, .str (jget o.pa v).1.s, .sl false 8 (lcells (jget o.pa v).1.l), .sl false 9 (mcells (jget o.pa v).1.m)]]) ?_ (fun b hj => ?_)
 ·skip
  refine AWp_seq ?_
  refine AWp_heap (σ' := σ ++ [.box [.int .i64 v.kind, .bool v.b, .bool v.n.neg, .str v.n.digits, .int .i64 v.n.exp, .str v.s, .sl false 8 (lcells v.l), .sl false 9 (mcells v.m)], .box [.int .i64 o.op, .sl false 1 (srow o.pa), .sl false 1 (srow o.fr), .int .i64 o.v.kind, .bool o.v.b, .bool o.v.n.neg, .str o.v.n.digits, .int .i64 o.v.n.exp, .str o.v.s, .sl false 8 (lcells o.v.l), .sl false 9 (mcells o.v.m)], .box [.int .i64 0, .bool false, .bool false, .str ⟨#[]⟩, .int .i64 0, .str ⟨#[]⟩, .nils, .nils], .box [.int .i64 (jget o.pa v).1.kind, .bool (jget o.pa v).1.b, .bool (jget o.pa v).1.n.neg, .str (jget o.pa v).1.n.digits, .int .i64 (jget o.pa v).1.n.exp, .str (jget o.pa v).1.s, .sl false 8 (lcells (jget o.pa v).1.l), .sl false 9 (mcells (jget o.pa v).1.m)]]) rfl ?_
  refine AWp_regL ?_
  refine zg1 ?_
  refine zt rfl (op_eqGerr rfl Tryz.underlying35 rfl) ?_
  refine zg1 ?_
  refine zsp 17 rfl (fun h1 => ?_) fun h1 => ?_
  ·rw [h1]; replace h1 := zcl h1
   refine zg3 ?_
   refine ztG rfl rfl (zc rfl (psameP_c (jget o.pa v).1 o.v _ _ _ (vcells_eq _) (vcells_eq _) (jget_jb o.pa hjb) hob.jb)) ?_
   refine zv2 ?_
   refine AWp_cond rfl (fun h2 => ?_) (fun h2 => ?_)
   ·(try rw [h2]); replace h2 := zcl h2
    refine AWp_regL ?_
    refine zv2 ?_
    rw [pts_8 (by rw [h1]; decide) (fun e => by rw [pb_t e] at h2; cases h2)]
    exact ⟨(), trivial, ⟨rfl, rfl, rfl, rfl, rfl, trivial⟩, rfl⟩
   ·(try rw [h2]); replace h2 := zcl h2
    refine AWp_skip ?_
    rw [pts_0 (by rw [h1]; decide) ((pb_iff _).1 (by simpa using h2))]
    exact ⟨(), trivial, ⟨rfl, rfl, rfl, rfl, rfl, trivial⟩, rfl⟩
  ·rw [h1]; replace h1 := zcl h1
   refine zv6 ?_
   refine AWp_condF rfl ?_
   refine AWp_skip ?_
   rw [pts_6 h1]
   exact ⟨(), trivial, ⟨rfl, rfl, rfl, rfl, rfl, trivial⟩, rfl⟩
 ·skip
  refine zw4 ?_
  refine zrt ?_
  rw [show (pts v o).1 = v from rfl, vcells_eq]
  exact RQ_ret (rkvs_cons (rkv_ck rfl rfl rfl) (rkvs_cons (rkv_t rfl) rfl)) hcl (by simp [rks, AV.lt, AV.ltL, cerJ_lt]) ⟨rfl, rfl⟩

theorem pdo_c (o : JOp) (os : List AV) (hos : ocells o = os) (hob : OPB o) (v : JV) (cs : List AV) (σ : List AO) (hc : vcells v = cs) (hjb : jb v) (hst : jst v) (hsz : jsize v ≤ 3000) : ACalls Tryz.prog 53 [.agg cs, .agg os] σ (Ret (.tup [.agg (vcells (pdo v o).1), cerJ (pdo v o).2]) σ) := by
 refine ACalls_bodyC Tryz.func53 rfl Tryz.ntmps53 (by rw [Tryz.results53]; exact (.ck Tryz.isAgg28 Tryz.sizeOf28 (.t .nil))) (Nat.le_of_ble_eq_true rfl) (fun hcl hal => ?_)
 subst hc
 subst hos
 rw [vcells_eq v, ocells_eq o]
 have hpl := srow_len o.pa
 have hfl := srow_len o.fr
 have hb1 := hob.pa
 have hb2 := hob.fr
 have hlo := hob.lo
 have hhi := hob.hi
 refine zw4 ?_
 refine AWp_seq ?_
 refine zw2 ?_
 refine AWp_block ?_
 refine zw2 ?_
 refine AWp_cond rfl (fun h1 => ?_) (fun h1 => ?_)
 ·(try rw [h1]); replace h1 := zcl h1
  refine zu5 ?_
  refine zt rfl (zc rfl (eaddJ_c o.v _ (vcells_eq o.v) o.pa hob.pan hb1 _ v _ _ (vcells_eq v) hjb hst)) ?_
  rw [vcells_eq (jed 1 o.v o.pa v).1]
  refine zv4 ?_
  refine zrt ?_
  rw [pdo_1 h1, vcells_eq]
  exact RQ_ret (rkvs_cons (rkv_ck rfl rfl rfl) (rkvs_cons (rkv_t rfl) rfl)) hcl (by simp [rks, AV.lt, AV.ltL, cerJ_lt]) ⟨rfl, rfl⟩
 ·(try rw [h1]); replace h1 := zcl h1
  refine zw2 ?_
  refine AWp_cond rfl (fun h2 => ?_) (fun h2 => ?_)
  ·(try rw [h2]); replace h2 := zcl h2
   refine zu3 ?_
   refine zt rfl (zc rfl (eremJ_c o.v o.pa hob.pan hb1 _ v _ _ (vcells_eq v) hjb hst)) ?_
   rw [vcells_eq (jed 2 o.v o.pa v).1]
   refine zv4 ?_
   refine zrt ?_
   rw [pdo_2 h2, vcells_eq]
   exact RQ_ret (rkvs_cons (rkv_ck rfl rfl rfl) (rkvs_cons (rkv_t rfl) rfl)) hcl (by simp [rks, AV.lt, AV.ltL, cerJ_lt]) ⟨rfl, rfl⟩
  ·(try rw [h2]); replace h2 := zcl h2
   refine zw2 ?_
   refine AWp_cond rfl (fun h3 => ?_) (fun h3 => ?_)
   ·(try rw [h3]); replace h3 := zcl h3
    refine zu5 ?_
    refine zt rfl (zc rfl (erepJ_c o.v _ (vcells_eq o.v) o.pa hob.pan _ v _ _ (vcells_eq v) hjb hst)) ?_
    rw [vcells_eq (jed 3 o.v o.pa v).1]
    refine zv4 ?_
    refine zrt ?_
    rw [pdo_3 h3, vcells_eq]
    exact RQ_ret (rkvs_cons (rkv_ck rfl rfl rfl) (rkvs_cons (rkv_t rfl) rfl)) hcl (by simp [rks, AV.lt, AV.ltL, cerJ_lt]) ⟨rfl, rfl⟩
   ·(try rw [h3]); replace h3 := zcl h3
    refine zw2 ?_
    refine AWp_cond rfl (fun h4 => ?_) (fun h4 => ?_)
    ·(try rw [h4]); replace h4 := zcl h4
     refine zu2 ?_
     refine zt rfl (zc rfl (mv_c o _ (ocells_eq o) hob v _ _ (vcells_eq v) hjb hst hsz)) ?_
     rw [vcells_eq (pmv v o).1]
     refine zv4 ?_
     refine zrt ?_
     rw [pdo_4 h4, vcells_eq]
     exact RQ_ret (rkvs_cons (rkv_ck rfl rfl rfl) (rkvs_cons (rkv_t rfl) rfl)) hcl (by simp [rks, AV.lt, AV.ltL, cerJ_lt]) ⟨rfl, rfl⟩
    ·(try rw [h4]); replace h4 := zcl h4
     refine zw2 ?_
     refine AWp_cond rfl (fun h5 => ?_) (fun h5 => ?_)
     ·(try rw [h5]); replace h5 := zcl h5
      refine zu3 ?_
      refine zt rfl (zc rfl (pget_c o.fr _ v _ _ hb2 hob.frn (vcells_eq v) hjb)) ?_
      rw [vcells_eq (jget o.fr v).1]
      refine zv6 ?_
      refine AWp_seq ?_
      refine AWp_seq ?_
      refine AWp_heap (σ' := σ ++ [.box [.int .i64 v.kind, .bool v.b, .bool v.n.neg, .str v.n.digits, .int .i64 v.n.exp, .str v.s, .sl false 8 (lcells v.l), .sl false 9 (mcells v.m)], .box [.int .i64 o.op, .sl false 1 (srow o.pa), .sl false 1 (srow o.fr), .int .i64 o.v.kind, .bool o.v.b, .bool o.v.n.neg, .str o.v.n.digits, .int .i64 o.v.n.exp, .str o.v.s, .sl false 8 (lcells o.v.l), .sl false 9 (mcells o.v.m)], .box [.int .i64 0, .bool false, .bool false, .str ⟨#[]⟩, .int .i64 0, .str ⟨#[]⟩, .nils, .nils], .box [.int .i64 (jget o.fr v).1.kind, .bool (jget o.fr v).1.b, .bool (jget o.fr v).1.n.neg, .str (jget o.fr v).1.n.digits, .int .i64 (jget o.fr v).1.n.exp, .str (jget o.fr v).1.s, .sl false 8 (lcells (jget o.fr v).1.l), .sl false 9 (mcells (jget o.fr v).1.m)]]) rfl ?_
      refine AWp_regL ?_
      refine zg1 ?_
      refine zt rfl (op_neGerr rfl Tryz.underlying35 rfl) ?_
      refine zon ?_
      refine AWp_cond rfl (fun h6 => ?_) (fun h6 => ?_)
      ·(try rw [h6]); replace h6 := zcl h6
       have hg : (jget o.fr v).2 = false := by simpa using h6
       refine zw4 ?_
       refine AWp_boxLeO 2 (bs' := [.int .i64 vz.kind, .bool vz.b, .bool vz.n.neg, .str vz.n.digits, .int .i64 vz.n.exp, .str vz.s, .sl false 8 (lcells vz.l), .sl false 9 (mcells vz.m)]) rfl ⟨AVle.refl _, AVle.refl _, AVle.refl _, AVle.refl _, AVle.refl _, AVle.refl _, nilL, nilM, trivial⟩ ?_
       refine zrt ?_
       rw [pdo_5n h5 hg, vcells_eq, hg]
       exact RQ_ret (rkvs_cons (rkv_ck rfl rfl rfl) (rkvs_cons (rkv_t rfl) rfl)) hcl (by simp [rks, AV.lt, AV.ltL, gerr_lt]) ⟨rfl, rfl⟩
      ·(try rw [h6]); replace h6 := zcl h6
       have hg : ¬ (jget o.fr v).2 = false := by simpa using h6
       refine AWp_skip ?_
       refine zu4 ?_
       refine zt rfl (zc rfl (eaddJ_c (jget o.fr v).1 _ (vcells_eq _) o.pa hob.pan hb1 _ v _ _ (vcells_eq v) hjb hst)) ?_
       rw [vcells_eq (jed 1 (jget o.fr v).1 o.pa v).1]
       refine zv4 ?_
       refine zrt ?_
       rw [pdo_5 h5 hg, vcells_eq]
       exact RQ_ret (rkvs_cons (rkv_ck rfl rfl rfl) (rkvs_cons (rkv_t rfl) rfl)) hcl (by simp [rks, AV.lt, AV.ltL, cerJ_lt]) ⟨rfl, rfl⟩
     ·(try rw [h5]); replace h5 := zcl h5
      refine AWp_skip ?_
      refine zu2 ?_
      refine zt rfl (zc rfl (tst_c o _ (ocells_eq o) hob v _ _ (vcells_eq v) hjb hst hsz)) ?_
      rw [vcells_eq (pts v o).1]
      refine zv4 ?_
      refine zrt ?_
      rw [pdo_6 (by omega), vcells_eq]
      exact RQ_ret (rkvs_cons (rkv_ck rfl rfl rfl) (rkvs_cons (rkv_t rfl) rfl)) hcl (by simp [rks, AV.lt, AV.ltL, cerJ_lt]) ⟨rfl, rfl⟩
end Lg
set_option maxRecDepth 100000
namespace Lg
open Go Go.Proofs Go.RowKit Go.Extern.Stop Go.Stop Go.Extern
theorem a9_valueOf27 (t : Addr) (w : World) : (ReflectliteValue.unpack (.iface 86 (.pointer (some t)))).run Tryz.prog w
    = .ok (.agg #[.pointer (some ⟨9, 86, none⟩), .pointer (some ⟨w.heap.size, 0, none⟩), .int .u64 150]) (w.alloc (.cells #[.pointer (some t)] 86)) := by kernel_rfl
theorem a9_type27 (a : Addr) (w : World) : (ReflectliteValue.methodAny (ReflectliteValue.valueError "reflectlite.Value.Type" 0) (fun t _ _ _ => ReflectliteType.toType t) #[.agg #[.pointer (some ⟨9, 86, none⟩), .pointer (some a), .int .u64 150]]).run Tryz.prog w
    = .ok (.iface 152 (.agg #[.pointer (some ⟨9, 86, none⟩)])) w := by kernel_rfl
theorem a9_methodKind (h : Value) (w : World) : (Go.method 386 152 (.agg #[h]) "Kind").run Tryz.prog w = .ok (240, h) w := by kernel_rfl
theorem a9_kind27 (w : World) : ((ReflectliteType.abiMethod fun t => (fun a : Nat => Value.int IntKind.u8 (a : Int)) <$> Rtype.kind t) #[.pointer (some ⟨9, 86, none⟩)]).run Tryz.prog w = .ok (.int .u8 22) w := by kernel_rfl
theorem a9_kind25 (w : World) : ((ReflectliteType.abiMethod fun t => (fun a : Nat => Value.int IntKind.u8 (a : Int)) <$> Rtype.kind t) #[.pointer (some ⟨9, 69, none⟩)]).run Tryz.prog w = .ok (.int .u8 2) w := by kernel_rfl

theorem rlm (z : Sem Value) (f : TypeId → Addr → Nat → Nat → Sem Value) (v : Value) :
    ReflectliteValue.method z f #[v] = (do match ← ReflectliteValue.parts v with | none => z | some (t, a, fl) => f t a fl (fl % 32)) := rfl
theorem a9_parts27 (a : Addr) (w : World) : (ReflectliteValue.parts (.agg #[.pointer (some ⟨9, 86, none⟩), .pointer (some a), .int .u64 150])).run Tryz.prog w = .ok (some (86, a, 150)) w := by kernel_rfl
theorem a9_isNil27 (a p : Addr) (W : World) (ha : W.cell? a = some (.pointer (some p))) :
    (ReflectliteValue.method (ReflectliteValue.valueError "reflectlite.Value.IsNil" 0) ReflectliteValue.isNil #[.agg #[.pointer (some ⟨9, 86, none⟩), .pointer (some a), .int .u64 150]]).run Tryz.prog W = .ok (.bool false) W := by
  rw [rlm]
  simp only [Sem.run_bind, a9_parts27, Result.andThen]
  simp [ReflectliteValue.isNil, loadVar, isAgg, underlying, Tryz.underlying86, ha, Result.andThen]

theorem a9_methodElem (h : Value) (w : World) : (Go.method 386 152 (.agg #[h]) "Elem").run Tryz.prog w = .ok (253, .agg #[h]) w := by kernel_rfl
theorem a9_methodImplements (h : Value) (w : World) : (Go.method 386 152 (.agg #[h]) "Implements").run Tryz.prog w = .ok (254, .agg #[h]) w := by kernel_rfl
theorem a9_methodAssignableTo (h : Value) (w : World) : (Go.method 386 152 (.agg #[h]) "AssignableTo").run Tryz.prog w = .ok (251, .agg #[h]) w := by kernel_rfl
theorem a9_elem27 (w : World) : (ReflectliteType.method ReflectliteType.elem #[.agg #[.pointer (some ⟨9, 86, none⟩)]]).run Tryz.prog w = .ok (.iface 152 (.agg #[.pointer (some ⟨9, 69, none⟩)])) w := by kernel_rfl
theorem a9_implements25 (w : World) : (ReflectliteType.relation "Implements" ReflectliteType.implements_ #[.agg #[.pointer (some ⟨9, 69, none⟩)], .iface 152 (.agg #[.pointer (some ⟨9, 35, none⟩)])]).run Tryz.prog w = .ok (.bool true) w := by kernel_rfl
theorem a9_typeOf25 (v : Value) (w : World) : (ReflectliteType.typeOf #[.iface 69 v]).run Tryz.prog w = .ok (.iface 152 (.agg #[.pointer (some ⟨9, 69, none⟩)])) w := by kernel_rfl
theorem a9_assignable25 (w : World) : (ReflectliteType.relation "AssignableTo" ReflectliteType.assignableTo #[.agg #[.pointer (some ⟨9, 69, none⟩)], .iface 152 (.agg #[.pointer (some ⟨9, 69, none⟩)])]).run Tryz.prog w = .ok (.bool true) w := by kernel_rfl
theorem a9_valueOf25 (e : Int) (w : World) : (ReflectliteValue.unpack (.iface 69 (.int .i64 e))).run Tryz.prog w
    = .ok (.agg #[.pointer (some ⟨9, 69, none⟩), .pointer (some ⟨w.heap.size, 0, none⟩), .int .u64 130]) (w.alloc (.cells #[.int .i64 e] 69)) := by kernel_rfl

theorem a9_elemOf27 (w : World) : (Rtype.elem? 86).run Tryz.prog w = .ok (some 69) w := by kernel_rfl
theorem a9_mk25 (p : Addr) (w : World) : (ReflectliteValue.mk 69 p ReflectliteValue.flagAddr).run Tryz.prog w = .ok (.agg #[.pointer (some ⟨9, 69, none⟩), .pointer (some p), .int .u64 386]) w := by kernel_rfl
theorem a9_elemV27 (a p : Addr) (W : World) (ha : W.cell? a = some (.pointer (some p))) :
    (ReflectliteValue.method (ReflectliteValue.valueError "reflectlite.Value.Elem" 0) ReflectliteValue.elem #[.agg #[.pointer (some ⟨9, 86, none⟩), .pointer (some a), .int .u64 150]]).run Tryz.prog W
      = .ok (.agg #[.pointer (some ⟨9, 69, none⟩), .pointer (some p), .int .u64 386]) W := by
  rw [rlm]
  simp only [Sem.run_bind, a9_parts27, Result.andThen]
  simp [ReflectliteValue.elem, loadVar, isAgg, underlying, Tryz.underlying86, ha, Result.andThen, a9_elemOf27, a9_mk25]
theorem rls (v x : Value) : ReflectliteValue.set #[v, x] = (do
    let (some (dst, a, fl), some (src, b, _)) := (← ReflectliteValue.parts v, ← ReflectliteValue.parts x)
      | unsupported (.noEntry "extern/(internal/reflectlite.Value).Set.zeroValue")
    if fl / ReflectliteValue.flagAddr % 2 == 0 then unsupported (.noEntry "extern/(internal/reflectlite.Value).Set.unaddressable")
    let val ← loadVar src b
    if ← Rtype.directlyAssignable dst src then storeVar dst a val
    else if ← Rtype.implements dst src then
      if (← Rtype.kind src) == 20 then
        match val with
        | .nilIface => unsupported (.noEntry "extern/reflectlite: a nil value of one interface type handed on as a value of another")
        | _ => storeVar dst a val
      else storeVar dst a (.iface src val)
    else panicString ("reflectlite.Set: value of type " ++ (← Rtype.spelt src) ++ " is not assignable to type " ++ (← Rtype.spelt dst))
    pure (.tuple #[])) := rfl
theorem a9_parts25a (a : Addr) (w : World) : (ReflectliteValue.parts (.agg #[.pointer (some ⟨9, 69, none⟩), .pointer (some a), .int .u64 386])).run Tryz.prog w = .ok (some (69, a, 386)) w := by kernel_rfl
theorem a9_parts25 (a : Addr) (w : World) : (ReflectliteValue.parts (.agg #[.pointer (some ⟨9, 69, none⟩), .pointer (some a), .int .u64 130])).run Tryz.prog w = .ok (some (69, a, 130)) w := by kernel_rfl
theorem a9_direct25 (w : World) : (Rtype.directlyAssignable 69 69).run Tryz.prog w = .ok true w := by kernel_rfl
theorem a9_set25 (ta b : Addr) (e : Int) (old : Value) (W : World) (hb : W.cell? b = some (.int .i64 e)) (ht : W.cell? ta = some old) (hf : W.frozen? ta = false) :
    (ReflectliteValue.set #[.agg #[.pointer (some ⟨9, 69, none⟩), .pointer (some ta), .int .u64 386], .agg #[.pointer (some ⟨9, 69, none⟩), .pointer (some b), .int .u64 130]]).run Tryz.prog W
      = .ok (.tuple #[]) (W.setCell ta (.int .i64 e)) := by
  rw [rls]
  simp only [Sem.run_bind, a9_parts25a, a9_parts25, Result.andThen]
  simp [ReflectliteValue.flagAddr, loadVar, isAgg, underlying, Tryz.underlying69, hb, Result.andThen, a9_direct25, storeVar, Value.cells, storeCells, Addr.add]
  rw [run_store Tryz.prog W ta _ _ (by rfl)]
  simp [ht, hf]

set_option maxHeartbeats 4000000 in
theorem as_hit (e : Int) (t : Addr) (old : Value) (w : World) (hg : w.cell? ⟨0, 0, none⟩ = some (.iface 152 (.agg #[.pointer (some ⟨9, 35, none⟩)]))) (ht0 : w.cell? t = some old) (hf0 : w.frozen? t = false) :
    Calls Tryz.prog 56 #[.iface 69 (.int .i64 e), .iface 86 (.pointer (some t))] w fun ev w' => ev = .returned (.bool true) ∧ w' = ((((w.alloc (.cells #[.pointer (some t)] 86)).alloc (.cells #[.pointer (some ⟨9, 86, none⟩), .pointer (some ⟨w.heap.size, 0, none⟩), .int .u64 150] 123)).alloc (.cells #[.pointer (some ⟨9, 86, none⟩), .pointer (some ⟨w.heap.size, 0, none⟩), .int .u64 150] 123)).alloc (.cells #[.int .i64 e] 69)).setCell t (.int .i64 e) := by
  have h6 := @run_callFunc_extern Tryz.prog 80 _ (fun args => ReflectliteValue.unpack (args.getD 0 (.tuple #[]))) Tryz.func80 (by kernel_rfl) (by kernel_rfl) (by kernel_rfl) (by kernel_rfl)
  have h7 := @run_callFunc_extern Tryz.prog 81 _ (ReflectliteValue.methodAny (ReflectliteValue.valueError "reflectlite.Value.Type" 0) (fun t _ _ _ => ReflectliteType.toType t)) Tryz.func81 (by kernel_rfl) (by kernel_rfl) (by kernel_rfl) (by kernel_rfl)
  have h8 := @run_callFunc_extern Tryz.prog 82 _ (ReflectliteValue.method (ReflectliteValue.valueError "reflectlite.Value.IsNil" 0) ReflectliteValue.isNil) Tryz.func82 (by kernel_rfl) (by kernel_rfl) (by kernel_rfl) (by kernel_rfl)
  have h27 := @run_callFunc_extern Tryz.prog 240 _ (ReflectliteType.abiMethod fun t => do pure (.int .u8 (← Rtype.kind t))) Tryz.func240 (by kernel_rfl) (by kernel_rfl) (by kernel_rfl) (by kernel_rfl)
  have h37 := @run_callFunc_extern Tryz.prog 253 _ (ReflectliteType.method ReflectliteType.elem) Tryz.func253 (by kernel_rfl) (by kernel_rfl) (by kernel_rfl) (by kernel_rfl)
  have h38 := @run_callFunc_extern Tryz.prog 254 _ (ReflectliteType.relation "Implements" ReflectliteType.implements_) Tryz.func254 (by kernel_rfl) (by kernel_rfl) (by kernel_rfl) (by kernel_rfl)
  have h10 := @run_callFunc_extern Tryz.prog 115 _ ReflectliteType.typeOf Tryz.func115 (by kernel_rfl) (by kernel_rfl) (by kernel_rfl) (by kernel_rfl)
  have h35 := @run_callFunc_extern Tryz.prog 251 _ (ReflectliteType.relation "AssignableTo" ReflectliteType.assignableTo) Tryz.func251 (by kernel_rfl) (by kernel_rfl) (by kernel_rfl) (by kernel_rfl)
  have h11 := @run_callFunc_extern Tryz.prog 116 _ (ReflectliteValue.method (ReflectliteValue.valueError "reflectlite.Value.Elem" 0) ReflectliteValue.elem) Tryz.func116 (by kernel_rfl) (by kernel_rfl) (by kernel_rfl) (by kernel_rfl)
  have h12 := @run_callFunc_extern Tryz.prog 117 _ ReflectliteValue.set Tryz.func117 (by kernel_rfl) (by kernel_rfl) (by kernel_rfl) (by kernel_rfl)
  have tO := a9_typeOf25
  have mA := a9_methodAssignableTo
  have a25 := a9_assignable25
  have v25 := a9_valueOf25
  have f6 := a9_valueOf27
  have f7 := a9_type27
  have mK := a9_methodKind
  have mE := a9_methodElem
  have mI := a9_methodImplements
  have k27 := a9_kind27
  have k25 := a9_kind25
  have e27 := a9_elem27
  have i25 := a9_implements25
  have n8 := a9_isNil27 ⟨w.heap.size, 0, none⟩ t ((w.alloc (.cells #[.pointer (some t)] 86)).alloc (.cells #[.pointer (some ⟨9, 86, none⟩), .pointer (some ⟨w.heap.size, 0, none⟩), .int .u64 150] 123)) (by simp)
  have hlt : 0 < w.heap.size := by
    rcases Nat.eq_zero_or_pos w.heap.size with h0 | h
    · simp [World.cell?, h0] at hg
    · exact h
  have hg2 : ((w.alloc (.cells #[.pointer (some t)] 86)).alloc (.cells #[.pointer (some ⟨9, 86, none⟩), .pointer (some ⟨w.heap.size, 0, none⟩), .int .u64 150] 123)).cell? ⟨0, 0, none⟩ = some (.iface 152 (.agg #[.pointer (some ⟨9, 35, none⟩)])) := by
    rw [World.cell?_alloc_lt _ _ ⟨0, 0, none⟩ (by simp), World.cell?_alloc_lt _ _ ⟨0, 0, none⟩ hlt]; exact hg
  have htl : t.block < w.heap.size := by
    rcases Nat.lt_or_ge t.block w.heap.size with h | h
    · exact h
    · simp [World.cell?, Array.getElem?_eq_none h] at ht0
  have el := a9_elemV27 ⟨w.heap.size, 0, none⟩ t (((w.alloc (.cells #[.pointer (some t)] 86)).alloc (.cells #[.pointer (some ⟨9, 86, none⟩), .pointer (some ⟨w.heap.size, 0, none⟩), .int .u64 150] 123)).alloc (.cells #[.pointer (some ⟨9, 86, none⟩), .pointer (some ⟨w.heap.size, 0, none⟩), .int .u64 150] 123)) (by rw [World.cell?_alloc_lt _ _ ⟨w.heap.size, 0, none⟩ (by simp; omega)]; simp)
  have st := a9_set25 t ⟨w.heap.size + 1 + 1 + 1, 0, none⟩ e old ((((w.alloc (.cells #[.pointer (some t)] 86)).alloc (.cells #[.pointer (some ⟨9, 86, none⟩), .pointer (some ⟨w.heap.size, 0, none⟩), .int .u64 150] 123)).alloc (.cells #[.pointer (some ⟨9, 86, none⟩), .pointer (some ⟨w.heap.size, 0, none⟩), .int .u64 150] 123)).alloc (.cells #[.int .i64 e] 69))
    (by rw [World.cell?_alloc_at _ _ _ _ (by simp)]; rfl)
    (by rw [World.cell?_alloc_lt _ _ t (by simp; omega), World.cell?_alloc_lt _ _ t (by simp; omega), World.cell?_alloc_lt _ _ t (by simp; omega), World.cell?_alloc_lt _ _ t htl]; exact ht0)
    (by rw [World.frozen?_alloc_old _ _ t (by simp; omega), World.frozen?_alloc_old _ _ t (by simp; omega), World.frozen?_alloc_old _ _ t (by simp; omega), World.frozen?_alloc_old _ _ t (Nat.ne_of_lt htl)]; exact hf0)
  go_enter Tryz.func56, Tryz.ntmps56
  go_wp2
  refine wp_loop_rounds 1 ?_
  rw [rounds_succ]
  go_wp2
  go_ret
  exact ⟨rfl, rfl⟩
end Lg
namespace Lg
open Go Go.Proofs Go.RowKit
class ET [GLay] : Prop where
  cell : ∀ w : World, Laid w → w.cell? ⟨0, 0, none⟩ = some (.iface 152 (.agg #[.pointer (some ⟨9, 35, none⟩)]))
theorem ET.of [g : GLay] {W : World} (hc : W.cell? ⟨0, 0, none⟩ = some (.iface 152 (.agg #[.pointer (some ⟨9, 35, none⟩)]))) (hg : ∀ b, g.f b = W.heap[b]?) : ET := ⟨fun w hl => by
  cases h : W.heap[0]? with
  | none => simp [World.cell?, h] at hc
  | some ob =>
    have h1 := hl 0 ob ((hg 0).trans h)
    unfold World.cell? at hc ⊢
    simp only at hc ⊢
    rw [h1]; rw [h] at hc; exact hc⟩
theorem setCell_row {w : World} {b : Nat} {old v : Value} {T : TypeId} (h : w.heap[b]? = some (.cells #[old] T (0, 0))) : w.setCell ⟨b, 0, none⟩ v = w.setRow b #[v] := by
  unfold World.setCell World.setRow
  congr 1
  apply Array.ext_getElem?
  intro i
  rw [Array.getElem?_modify, Array.getElem?_modify]
  by_cases e : b = i
  · subst e; rw [if_pos rfl, if_pos rfl, h]; rfl
  · rw [if_neg e, if_neg e]
variable [GLay] [ET]
theorem as_c (k old : Int) (p : Nat) (σ : List AO) (hp : σ[p]? = some (.box [.int .i64 old])) : ACalls Tryz.prog 56 [.iface 69 (.int .i64 k), .iface 86 (.ptr p 0)] σ (Ret (.bool true) (σ.set p (.box [.int .i64 k]))) := fun s cargs hs g hv => by
  subst hs
  obtain ⟨c1, r1, rfl, h1, hv2⟩ := hv.inv_cons
  obtain ⟨c2, r2, rfl, h2, hv3⟩ := hv2.inv_cons
  obtain rfl := hv3.inv_nil
  obtain ⟨x1, rfl, hx1⟩ := h1.inv_iface
  obtain ⟨x2, rfl, hx2⟩ := h2.inv_iface
  obtain rfl := hx1.inv_int
  obtain rfl := hx2.inv_ptr
  have hlive : s.live p := by unfold CS.live; rw [hp]; trivial
  obtain ⟨hnok, vs, T, hb, hpw⟩ := g.obj p _ hp
  obtain ⟨v0, vr, rfl, hv0, hvr⟩ := PW.inv_cons hpw
  obtain rfl := PW.inv_nil hvr
  obtain rfl := hv0.inv_int
  have hlt := (g.live_lt hlive).1
  have hc := ET.cell s.w g.laid
  have hcell : s.w.cell? ⟨(s.μ p).b, 0, none⟩ = some (.int .i64 old) := by unfold World.cell?; simp only; rw [hb]; rfl
  have hfz : s.w.frozen? ⟨(s.μ p).b, 0, none⟩ = false := by unfold World.frozen?; simp only; rw [hb]; rfl
  refine (as_hit k ⟨(s.μ p).b, 0, none⟩ (.int .i64 old) s.w hc hcell hfz).mono fun ed w' hh => ?_
  obtain ⟨rfl, rfl⟩ := hh
  obtain ⟨w4, hw4⟩ : ∃ w4 : World, w4 = (((s.w.alloc (.cells #[.pointer (some ⟨(s.μ p).b, 0, none⟩)] 86)).alloc (.cells #[.pointer (some ⟨9, 86, none⟩), .pointer (some ⟨s.w.heap.size, 0, none⟩), .int .u64 150] 123)).alloc (.cells #[.pointer (some ⟨9, 86, none⟩), .pointer (some ⟨s.w.heap.size, 0, none⟩), .int .u64 150] 123)).alloc (.cells #[.int .i64 k] 69) := ⟨_, rfl⟩
  rw [← hw4]
  have hbel : Below s.w.heap.size s.w w4 := by
    rw [hw4]
    exact ((((Below.refl s.w.heap.size s.w).alloc (Nat.le_refl _) _).alloc (by simp) _).alloc (by simp; omega) _).alloc (by simp; omega) _
  obtain ⟨g1, x1⟩ := g.grow hbel
  have hb4 : w4.heap[(s.μ p).b]? = some (.cells #[.int .i64 old] T (0, 0)) := (hbel.block _ hlt).trans hb
  obtain ⟨s', e1, e2, g', x', _⟩ := g1.setObj (s := { s with w := w4 }) (p := p) (o := .box [.int .i64 old]) (o' := .box [.int .i64 k]) hp (by unfold CS.live; rw [show ({ s with w := w4 } : CS).σ[p]? = _ from hp]; trivial) (.box _ _ rfl) trivial (vs := [.int .i64 k]) (PW.cons (.int _ _) PW.nil)
  refine ⟨s', ?_, g', x1.trans x', _, .bool _, rfl, e1⟩
  rw [e2, setCell_row hb4]
end Lg
namespace Lg
open Go
section
variable [GLay]
theorem jfD_st {v : JV} {key : ByteArray} (h : jst v) : jst (jfD v key) := by
  unfold jfD jfind
  split
  · cases hf : v.m.find? fun q => decide (q.1 = key) with
    | none => exact st_vz
    | some q => exact ((st_eq v).1 h).2.2.2.2 q (List.mem_of_find?_eq_some hf)
  · exact st_vz
theorem pN_nm (s : BL) : ∀ x ∈ pN s, x.length ≤ s.length := by
  cases h : pE s with
  | none => exact (pN_len h).2
  | some i =>
    by_cases h0 : s = []
    · subst h0; intro x hx; simp [pN] at hx
    · rw [pN_bad h0 h]; intro x hx; cases hx
theorem jptN_nm {v : JV} {key : ByteArray} (h : jb v) : ∀ n ∈ jptN v key, n.length ≤ 1000000 := by
  unfold jptN
  split
  · have h5 := ((jb_eq _).1 (jfD_jb (key := key) h)).2.1
    have h6 : (jfD v key).s.data.toList.length = (jfD v key).s.size := Array.length_toList ..
    intro n hn
    have := pN_nm _ n hn
    omega
  · intro n hn; cases hn
theorem jop_OPB {v : JV} {o : JOp} (hb : jb v) (hs : jst v) (hz : jsize v ≤ 3000) (ho : jop v = some o) : OPB o := by
  have hr := jopn_range v
  have hz1 : jsize vz ≤ 3000 := by rw [vz_size]; decide
  by_cases h0 : jopn v = 0
  · rw [jop_n1 h0] at ho; cases ho
  · by_cases hp : jptB v bPath = true
    · have hpl := jptN_len hb hp
      have hpn := jptN_nm (key := bPath) hb
      have he : ∀ n ∈ ([] : List BL), n.length ≤ 1000000 := fun n hn => by cases hn
      by_cases h4 : jopn v = 4 ∨ jopn v = 5
      · rw [jop_fr hp h4] at ho
        split at ho
        · rename_i hf
          cases ho
          exact ⟨by show 1 ≤ jopn v; omega, hr.2, vz_jb0, st_vz, hz1, hpl, jptN_len hb hf, hpn, jptN_nm hb⟩
        · cases ho
      · by_cases h2 : jopn v = 2
        · rw [jop_rm hp h2] at ho; cases ho
          exact ⟨by show (1 : Int) ≤ 2; decide, by show (2 : Int) ≤ 6; decide, vz_jb0, st_vz, hz1, hpl, Nat.zero_le _, hpn, he⟩
        · rw [jop_vl hp h0 h4 h2] at ho
          split at ho
          · cases ho
            exact ⟨by show 1 ≤ jopn v; omega, hr.2, jfD_jb hb, jfD_st hs, jfD_size hz (by decide), hpl, Nat.zero_le _, hpn, he⟩
          · cases ho
    · rw [jop_n2 (by simpa using hp)] at ho; cases ho
theorem jops_OPB {l : List JV} {os : List JOp} (hl : ∀ x ∈ l, jb x ∧ jst x ∧ jsize x ≤ 3000) (h : jops l = some os) : ∀ o ∈ os, OPB o := by
  induction l generalizing os with
  | nil => simp [jops] at h; subst h; intro o ho; cases ho
  | cons a r ih =>
    rw [jops] at h
    cases ha : jop a with
    | none => rw [ha] at h; cases h
    | some o =>
      rw [ha] at h
      simp only [Option.map_eq_some_iff] at h
      obtain ⟨os', h1, rfl⟩ := h
      intro p hp
      have h2 := hl a (List.mem_cons_self ..)
      rcases List.mem_cons.1 hp with rfl | hp
      · exact jop_OPB h2.1 h2.2.1 h2.2.2 ha
      · exact ih (fun x hx => hl x (List.mem_cons_of_mem _ hx)) h1 p hp
noncomputable def opQ (s : ByteArray) : List JOp × Int := if (rValue s).2 = 0 then ([], 0) else if ¬ jrdC (rValue s).1 = 0 then ([], 0) else (jrd (rValue s).1, 1)
theorem opQ_0 {s : ByteArray} (h : (rValue s).2 = 0) : opQ s = ([], 0) := by unfold opQ; rw [if_pos h]
theorem opQ_b {s : ByteArray} (h : ¬ (rValue s).2 = 0) (hb : ¬ jrdC (rValue s).1 = 0) : opQ s = ([], 0) := by unfold opQ; rw [if_neg h, if_pos hb]
theorem opQ_y {s : ByteArray} (h : ¬ (rValue s).2 = 0) (hb : jrdC (rValue s).1 = 0) : opQ s = (jrd (rValue s).1, 1) := by unfold opQ; rw [if_neg h, if_neg (fun x => x hb)]
theorem jrd_OPB {v : JV} (hb : jb v) (hs : jst v) (hz : jsize v ≤ 3000) : (jrd v).length ≤ 100 ∧ ∀ o ∈ jrd v, OPB o := by
  have he : ∀ o ∈ ([] : List JOp), OPB o := fun o ho => by cases ho
  unfold jrd
  split
  · exact ⟨Nat.zero_le _, he⟩
  · split
    · exact ⟨Nat.zero_le _, he⟩
    · rename_i h1 h2
      cases hj : jops v.l with
      | none => exact ⟨Nat.zero_le _, he⟩
      | some os =>
        refine ⟨by have := jops_len hj; show os.length ≤ 100; omega, ?_⟩
        exact jops_OPB (fun x hx => by
          obtain ⟨i, hi⟩ := List.getElem?_of_mem hx
          have h3 := lsize_mem hi
          have h4 := jsize_eq v
          have h5 := msize_nn v.m
          exact ⟨lb_get ((jb_eq v).1 hb).2.2.2.2.1 hi, st_get hs hi, by omega⟩) hj
theorem opQ_ok (s : ByteArray) : (opQ s).1.length ≤ 100 ∧ ∀ o ∈ (opQ s).1, OPB o := by
  have he : ∀ o ∈ ([] : List JOp), OPB o := fun o ho => by cases ho
  by_cases h : (rValue s).2 = 0
  · rw [opQ_0 h]; exact ⟨Nat.zero_le _, he⟩
  · by_cases hb : jrdC (rValue s).1 = 0
    · rw [opQ_y h hb]
      rcases rValue_ok s with h1 | ⟨_, h2, h3, h4⟩
      · exact absurd h1.1 h
      · exact jrd_OPB h3 (may_st h2) (by omega)
    · rw [opQ_b h hb]; exact ⟨Nat.zero_le _, he⟩
def jE (r : JV × Int × Int) : Option (Int × Int) := if r.2.1 = 0 then none else some (r.2.2, r.2.1)
theorem jE_n {r : JV × Int × Int} (h : r.2.1 = 0) : jE r = none := by unfold jE; rw [if_pos h]
theorem jE_s {r : JV × Int × Int} (h : ¬ r.2.1 = 0) : jE r = some (r.2.2, r.2.1) := by unfold jE; rw [if_neg h]
theorem pdo_chk {v : JV} {o : JOp} (hob : OPB o) : jchk (pdo v o) = jchk (jdo v o) ∧ (jchk (jdo v o) = 0 → pdo v o = jdo v o) := by
  obtain ⟨h1, h2⟩ := pdo_jdo (v := v) hob.lo hob.hi
  by_cases h : (jdo v o).2 = 0
  · rw [h2 h]; exact ⟨rfl, fun _ => rfl⟩
  · have e1 : jchk (jdo v o) = (jdo v o).2 := by unfold jchk; rw [if_pos h]
    have e2 : jchk (pdo v o) = (jdo v o).2 := by unfold jchk; rw [if_pos (by rw [h1]; exact h), h1]
    rw [e1, e2]; exact ⟨rfl, fun h0 => absurd h0 h⟩
theorem jchk_a {r : JV × Int} (h : ¬ r.2 = 0) : jchk r = r.2 := by unfold jchk; rw [if_pos h]
theorem jchk_5 {r : JV × Int} (h : r.2 = 0) (h1 : 3000 < jsize r.1) : jchk r = 5 := by unfold jchk; rw [if_neg (fun x => x h), if_pos h1]
theorem jchk_3 {r : JV × Int} (h : r.2 = 0) (h1 : ¬ 3000 < jsize r.1) (h2 : 32 < jdepth r.1) : jchk r = 3 := by unfold jchk; rw [if_neg (fun x => x h), if_neg h1, if_pos h2]
theorem jchk_00 {r : JV × Int} (h : r.2 = 0) (h1 : ¬ 3000 < jsize r.1) (h2 : ¬ 32 < jdepth r.1) : jchk r = 0 := by unfold jchk; rw [if_neg (fun x => x h), if_neg h1, if_neg h2]
def jchs (r : JV × Int) : Int := if r.2 ≠ 0 then r.2 else if 3000 < jsize r.1 then 5 else 0
theorem jchs_a {r : JV × Int} (h : ¬ r.2 = 0) : jchs r = r.2 := by unfold jchs; rw [if_pos h]
theorem jchs_5 {r : JV × Int} (h : r.2 = 0) (h1 : 3000 < jsize r.1) : jchs r = 5 := by unfold jchs; rw [if_neg (fun x => x h), if_pos h1]
theorem jchs_0 {r : JV × Int} (h : r.2 = 0) (h1 : ¬ 3000 < jsize r.1) : jchs r = 0 := by unfold jchs; rw [if_neg (fun x => x h), if_neg h1]
theorem jchk_s {r : JV × Int} (h : ¬ jchs r = 0) : jchk r = jchs r := by
  by_cases h0 : r.2 = 0
  · by_cases h1 : 3000 < jsize r.1
    · rw [jchk_5 h0 h1, jchs_5 h0 h1]
    · rw [jchs_0 h0 h1] at h; exact absurd rfl h
  · rw [jchk_a h0, jchs_a h0]
theorem jchs_z {r : JV × Int} (h : jchs r = 0) : r.2 = 0 ∧ ¬ 3000 < jsize r.1 := by
  by_cases h0 : r.2 = 0
  · by_cases h1 : 3000 < jsize r.1
    · rw [jchs_5 h0 h1] at h; cases h
    · exact ⟨h0, h1⟩
  · rw [jchs_a h0] at h; exact absurd h h0
theorem jchk_rng {v : JV} {o : JOp} (hob : OPB o) (hb : jb v) (hs : jst v) (hz : jsize v ≤ 3000) : 0 ≤ jchk (pdo v o) ∧ jchk (pdo v o) ≤ 9 := by
  have h := (pdo_ok hob hb hs hz).2
  unfold jchk
  split
  · exact h
  · split
    · decide
    · split <;> decide
theorem jap_wf : ∀ (l : List JOp) (v : JV) (i : Nat), (∀ o ∈ l, OPB o) → jb v → jst v → jsize v ≤ 3000 → jb (jap l v i).1 ∧ jst (jap l v i).1 ∧ jsize (jap l v i).1 ≤ 3000
  | [], v, i, _, hb, hs, hz => ⟨hb, hs, hz⟩
  | o :: r, v, i, hl, hb, hs, hz => by
    have hob := hl o (List.mem_cons_self ..)
    by_cases h : jchk (jdo v o) = 0
    · rw [jap_ok h]
      have h1 := pdo_ok hob hb hs hz
      rw [(pdo_chk hob).2 h] at h1
      exact jap_wf r _ _ (fun p hp => hl p (List.mem_cons_of_mem _ hp)) h1.1.1 h1.1.2.1 (jchk_0 h).2.1
    · rw [jap_bad rfl h]; exact ⟨vz_jb0, st_vz, by show jsize vz ≤ 3000; rw [vz_size]; decide⟩
end
mutual
theorem jq_rfl : ∀ v : JV, jq v v = true
  | .mk k b n s l m => by simp only [jq, jqL_rfl l, jqM_rfl m, decide_true, Bool.and_self]
theorem jqL_rfl : ∀ l : List JV, jqL l l = true
  | [] => rfl
  | x :: r => by simp only [jqL, jq_rfl x, jqL_rfl r, Bool.and_self]
theorem jqM_rfl : ∀ l : List (ByteArray × JV), jqM l l = true
  | [] => rfl
  | (a, x) :: r => by simp only [jqM, jq_rfl x, jqM_rfl r, decide_true, Bool.and_self]
end
theorem jq_iff {v w : JV} : jq v w = true ↔ v = w := ⟨jq_eq, fun h => h ▸ jq_rfl v⟩
def jdoC (v : JV) (o : JOp) : JV × Int :=
  if o.op ≤ 3 then jed o.op o.v o.pa v else
  if o.op = 4 ∧ o.fr.length < o.pa.length ∧ o.pa.take o.fr.length = o.fr then (vz, 9) else
  if (jget (if o.op = 6 then o.pa else o.fr) v).2 = false then (vz, 6) else
  if o.op = 6 then (if jq (jget o.pa v).1 o.v = true then (v, 0) else (vz, 8)) else
  if o.op = 4 then (if o.pa = o.fr then (v, 0) else if (jed 2 vz o.fr v).2 ≠ 0 then (vz, (jed 2 vz o.fr v).2) else jed 1 (jget o.fr v).1 o.pa (jed 2 vz o.fr v).1) else
  jed 1 (jget o.fr v).1 o.pa v
theorem jdo_C (v : JV) (o : JOp) : jdo v o = jdoC v o := by
  unfold jdo jdoC
  by_cases h : (jget o.pa v).1 = o.v
  · simp only [if_pos h, if_pos (jq_iff.2 h)]
  · have hq : ¬ jq (jget o.pa v).1 o.v = true := fun e => h (jq_iff.1 e)
    simp only [if_neg h, if_neg hq]
def japC : List JOp → JV → Nat → JV × Int × Int
  | [], v, _ => (v, 0, 0)
  | o :: r, v, i => if jchk (jdoC v o) ≠ 0 then (vz, jchk (jdoC v o), (i : Int)) else japC r (jdoC v o).1 (i + 1)
theorem jap_C : ∀ (l : List JOp) (v : JV) (i : Nat), jap l v i = japC l v i
  | [], v, i => rfl
  | o :: r, v, i => by rw [jap, japC, jdo_C, jap_C r]
def ex9v : ByteArray := ⟨#[123, 34, 97, 34, 58, 91, 49, 93, 125]⟩
def ex9w : ByteArray := ⟨#[123, 34, 98, 34, 58, 91, 49, 93, 125]⟩
def ex9p : ByteArray := ⟨#[91, 123, 34, 111, 112, 34, 58, 34, 109, 111, 118, 101, 34, 44, 34, 102, 114, 111, 109, 34, 58, 34, 47, 97, 34, 44, 34, 112, 97, 116, 104, 34, 58, 34, 47, 98, 34, 125, 44, 123, 34, 111, 112, 34, 58, 34, 116, 101, 115, 116, 34, 44, 34, 112, 97, 116, 104, 34, 58, 34, 47, 98, 47, 48, 34, 44, 34, 118, 97, 108, 117, 101, 34, 58, 50, 125, 93]⟩
theorem ex9_0 : (rParse ex9v).2.1 = 0 ∧ (rParse ex9w).2.1 = 0 ∧ (rParse ex9p).2.1 = 0 := by rw [rParse_C (by decide), rParse_C (by decide), rParse_C (by decide)]; decide +kernel
theorem ex9_1 : jrdC (rParse ex9p).1 = 0 ∧ (jrd (rParse ex9p).1).length = 2 := by rw [rParse_C (by decide)]; decide +kernel
theorem ex9_2 : (jap (jrd (rParse ex9p).1) (rParse ex9v).1 0).2 = (8, 1) := by rw [jap_C, rParse_C (by decide), rParse_C (by decide)]; decide +kernel
theorem ex9_3 : (jap ((jrd (rParse ex9p).1).take 1) (rParse ex9v).1 0).2.1 = 0 := by rw [jap_C, rParse_C (by decide), rParse_C (by decide)]; decide +kernel
theorem ex9_4 : jq (jap ((jrd (rParse ex9p).1).take 1) (rParse ex9v).1 0).1 (rParse ex9w).1 = true := by rw [jap_C, rParse_C (by decide), rParse_C (by decide), rParse_C (by decide)]; decide +kernel
theorem ex9_q [GLay] : opQ ex9p = (jrd (rParse ex9p).1, 1) := by
  have h : rValue ex9p = ((rParse ex9p).1, 1) := by unfold rValue; rw [if_neg (by decide), if_pos ex9_0.2.2]
  have h1 := opQ_y (s := ex9p) (by rw [h]; decide) (by rw [h]; exact ex9_1.1)
  rw [h] at h1; exact h1
end Lg
namespace Lg
open Go Go.RowKit
variable [GLay]
section
variable {P : Program} {N : Nat} {ops : Array Oper} {tb : Array Nat} {QR : Env → List AO → Prop} {X : AV → List AO → Prop} {i : Nat} {e : Env} {o : Oper} {σ : List AO} {past : List (Nat × List AO)} {held : List (Nat × (List AO → Prop))}
theorem yPN {v : AV} (ho : nthO ops.toList i = some o) (hg : o.guard = none) (hd : o.dst = none) (h : AOp P σ e o v σ) (hp : PastOK P tb i e o v past) (k : RP P N ops tb QR X (i + 1) e σ past ((i, fun σ' => AOp P σ' e o v σ') :: held)) : RP P N ops tb QR X i e σ past held :=
  .pure o v (nthA ho) (GuardA_none hg rfl) (fun t ht => by rw [hd] at ht; cases ht) h hp (by rw [hd]; exact k)
end
end Lg
namespace Lg
open Go Go.RowKit
variable [GLay]
theorem op_storeId {P : Program} {e : Env} {o : Oper} {σ l : List AO} {T : TypeId} {x y : Operand} {n k off : Nat} {cs : List AV} (ho : o.op = .store T x y) (hz : ∀ w, (Go.sizeOf T).run P w = Result.ok n w) (hn : (opv e y).cells.length = n)
    (h1 : ones (opv e y).cells = true) (hx : opv e x = .ptr (σ.length + k) off) (hl : l[k]? = some (.box cs)) (hr : spl off cs (opv e y).cells = some cs) (hn0 : n ≠ 0) : AOp P (σ ++ l) e o .any (σ ++ l) := by
  have h := op_storeO (P := P) (σ := σ) ho hz hn h1 hx hl hr hn0
  obtain ⟨hk, e1⟩ := List.getElem?_eq_some_iff.1 hl
  rw [← e1, List.set_getElem_self] at h
  exact h
end Lg
set_option maxRecDepth 20000
set_option maxHeartbeats 4000000
namespace Lg
open Go Go.Proofs Go.RowKit
variable [GLay]  [ET]
theorem as_cO (k old : Int) (j : Nat) (σ l : List AO) (hl : l[j]? = some (.box [.int .i64 old])) : ACalls Tryz.prog 56 [.iface 69 (.int .i64 k), .iface 86 (.ptr (σ.length + j) 0)] (σ ++ l) (Ret (.bool true) (σ ++ l.set j (.box [.int .i64 k]))) := by
  have h := as_c k old (σ.length + j) (σ ++ l) (by rw [get_own]; exact hl)
  rw [set_own] at h; exact h
theorem cerJ_n {k : Int} (h : ¬ k = 0) : cerJ k = .iface 69 (.int .i64 k) := by unfold cerJ; rw [if_neg h]
theorem pap_c (l : List JOp) (f : Bool) (hl : l.length ≤ 1000000) (hob : ∀ o ∈ l, OPB o) (v : JV) (cs : List AV) (σ : List AO) (hc : vcells v = cs) (hjb : jb v) (hst : jst v) (hsz : jsize v ≤ 3000) : ACalls Tryz.prog 24 [.agg cs, .sl f 11 (orows l)] σ (Ret (.tup [.agg (vcells (jap l v 0).1), errV (jE (jap l v 0))]) σ) := by
 refine ACalls_bodyC Tryz.func24 rfl Tryz.ntmps24 (by rw [Tryz.results24]; exact (.ck Tryz.isAgg28 Tryz.sizeOf28 (.t .nil))) (Nat.le_of_ble_eq_true rfl) (fun hcl hal => ?_)
 subst hc
 rw [vcells_eq v]
 have hol := orows_len l
 refine zw3 ?_
 refine AWp_seq ?_
 refine zw3 ?_
 refine AWp_block ?_
 -- loop 0 LIVE 2:box 4:alloc 5:assign 11:move 12:call 13:move
 refine AWp_loop (ι := Nat × JV) (fun z => z.1 ≤ l.length ∧ jap (l.drop z.1) z.2 z.1 = jap l v 0 ∧ jb z.2 ∧ jst z.2 ∧ jsize z.2 ≤ 3000) (fun z => ⟨[], [(2, .ptr (σ.length + 0) 0), (4, .ptr (σ.length + 1) 0), (11, .sl f 11 (orows l)), (12, .int .i64 ((orows l).length : Int)), (13, .int .i64 (z.1 : Int))]⟩) (fun z => σ ++ [.box [.int .i64 z.2.kind, .bool z.2.b, .bool z.2.n.neg, .str z.2.n.digits, .int .i64 z.2.n.exp, .str z.2.s, .sl false 8 (lcells z.2.l), .sl false 9 (mcells z.2.m)], .box [.int .i64 0, .bool false, .bool false, .str ⟨#[]⟩, .int .i64 0, .str ⟨#[]⟩, .nils, .nils]]) (fun z => l.length - z.1) ((0, v)) (⟨Nat.zero_le _, by rw [List.drop_zero], hjb, hst, hsz⟩) ?_ rfl (fun z hz => ?_)
 ·exact ⟨rfl, rfl, rfl, rfl, rfl, rfl, trivial⟩
 obtain ⟨i, u⟩ := z
 obtain ⟨hz1, hz2, hz3, hz4, hz5⟩ := hz
 simp only at hz1 hz2 hz3 hz4 hz5 ⊢
 refine zw1 ?_
 refine AWp_seq ?_
 refine AWp_cond rfl (fun h1 => ?_) (fun h1 => ?_)
 ·(try rw [h1]); replace h1 := zcl h1
  obtain ⟨o, hx⟩ : ∃ o, l[i]? = some o := ⟨_, List.getElem?_eq_getElem (show i < l.length by omega)⟩
  have hxr := orows_get hx
  have hoo := hob o (List.mem_of_getElem? hx)
  rw [drop_cons hx] at hz2
  have hpo := pdo_ok hoo hz3 hz4 hz5
  have hpc := pdo_chk (v := u) hoo
  have hrg := jchk_rng hoo hz3 hz4 hz5
  refine AWp_skip ?_
  refine AWp_seq ?_
  refine AWp_block ?_
  refine zu1 ?_
  refine zt rfl (op_indexAddr rfl Tryz.underlying47 Tryz.sizeOf58 rfl rfl (by omega) (hxr)) ?_
  rw [ocells_eq o]
  refine zv4 ?_
  refine AWp_seq ?_
  refine AWp_heap (σ' := σ ++ [.box [.int .i64 u.kind, .bool u.b, .bool u.n.neg, .str u.n.digits, .int .i64 u.n.exp, .str u.s, .sl false 8 (lcells u.l), .sl false 9 (mcells u.m)], .box [.int .i64 0, .bool false, .bool false, .str ⟨#[]⟩, .int .i64 0, .str ⟨#[]⟩, .nils, .nils], .box [.int .i64 o.op, .sl false 1 (srow o.pa), .sl false 1 (srow o.fr), .int .i64 o.v.kind, .bool o.v.b, .bool o.v.n.neg, .str o.v.n.digits, .int .i64 o.v.n.exp, .str o.v.s, .sl false 8 (lcells o.v.l), .sl false 9 (mcells o.v.m)]]) rfl ?_
  refine AWp_regL ?_
  refine zg2 ?_
  refine zt rfl (zc rfl (pdo_c o _ (ocells_eq o) hoo u _ _ (vcells_eq u) hz3 hz4 hz5)) ?_
  rw [vcells_eq (pdo u o).1]
  refine zv6 ?_
  refine AWp_joinB (ι := Unit) (fun z => True) (fun z => ⟨[], [(2, .ptr (σ.length + 0) 0), (4, .ptr (σ.length + 1) 0), (6, .int .i64 (i : Int)), (8, .ptr (σ.length + 3) 0), (9, cerJ (jchk (pdo u o))), (11, .sl f 11 (orows l)), (12, .int .i64 ((orows l).length : Int)), (13, .int .i64 (i : Int))]⟩) (fun z => σ ++ [.box [.int .i64 u.kind, .bool u.b, .bool u.n.neg, .str u.n.digits, .int .i64 u.n.exp, .str u.s, .sl false 8 (lcells u.l), .sl false 9 (mcells u.m)], .box [.int .i64 0, .bool false, .bool false, .str ⟨#[]⟩, .int .i64 0, .str ⟨#[]⟩, .nils, .nils], .box [.int .i64 o.op, .sl false 1 (srow o.pa), .sl false 1 (srow o.fr), .int .i64 o.v.kind, .bool o.v.b, .bool o.v.n.neg, .str o.v.n.digits, .int .i64 o.v.n.exp, .str o.v.s, .sl false 8 (lcells o.v.l), .sl false 9 (mcells o.v.m)], .box [.int .i64 (pdo u o).1.kind, .bool (pdo u o).1.b, .bool (pdo u o).1.n.neg, .str (pdo u o).1.n.digits, .int .i64 (pdo u o).1.n.exp, .str (pdo u o).1.s, .sl false 8 (lcells (pdo u o).1.l), .sl false 9 (mcells (pdo u o).1.m)]]) ?_ (fun z hz => ?_)
  ·skip
   refine zu1 ?_
   refine zt rfl (op_neCer rfl Tryz.underlying35 rfl) ?_
   refine zv1 ?_
   refine AWp_cond rfl (fun h2 => ?_) (fun h2 => ?_)
   ·(try rw [h2]); replace h2 := zcl h2
    refine AWp_skip ?_
    show ∃ z : Unit, _ ∧ _ ∧ _
    rw [jchk_a h2]
    exact ⟨(), trivial, ⟨rfl, rfl, rfl, rfl, rfl, rfl, rfl, rfl, rfl, trivial⟩, rfl⟩
   ·(try rw [h2]); replace h2 := zcl h2
    refine zu1 ?_
    refine zt rfl (zc rfl (vcells_eq (pdo u o).1 ▸ size_any 9000 (pdo u o).1 _ (by omega) (by decide))) ?_
    refine zv2 ?_
    refine AWp_cond rfl (fun h3 => ?_) (fun h3 => ?_)
    ·(try rw [h3]); replace h3 := zcl h3
     refine AWp_regL ?_
     refine zv2 ?_
     show ∃ z : Unit, _ ∧ _ ∧ _
     rw [jchk_5 h2 (by omega)]
     exact ⟨(), trivial, ⟨rfl, rfl, rfl, rfl, rfl, rfl, rfl, rfl, rfl, trivial⟩, rfl⟩
    ·(try rw [h3]); replace h3 := zcl h3
     refine zu1 ?_
     refine zt rfl (zc rfl (vcells_eq (pdo u o).1 ▸ depth_any 9000 (pdo u o).1 _ (by omega) (by decide))) ?_
     refine zv2 ?_
     refine AWp_cond rfl (fun h4 => ?_) (fun h4 => ?_)
     ·(try rw [h4]); replace h4 := zcl h4
      refine AWp_regL ?_
      refine zv2 ?_
      show ∃ z : Unit, _ ∧ _ ∧ _
      rw [jchk_3 h2 (by omega) (by omega)]
      exact ⟨(), trivial, ⟨rfl, rfl, rfl, rfl, rfl, rfl, rfl, rfl, rfl, trivial⟩, rfl⟩
     ·(try rw [h4]); replace h4 := zcl h4
      refine AWp_skip ?_
      show ∃ z : Unit, _ ∧ _ ∧ _
      rw [jchk_00 h2 (by omega) (by omega)]
      refine ⟨(), trivial, ⟨rfl, rfl, rfl, rfl, rfl, ?_, rfl, rfl, rfl, trivial⟩, rfl⟩
      first | rfl | (rw [h2]; rfl)
  ·skip
   refine AWp_seq ?_
   refine AWp_seq ?_
   refine AWp_heap (σ' := σ ++ [.box [.int .i64 u.kind, .bool u.b, .bool u.n.neg, .str u.n.digits, .int .i64 u.n.exp, .str u.s, .sl false 8 (lcells u.l), .sl false 9 (mcells u.m)], .box [.int .i64 0, .bool false, .bool false, .str ⟨#[]⟩, .int .i64 0, .str ⟨#[]⟩, .nils, .nils], .box [.int .i64 o.op, .sl false 1 (srow o.pa), .sl false 1 (srow o.fr), .int .i64 o.v.kind, .bool o.v.b, .bool o.v.n.neg, .str o.v.n.digits, .int .i64 o.v.n.exp, .str o.v.s, .sl false 8 (lcells o.v.l), .sl false 9 (mcells o.v.m)], .box [.int .i64 (pdo u o).1.kind, .bool (pdo u o).1.b, .bool (pdo u o).1.n.neg, .str (pdo u o).1.n.digits, .int .i64 (pdo u o).1.n.exp, .str (pdo u o).1.s, .sl false 8 (lcells (pdo u o).1.l), .sl false 9 (mcells (pdo u o).1.m)]]) rfl ?_
   refine AWp_regL ?_
   refine zg1 ?_
   refine zt rfl (op_neCer rfl Tryz.underlying35 rfl) ?_
   refine zon ?_
   refine AWp_cond rfl (fun h5 => ?_) (fun h5 => ?_)
   ·(try rw [h5]); replace h5 := zcl h5
    rw [cerJ_n h5]
    refine zw1 ?_
    refine zu2 ?_
    refine ztR rfl (zcR rfl (as_cO (jchk (pdo u o)) 0 4 σ [.box [.int .i64 u.kind, .bool u.b, .bool u.n.neg, .str u.n.digits, .int .i64 u.n.exp, .str u.s, .sl false 8 (lcells u.l), .sl false 9 (mcells u.m)], .box [.int .i64 0, .bool false, .bool false, .str ⟨#[]⟩, .int .i64 0, .str ⟨#[]⟩, .nils, .nils], .box [.int .i64 o.op, .sl false 1 (srow o.pa), .sl false 1 (srow o.fr), .int .i64 o.v.kind, .bool o.v.b, .bool o.v.n.neg, .str o.v.n.digits, .int .i64 o.v.n.exp, .str o.v.s, .sl false 8 (lcells o.v.l), .sl false 9 (mcells o.v.m)], .box [.int .i64 (pdo u o).1.kind, .bool (pdo u o).1.b, .bool (pdo u o).1.n.neg, .str (pdo u o).1.n.digits, .int .i64 (pdo u o).1.n.exp, .str (pdo u o).1.s, .sl false 8 (lcells (pdo u o).1.l), .sl false 9 (mcells (pdo u o).1.m)], .box [.int .i64 0]] rfl)) (fun v12_2 s12_2 hr => ?_) (fun v12_2 s12_2 hr => ?_)
    rotate_left
    ·exact nomatch hr.1
    obtain ⟨hv, hh⟩ := hr
    cases hv
    subst hh
    refine zon ?_
    refine AWp_seq ?_
    refine AWp_drawL #[0, 0, 0, 6, 14, 30, 1, 127] Tryz.mixed (by decide +kernel) (by decide +kernel) ?_
    refine zd2 ?_
    refine zp1 ?_
    refine zd1 ?_
    refine yE rfl rfl (zoa) (⟨.inl rfl, trivial⟩) (trivial) ?_
    refine zd1 ?_
    refine yPN rfl rfl rfl (op_storeId (k := 1) (cs := [.int .i64 0, .bool false, .bool false, .str ⟨#[]⟩, .int .i64 0, .str ⟨#[]⟩, .nils, .nils]) rfl Tryz.sizeOf28 rfl rfl rfl rfl rfl (by decide)) (⟨.inr (op_storeId (k := 1) (cs := [.int .i64 0, .bool false, .bool false, .str ⟨#[]⟩, .int .i64 0, .str ⟨#[]⟩, .nils, .nils]) rfl Tryz.sizeOf28 rfl rfl rfl rfl rfl (by decide)), trivial⟩) ?_
    refine zd1 ?_
    refine RP.nil rfl ?_
    refine AWp_heap (σ' := σ ++ [.box [.int .i64 u.kind, .bool u.b, .bool u.n.neg, .str u.n.digits, .int .i64 u.n.exp, .str u.s, .sl false 8 (lcells u.l), .sl false 9 (mcells u.m)], .box [.int .i64 0, .bool false, .bool false, .str ⟨#[]⟩, .int .i64 0, .str ⟨#[]⟩, .nils, .nils], .box [.int .i64 o.op, .sl false 1 (srow o.pa), .sl false 1 (srow o.fr), .int .i64 o.v.kind, .bool o.v.b, .bool o.v.n.neg, .str o.v.n.digits, .int .i64 o.v.n.exp, .str o.v.s, .sl false 8 (lcells o.v.l), .sl false 9 (mcells o.v.m)], .box [.int .i64 (pdo u o).1.kind, .bool (pdo u o).1.b, .bool (pdo u o).1.n.neg, .str (pdo u o).1.n.digits, .int .i64 (pdo u o).1.n.exp, .str (pdo u o).1.s, .sl false 8 (lcells (pdo u o).1.l), .sl false 9 (mcells (pdo u o).1.m)], .box [.int .i64 (jchk (pdo u o))], .box [.int .i64 (i : Int), .int .i64 (jchk (pdo u o))]]) rfl ?_
    refine AWp_freezeI (cs := [.int .i64 (i : Int), .int .i64 (jchk (pdo u o))]) 5 (σ.length + 5) 0 87 rfl (by rw [get_own]; rfl) ?_ (by decide)
    rw [set_own]
    refine AWp_boxLeO 1 (bs' := [.int .i64 vz.kind, .bool vz.b, .bool vz.n.neg, .str vz.n.digits, .int .i64 vz.n.exp, .str vz.s, .sl false 8 (lcells vz.l), .sl false 9 (mcells vz.m)]) rfl ⟨AVle.refl _, AVle.refl _, AVle.refl _, AVle.refl _, AVle.refl _, AVle.refl _, nilL, nilM, trivial⟩ ?_
    refine zrt ?_
    have hj0 : ¬ jchk (jdo u o) = 0 := by rw [← hpc.1]; exact h5
    have hjb0 := jap_bad (r := l.drop (i + 1)) (i := i) rfl hj0
    rw [hz2] at hjb0
    rw [hjb0, jE_s hj0, hpc.1, vcells_eq]
    exact RQ_ret (rkvs_cons (rkv_ck rfl rfl rfl) (rkvs_cons (rkv_t rfl) rfl)) hcl (by simp [rks, AV.lt, AV.ltL, errV]) ⟨rfl, rfl⟩
   ·(try rw [h5]); replace h5 := zcl h5
    refine AWp_skip ?_
    refine AWp_regL ?_
    refine zv2 ?_
    refine AWp_regL ?_
    refine zv2 ?_
    have hj0 : jchk (jdo u o) = 0 := by rw [← hpc.1]; exact h5
    have hje := hpc.2 hj0
    refine ⟨(i + 1, (pdo u o).1), σ.length + 2, ⟨by simp only; omega, ?_, hpo.1.1, hpo.1.2.1, ?_⟩, by simp only; omega, by simp, ⟨rfl, rfl, rfl, rfl, rfl, rfl, trivial⟩, closed_own 2 hcl ?_, ?_, ?_⟩
    ·simp only; rw [hje, ← hz2, jap_ok hj0]
    ·simp only; rw [hje]; exact (jchk_0 hj0).2.1
    ·simp [ownLt, AO.cells, AV.ltL, AV.lt]
    ·simp [ltE, AV.lt, AV.ltL]
    ·exact take_own 2
 ·(try rw [h1]); replace h1 := zcl h1
  have hie : i = l.length := by omega
  subst hie
  rw [List.drop_length] at hz2
  refine AWp_exit ?_
  refine zw3 ?_
  refine zrt ?_
  rw [← hz2, jap, jE_n rfl, vcells_eq]
  exact RQ_ret (rkvs_cons (rkv_ck rfl rfl rfl) (rkvs_cons (rkv_t rfl) rfl)) hcl (by simp [rks, AV.lt, AV.ltL, errV]) ⟨rfl, rfl⟩
end Lg
set_option maxRecDepth 20000
set_option maxHeartbeats 4000000
namespace Lg
open Go Go.Proofs Go.RowKit
variable [GLay] 
theorem rsize_any (n : Nat) : ∀ (v : JV) (σ : List AO), jsize v ≤ n → n ≤ 1000000000 → ACalls Tryz.prog 58 [.agg (vcells v)] σ (Ret (.int .i64 (jsize v)) σ) := by
 induction n with
 | zero => intro v σ h; have := jsize_pos v; omega
 | succ n ih =>
 intro v σ hn hb
 have hvs := jsize_eq v
 have hl := lsize_nn v.l
 have hm := msize_nn v.m
 have hll := llen_le v.l
 have hml := mlen_le v.m
 have hlc := lcells_length v.l
 have hmc := mcells_length v.m
 refine ACalls_body Tryz.func58 rfl Tryz.ntmps58 (res1 Tryz.results58) (Nat.le_of_ble_eq_true rfl) (fun hcl hal => ?_)
 rw [vcells_eq v]
 refine zw2 ?_
 refine zw1 ?_
 refine AWp_seq ?_
 refine zw1 ?_
 refine AWp_block ?_
 -- loop 0 LIVE 1:box 2:assign 3:assign 4:assign
 refine AWp_loop (ι := Nat) (fun i => i ≤ v.l.length) (fun i => ⟨[], [(1, .ptr (σ.length + 0) 0), (3, .int .i64 (1 + lsize (v.l.take i))), (4, .int .i64 (i : Int))]⟩) (fun i => σ ++ [_]) (fun i => v.l.length - i) (0) (Nat.zero_le _) ?_ rfl (fun i hi => ?_)
 ·refine ⟨rfl, rfl, ?_, rfl, trivial⟩
  simp [lsize]; rfl
 have htl := lsize_take_le v.l i
 have htn := lsize_nn (v.l.take i)
 refine AWp_seq ?_
 refine zw5 ?_
 refine AWp_cond rfl (fun h1 => ?_) (fun h1 => ?_)
 ·(try rw [h1]); replace h1 := zcl h1
  obtain ⟨x, hx⟩ : ∃ x, v.l[i]? = some x := ⟨_, List.getElem?_eq_getElem (show i < v.l.length by omega)⟩
  have hlm := lsize_mem hx
  have hxp := jsize_pos x
  have hts := lsize_take v.l i x hx
  have htl1 := lsize_take_le v.l (i + 1)
  refine AWp_skip ?_
  refine AWp_seq ?_
  refine AWp_block ?_
  refine AWp_regL ?_
  refine zg5 ?_
  rw [vcells_eq x]
  refine zg1 ?_
  refine zt rfl (zc rfl (AC1 (vcells_eq x) (ih x _ (by omega) (by omega)))) ?_
  refine zv2 ?_
  refine AWp_regL ?_
  refine zv3 ?_
  refine ⟨i + 1, σ.length + 1, by omega, by omega, by simp, ⟨rfl, rfl, ?_, rfl, trivial⟩, closed_own 1 hcl ?_, ?_, take_own 1⟩
  ·rw [lsize_take v.l i x hx, ← Int.add_assoc]; rfl
  ·simp [ownLt, AO.cells, AV.ltL, AV.lt]
  ·simp [ltE, AV.lt]
 ·(try rw [h1]); replace h1 := zcl h1
  have hie : v.l.take i = v.l := by rw [show i = v.l.length by omega]; exact List.take_length
  rw [hie]
  refine AWp_exit ?_
  refine AWp_seq ?_
  refine zw1 ?_
  refine AWp_block ?_
  -- loop 1 LIVE 1:box 2:assign 3:assign 5:assign
  refine AWp_loop (ι := Nat) (fun i => i ≤ v.m.length) (fun i => ⟨[], [(1, .ptr (σ.length + 0) 0), (3, .int .i64 (1 + lsize v.l + msize (v.m.take i))), (5, .int .i64 (i : Int))]⟩) (fun i => σ ++ [_]) (fun i => v.m.length - i) (0) (Nat.zero_le _) ?_ rfl (fun i hi => ?_)
  ·refine ⟨rfl, rfl, ?_, rfl, trivial⟩
   simp [msize]; rfl
  have htl2 := msize_take_le v.m i
  have htn2 := msize_nn (v.m.take i)
  refine AWp_seq ?_
  refine zw5 ?_
  refine AWp_cond rfl (fun h2 => ?_) (fun h2 => ?_)
  ·(try rw [h2]); replace h2 := zcl h2
   obtain ⟨q, hq⟩ : ∃ q, v.m[i]? = some q := ⟨_, List.getElem?_eq_getElem (show i < v.m.length by omega)⟩
   have hms := msize_mem hq
   have hqp := jsize_pos q.2
   have hts2 := msize_take v.m i q hq
   have htl3 := msize_take_le v.m (i + 1)
   refine AWp_skip ?_
   refine AWp_seq ?_
   refine AWp_block ?_
   refine AWp_regL ?_
   refine zg6 ?_
   rw [vcells_eq q.2]
   refine zg1 ?_
   refine zt rfl (zc rfl (AC1 (vcells_eq q.2) (ih q.2 _ (by omega) (by omega)))) ?_
   refine zv2 ?_
   refine AWp_regL ?_
   refine zv3 ?_
   refine ⟨i + 1, σ.length + 1, by omega, by omega, by simp, ⟨rfl, rfl, ?_, rfl, trivial⟩, closed_own 1 hcl ?_, ?_, take_own 1⟩
   ·rw [msize_take v.m i q hq, ← Int.add_assoc]; rfl
   ·simp [ownLt, AO.cells, AV.ltL, AV.lt]
   ·simp [ltE, AV.lt]
  ·(try rw [h2]); replace h2 := zcl h2
   have hie2 : v.m.take i = v.m := by rw [show i = v.m.length by omega]; exact List.take_length
   rw [hie2]
   refine AWp_exit ?_
   refine zw2 ?_
   refine zrt ?_
   refine ResQ_1 rfl hcl trivial (Ret_of ?_)
   congr 1; omega

theorem rdepth_any (n : Nat) : ∀ (v : JV) (σ : List AO), jsize v ≤ n → n ≤ 1000000000 → ACalls Tryz.prog 59 [.agg (vcells v)] σ (Ret (.int .i64 (jdepth v)) σ) := by
 induction n with
 | zero => intro v σ h; have := jsize_pos v; omega
 | succ n ih =>
 intro v σ hn hb
 have hvs := jsize_eq v
 have hl := lsize_nn v.l
 have hm := msize_nn v.m
 have hll := llen_le v.l
 have hml := mlen_le v.m
 have hlc := lcells_length v.l
 have hmc := mcells_length v.m
 have hd1 := ldep_nn v.l
 have hd2 := mdep_nn v.m
 have hde := jdepth_eq v
 refine ACalls_body Tryz.func59 rfl Tryz.ntmps59 (res1 Tryz.results59) (Nat.le_of_ble_eq_true rfl) (fun hcl hal => ?_)
 rw [vcells_eq v]
 refine zw2 ?_
 refine zw1 ?_
 refine AWp_seq ?_
 refine zw1 ?_
 refine AWp_block ?_
 -- loop 0 LIVE 1:box 2:assign 3:assign 4:assign
 refine AWp_loop (ι := Nat) (fun i => i ≤ v.l.length) (fun i => ⟨[], [(1, .ptr (σ.length + 0) 0), (3, .int .i64 (ldep (v.l.take i))), (4, .int .i64 (i : Int))]⟩) (fun i => σ ++ [_]) (fun i => v.l.length - i) (0) (Nat.zero_le _) ?_ rfl (fun i hi => ?_)
 ·refine ⟨rfl, rfl, ?_, rfl, trivial⟩
  simp [ldep]; rfl
 refine AWp_seq ?_
 refine zw5 ?_
 refine AWp_cond rfl (fun h1 => ?_) (fun h1 => ?_)
 ·(try rw [h1]); replace h1 := zcl h1
  obtain ⟨x, hx⟩ : ∃ x, v.l[i]? = some x := ⟨_, List.getElem?_eq_getElem (show i < v.l.length by omega)⟩
  have hlm := lsize_mem hx
  have hxp := jsize_pos x
  have hts := lsize_take v.l i x hx
  have htl1 := lsize_take_le v.l (i + 1)
  refine AWp_skip ?_
  refine AWp_seq ?_
  refine AWp_block ?_
  refine AWp_regL ?_
  refine zg5 ?_
  rw [vcells_eq x]
  refine zg1 ?_
  refine zt rfl (zc rfl (AC1 (vcells_eq x) (ih x _ (by omega) (by omega)))) ?_
  refine zv2 ?_
  refine AWp_regL ?_
  refine zv3 ?_
  refine ⟨i + 1, σ.length + 1, by omega, by omega, by simp, ⟨rfl, rfl, ?_, rfl, trivial⟩, closed_own 1 hcl ?_, ?_, take_own 1⟩
  ·rw [ldep_take v.l i x hx]; rfl
  ·simp [ownLt, AO.cells, AV.ltL, AV.lt]
  ·simp [ltE, AV.lt]
 ·(try rw [h1]); replace h1 := zcl h1
  have hie : v.l.take i = v.l := by rw [show i = v.l.length by omega]; exact List.take_length
  rw [hie]
  refine AWp_exit ?_
  refine AWp_seq ?_
  refine zw1 ?_
  refine AWp_block ?_
  -- loop 1 LIVE 1:box 2:assign 3:assign 5:assign
  refine AWp_loop (ι := Nat) (fun i => i ≤ v.m.length) (fun i => ⟨[], [(1, .ptr (σ.length + 0) 0), (3, .int .i64 (max (ldep v.l) (mdep (v.m.take i)))), (5, .int .i64 (i : Int))]⟩) (fun i => σ ++ [_]) (fun i => v.m.length - i) (0) (Nat.zero_le _) ?_ rfl (fun i hi => ?_)
  ·refine ⟨rfl, rfl, ?_, rfl, trivial⟩
   rw [show max (ldep v.l) (mdep (v.m.take 0)) = ldep v.l by simp only [List.take_zero, mdep]; omega]; rfl
  refine AWp_seq ?_
  refine zw5 ?_
  refine AWp_cond rfl (fun h2 => ?_) (fun h2 => ?_)
  ·(try rw [h2]); replace h2 := zcl h2
   obtain ⟨q, hq⟩ : ∃ q, v.m[i]? = some q := ⟨_, List.getElem?_eq_getElem (show i < v.m.length by omega)⟩
   have hms := msize_mem hq
   have hqp := jsize_pos q.2
   have hts2 := msize_take v.m i q hq
   have htl3 := msize_take_le v.m (i + 1)
   refine AWp_skip ?_
   refine AWp_seq ?_
   refine AWp_block ?_
   refine AWp_regL ?_
   refine zg6 ?_
   rw [vcells_eq q.2]
   refine zg1 ?_
   refine zt rfl (zc rfl (AC1 (vcells_eq q.2) (ih q.2 _ (by omega) (by omega)))) ?_
   refine zv2 ?_
   refine AWp_regL ?_
   refine zv3 ?_
   refine ⟨i + 1, σ.length + 1, by omega, by omega, by simp, ⟨rfl, rfl, ?_, rfl, trivial⟩, closed_own 1 hcl ?_, ?_, take_own 1⟩
   ·rw [mdep_take v.m i q hq, show ∀ a b c : Int, max a (max b c) = max (max a b) c by intros; omega]; rfl
   ·simp [ownLt, AO.cells, AV.ltL, AV.lt]
   ·simp [ltE, AV.lt]
  ·(try rw [h2]); replace h2 := zcl h2
   have hie2 : v.m.take i = v.m := by rw [show i = v.m.length by omega]; exact List.take_length
   rw [hie2]
   refine AWp_exit ?_
   refine AWp_seq ?_
   refine zu4 ?_
   refine zsp 40 rfl (fun h3 => ?_) fun h3 => ?_
   ·rw [h3]; replace h3 := zcl h3
    refine zv4 ?_
    refine AWp_condT rfl ?_
    refine zw3 ?_
    refine zrt ?_
    refine ResQ_1 rfl hcl trivial (Ret_of ?_)
    congr 1; rw [hde]; first | (rw [if_pos (by omega)]; done) | (rw [if_neg (by omega)]; done)
   ·rw [h3]; replace h3 := zcl h3
    refine zv4 ?_
    refine AWp_cond rfl (fun h4 => ?_) (fun h4 => ?_)
    ·(try rw [h4]); replace h4 := zcl h4
     refine zw3 ?_
     refine zrt ?_
     refine ResQ_1 rfl hcl trivial (Ret_of ?_)
     congr 1; rw [hde]; first | (rw [if_pos (by omega)]; done) | (rw [if_neg (by omega)]; done)
    ·(try rw [h4]); replace h4 := zcl h4
     refine AWp_skip ?_
     refine zw1 ?_
     refine zrt ?_
     refine ResQ_1 rfl hcl trivial (Ret_of ?_)
     congr 1; rw [hde]; first | (rw [if_pos (by omega)]; done) | (rw [if_neg (by omega)]; done)
end Lg
set_option maxRecDepth 20000
set_option maxHeartbeats 4000000
namespace Lg
open Go Go.Proofs Go.RowKit
variable [GLay] 
theorem rap_c (l : List JOp) (f : Bool) (hl : l.length ≤ 1000000) (hob : ∀ o ∈ l, OPB o) (v : JV) (cs : List AV) (σ : List AO) (hc : vcells v = cs) (hjb : jb v) (hst : jst v) (hsz : jsize v ≤ 3000) : ACalls Tryz.prog 25 [.agg cs, .sl f 11 (orows l)] σ (Ret (.tup [.agg (vcells (jap l v 0).1), .int .i64 (jap l v 0).2.1, .int .i64 (jap l v 0).2.2]) σ) := by
 refine ACalls_bodyC Tryz.func25 rfl Tryz.ntmps25 (by rw [Tryz.results25]; exact (.ck Tryz.isAgg28 Tryz.sizeOf28 (.t (.t .nil)))) (Nat.le_of_ble_eq_true rfl) (fun hcl hal => ?_)
 subst hc
 rw [vcells_eq v]
 have hol := orows_len l
 refine zw4 ?_
 refine AWp_seq ?_
 refine zw1 ?_
 refine AWp_block ?_
 -- loop 0 LIVE 1:param 2:box 4:alloc 5:assign 6:assign 7:assign
 refine AWp_loop (ι := Nat × JV) (fun z => z.1 ≤ l.length ∧ jap (l.drop z.1) z.2 z.1 = jap l v 0 ∧ jb z.2 ∧ jst z.2 ∧ jsize z.2 ≤ 3000) (fun z => ⟨[], [(1, .sl f 11 (orows l)), (2, .ptr (σ.length + 0) 0), (4, .ptr (σ.length + 1) 0), (7, .int .i64 (z.1 : Int))]⟩) (fun z => σ ++ [.box [.int .i64 z.2.kind, .bool z.2.b, .bool z.2.n.neg, .str z.2.n.digits, .int .i64 z.2.n.exp, .str z.2.s, .sl false 8 (lcells z.2.l), .sl false 9 (mcells z.2.m)], .box [.int .i64 0, .bool false, .bool false, .str ⟨#[]⟩, .int .i64 0, .str ⟨#[]⟩, .nils, .nils]]) (fun z => l.length - z.1) ((0, v)) (⟨Nat.zero_le _, by rw [List.drop_zero], hjb, hst, hsz⟩) ?_ rfl (fun z hz => ?_)
 ·exact ⟨rfl, rfl, rfl, rfl, rfl, trivial⟩
 obtain ⟨i, u⟩ := z
 obtain ⟨hz1, hz2, hz3, hz4, hz5⟩ := hz
 simp only at hz1 hz2 hz3 hz4 hz5 ⊢
 refine AWp_seq ?_
 refine zw4 ?_
 refine AWp_cond rfl (fun h1 => ?_) (fun h1 => ?_)
 ·(try rw [h1]); replace h1 := zcl h1
  obtain ⟨o, hx⟩ : ∃ o, l[i]? = some o := ⟨_, List.getElem?_eq_getElem (show i < l.length by omega)⟩
  have hxr := orows_get hx
  have hoo := hob o (List.mem_of_getElem? hx)
  rw [drop_cons hx] at hz2
  have hpo := pdo_ok hoo hz3 hz4 hz5
  have hpc := pdo_chk (v := u) hoo
  have hrg := jchk_rng hoo hz3 hz4 hz5
  refine AWp_skip ?_
  refine AWp_seq ?_
  refine AWp_block ?_
  refine AWp_seq ?_
  refine AWp_drawL #[0, 0, 0, 6, 14, 31, 63, 127, 127, 0, 767, 2047] Tryz.mixed (by decide +kernel) (by decide +kernel) ?_
  refine zp1 ?_
  refine zd2 ?_
  refine yA rfl rfl (fun _ => op_indexAddr rfl Tryz.underlying47 Tryz.sizeOf58 rfl rfl (by omega) (hxr)) ?_
  rw [ocells_eq o]
  refine zp1 ?_
  refine yP rfl rfl (zc rfl (rdo_c o _ (ocells_eq o) hoo u _ _ (vcells_eq u) hz3 hz4 hz5)) (trivial) ?_
  rw [vcells_eq (jdo u o).1]
  refine zd3 ?_
  refine yE rfl rfl (zoa) (⟨.inr (by rw [← vcells_eq (jdo u o).1]; exact zc rfl (rdo_c o _ (ocells_eq o) hoo u _ _ (vcells_eq u) hz3 hz4 hz5)), ⟨.inr zoa, ⟨.inr zoa, trivial⟩⟩⟩) (trivial) ?_
  refine yEN rfl rfl rfl (zoa) (⟨.inl rfl, ⟨.inl rfl, ⟨.inl rfl, trivial⟩⟩⟩) (⟨rfl, trivial⟩) ?_
  refine zd1 ?_
  refine RP.nil rfl ?_
  refine AWp_join (ι := Unit) (fun b => True) (fun b => ⟨[], [(1, .sl f 11 (orows l)), (2, .ptr (σ.length + 0) 0), (4, .ptr (σ.length + 1) 0), (7, .int .i64 (i : Int)), (8, .ptr (σ.length + 2) 0), (9, .int .i64 (jchs (jdo u o)))]⟩) (fun b => σ ++ [.box [.int .i64 u.kind, .bool u.b, .bool u.n.neg, .str u.n.digits, .int .i64 u.n.exp, .str u.s, .sl false 8 (lcells u.l), .sl false 9 (mcells u.m)], .box [.int .i64 0, .bool false, .bool false, .str ⟨#[]⟩, .int .i64 0, .str ⟨#[]⟩, .nils, .nils], .box [.int .i64 (jdo u o).1.kind, .bool (jdo u o).1.b, .bool (jdo u o).1.n.neg, .str (jdo u o).1.n.digits, .int .i64 (jdo u o).1.n.exp, .str (jdo u o).1.s, .sl false 8 (lcells (jdo u o).1.l), .sl false 9 (mcells (jdo u o).1.m)]]) ?_ (fun b hj => ?_)
  ·skip
   refine AWp_seq ?_
   refine AWp_heap (σ' := σ ++ [.box [.int .i64 u.kind, .bool u.b, .bool u.n.neg, .str u.n.digits, .int .i64 u.n.exp, .str u.s, .sl false 8 (lcells u.l), .sl false 9 (mcells u.m)], .box [.int .i64 0, .bool false, .bool false, .str ⟨#[]⟩, .int .i64 0, .str ⟨#[]⟩, .nils, .nils], .box [.int .i64 (jdo u o).1.kind, .bool (jdo u o).1.b, .bool (jdo u o).1.n.neg, .str (jdo u o).1.n.digits, .int .i64 (jdo u o).1.n.exp, .str (jdo u o).1.s, .sl false 8 (lcells (jdo u o).1.l), .sl false 9 (mcells (jdo u o).1.m)]]) rfl ?_
   refine AWp_regL ?_
   refine zg3 ?_
   refine zsp 27 rfl (fun h2 => ?_) fun h2 => ?_
   ·rw [h2]; replace h2 := zcl h2
    have hjc : jsize (jdo u o).1 ≤ 9000 := by rw [← (pdo_jdo (v := u) hoo.lo hoo.hi).2 h2]; exact hpo.1.2.2
    refine zg1 ?_
    refine ztG rfl rfl (zc rfl (vcells_eq (jdo u o).1 ▸ rsize_any 9000 (jdo u o).1 _ (by omega) (by decide))) ?_
    refine zv2 ?_
    refine AWp_cond rfl (fun h3 => ?_) (fun h3 => ?_)
    ·(try rw [h3]); replace h3 := zcl h3
     refine AWp_regL ?_
     refine zv1 ?_
     rw [jchs_5 h2 (by omega)]
     exact ⟨(), trivial, ⟨rfl, rfl, rfl, rfl, rfl, rfl, rfl, trivial⟩, rfl⟩
    ·(try rw [h3]); replace h3 := zcl h3
     refine AWp_skip ?_
     rw [jchs_0 h2 (by omega)]
     refine ⟨(), trivial, ⟨rfl, rfl, rfl, rfl, rfl, rfl, ?_, trivial⟩, rfl⟩
     first | rfl | (rw [h2]; rfl)
   ·rw [h2]; replace h2 := zcl h2
    refine zv4 ?_
    refine AWp_condF rfl ?_
    refine AWp_skip ?_
    rw [jchs_a h2]
    exact ⟨(), trivial, ⟨rfl, rfl, rfl, rfl, rfl, rfl, rfl, trivial⟩, rfl⟩
  ·skip
   refine AWp_join (ι := Unit) (fun b => True) (fun b => ⟨[], [(1, .sl f 11 (orows l)), (2, .ptr (σ.length + 0) 0), (4, .ptr (σ.length + 1) 0), (7, .int .i64 (i : Int)), (8, .ptr (σ.length + 2) 0), (9, .int .i64 (jchk (jdo u o)))]⟩) (fun b => σ ++ [.box [.int .i64 u.kind, .bool u.b, .bool u.n.neg, .str u.n.digits, .int .i64 u.n.exp, .str u.s, .sl false 8 (lcells u.l), .sl false 9 (mcells u.m)], .box [.int .i64 0, .bool false, .bool false, .str ⟨#[]⟩, .int .i64 0, .str ⟨#[]⟩, .nils, .nils], .box [.int .i64 (jdo u o).1.kind, .bool (jdo u o).1.b, .bool (jdo u o).1.n.neg, .str (jdo u o).1.n.digits, .int .i64 (jdo u o).1.n.exp, .str (jdo u o).1.s, .sl false 8 (lcells (jdo u o).1.l), .sl false 9 (mcells (jdo u o).1.m)]]) ?_ (fun b hj => ?_)
   ·skip
    refine zu3 ?_
    refine zsp 34 rfl (fun h4 => ?_) fun h4 => ?_
    ·rw [h4]; replace h4 := zcl h4
     obtain ⟨h40, h41⟩ := jchs_z h4
     have hjc : jsize (jdo u o).1 ≤ 9000 := by omega
     refine zg1 ?_
     refine ztG rfl rfl (zc rfl (vcells_eq (jdo u o).1 ▸ rdepth_any 9000 (jdo u o).1 _ (by omega) (by decide))) ?_
     refine zv2 ?_
     refine AWp_cond rfl (fun h5 => ?_) (fun h5 => ?_)
     ·(try rw [h5]); replace h5 := zcl h5
      refine AWp_regL ?_
      refine zv1 ?_
      rw [jchk_3 h40 h41 (by omega)]
      exact ⟨(), trivial, ⟨rfl, rfl, rfl, rfl, rfl, rfl, rfl, trivial⟩, rfl⟩
     ·(try rw [h5]); replace h5 := zcl h5
      refine AWp_skip ?_
      rw [jchk_00 h40 h41 (by omega)]
      refine ⟨(), trivial, ⟨rfl, rfl, rfl, rfl, rfl, rfl, ?_, trivial⟩, rfl⟩
      first | rfl | (rw [h4]; rfl)
    ·rw [h4]; replace h4 := zcl h4
     refine zv4 ?_
     refine AWp_condF rfl ?_
     refine AWp_skip ?_
     rw [jchk_s h4]
     exact ⟨(), trivial, ⟨rfl, rfl, rfl, rfl, rfl, rfl, rfl, trivial⟩, rfl⟩
   ·skip
    refine AWp_seq ?_
    refine zw2 ?_
    refine AWp_cond rfl (fun h6 => ?_) (fun h6 => ?_)
    ·(try rw [h6]); replace h6 := zcl h6
     refine zw6 ?_
     refine AWp_boxLeO 1 (bs' := [.int .i64 vz.kind, .bool vz.b, .bool vz.n.neg, .str vz.n.digits, .int .i64 vz.n.exp, .str vz.s, .sl false 8 (lcells vz.l), .sl false 9 (mcells vz.m)]) rfl ⟨AVle.refl _, AVle.refl _, AVle.refl _, AVle.refl _, AVle.refl _, AVle.refl _, nilL, nilM, trivial⟩ ?_
     refine zrt ?_
     have hjb0 := jap_bad (r := l.drop (i + 1)) (i := i) rfl h6
     rw [hz2] at hjb0
     rw [hjb0, vcells_eq]
     exact RQ_ret (rkvs_cons (rkv_ck rfl rfl rfl) (rkvs_cons (rkv_t rfl) (rkvs_cons (rkv_t rfl) rfl))) hcl (by simp [rks, AV.lt, AV.ltL]) ⟨rfl, rfl⟩
    ·(try rw [h6]); replace h6 := zcl h6
     have hj0 : jchk (jdo u o) = 0 := h6
     refine AWp_skip ?_
     refine AWp_regL ?_
     refine zv2 ?_
     refine AWp_regL ?_
     refine zv3 ?_
     have hje := hpc.2 hj0
     refine ⟨(i + 1, (jdo u o).1), σ.length + 2, ⟨by simp only; omega, ?_, ?_, ?_, ?_⟩, by simp only; omega, by simp, ⟨rfl, rfl, rfl, rfl, rfl, trivial⟩, closed_own 2 hcl ?_, ?_, ?_⟩
     ·simp only; rw [← hz2, jap_ok hj0]
     ·simp only; rw [← hje]; exact hpo.1.1
     ·simp only; rw [← hje]; exact hpo.1.2.1
     ·simp only; exact (jchk_0 hj0).2.1
     ·simp [ownLt, AO.cells, AV.ltL, AV.lt]
     ·simp [ltE, AV.lt, AV.ltL]
     ·exact take_own 2
 ·(try rw [h1]); replace h1 := zcl h1
  have hie : i = l.length := by omega
  subst hie
  rw [List.drop_length] at hz2
  refine AWp_exit ?_
  refine zw4 ?_
  refine zrt ?_
  rw [← hz2, jap, vcells_eq]
  exact RQ_ret (rkvs_cons (rkv_ck rfl rfl rfl) (rkvs_cons (rkv_t rfl) (rkvs_cons (rkv_t rfl) rfl))) hcl (by simp [rks, AV.lt, AV.ltL]) ⟨rfl, rfl⟩
end Lg
set_option maxRecDepth 20000
set_option maxHeartbeats 4000000
namespace Lg
open Go Go.Proofs Go.RowKit
variable [GLay] 

theorem rptrM_c (v : JV) (key : ByteArray) (cs : List AV) (σ : List AO) (hc : vcells v = cs) (hb : v.m.length ≤ 1000000) (hs : (jfD v key).s.size ≤ 1000000) : ACalls Tryz.prog 111 [.agg cs, .str key] σ (Ret (.tup [.sl false 1 (srow (jptN v key)), .bool (jptB v key)]) σ) := by
 refine ACalls_body Tryz.func111 rfl Tryz.ntmps111 (res2 Tryz.results111) (Nat.le_of_ble_eq_true rfl) (fun hcl hal => ?_)
 subst hc
 rw [vcells_eq v]
 refine zw3 ?_
 refine zu2 ?_
 refine zt rfl (zc rfl (rfindQ_c v key _ _ (vcells_eq v) hb)) ?_
 rw [vcells_eq (jfD v key)]
 refine zv6 ?_
 refine AWp_seq ?_
 refine zu3 ?_
 refine zsp 18 rfl (fun h1 => ?_) fun h1 => ?_
 ·rw [h1]; replace h1 := zcl h1
  refine zv4 ?_
  refine AWp_condT rfl ?_
  refine zw2 ?_
  refine AWp_slotLe 4 rfl (AVle.nils false 1) ?_ (by decide)
  refine zrt ?_
  have hp := jpt_no (v := v) (key := key) (.inl (by simpa using h1))
  rw [hp.1, hp.2]
  exact ResQ_2 rfl rfl hcl (by simp [AV.lt, AV.ltL, AV.ltLL]) (Ret_of rfl)
 ·rw [h1]; replace h1 := zcl h1
  refine zv4 ?_
  refine AWp_cond rfl (fun h2 => ?_) (fun h2 => ?_)
  ·(try rw [h2]); replace h2 := zcl h2
   refine zw2 ?_
   refine AWp_slotLe 4 rfl (AVle.nils false 1) ?_ (by decide)
   refine zrt ?_
   have hp := jpt_no (v := v) (key := key) (.inr h2)
   rw [hp.1, hp.2]
   exact ResQ_2 rfl rfl hcl (by simp [AV.lt, AV.ltL, AV.ltLL]) (Ret_of rfl)
  ·(try rw [h2]); replace h2 := zcl h2
   have hp := jpt_yes (key := key) (by simpa using h1) h2
   refine AWp_skip ?_
   refine zu2 ?_
   refine zt rfl (zc rfl (rptrQ_c (jfD v key).s _ hs)) ?_
   refine zv5 ?_
   refine zw5 ?_
   refine zrt ?_
   rw [hp.1, hp.2]
   exact ResQ_2 rfl rfl hcl (by simp [AV.lt, AV.ltL]) (Ret_of (by rw [pEi_lt]))

end Lg
set_option maxRecDepth 20000
set_option maxHeartbeats 4000000
namespace Lg
open Go Go.Proofs Go.RowKit
variable [GLay] 
theorem rop_c (v : JV) (cs : List AV) (σ : List AO) (hc : vcells v = cs) (hjb : jb v) : ACalls Tryz.prog 76 [.agg cs] σ (OpR v σ) := by
 have hmz := ((jb_eq v).1 hjb).2.2.2.1
 have hjp := ((jb_eq _).1 (jfD_jb (key := bPath) hjb)).2.1
 have hjf := ((jb_eq _).1 (jfD_jb (key := bFrom) hjb)).2.1
 refine ACalls_bodyC Tryz.func76 rfl Tryz.ntmps76 (by rw [Tryz.results76]; exact (.ck Tryz.isAgg58 Tryz.sizeOf58 (.t .nil))) (Nat.le_of_ble_eq_true rfl) (fun hcl hal => ?_)
 subst hc
 rw [vcells_eq v]
 refine zw3 ?_
 refine zsr ?_
 refine zt rfl (op_buildSlice [[_], [_], [_], [_], [_], [_], [_]] rfl Tryz.underlying31 Tryz.sizeOf9 Tryz.zeroValue9 rfl (by decide) (by decide) rfl rfl rfl rfl rfl) ?_
 refine zv1 ?_
 refine zw1 ?_
 refine zu1 ?_
 refine zt rfl (zc rfl (rfindQ_c v bOp _ _ (vcells_eq v) hmz)) ?_
 rw [vcells_eq (jfD v bOp)]
 refine zv6 ?_
 refine AWp_seq ?_
 refine zw1 ?_
 refine AWp_block ?_
 -- loop 0 LIVE 1:box 2:alloc 3:assign 4:assign 5:alloc 6:alloc 7:assign 8:assign
 refine AWp_heap (σ' := σ ++ [.box [.int .i64 v.kind, .bool v.b, .bool v.n.neg, .str v.n.digits, .int .i64 v.n.exp, .str v.s, .sl false 8 (lcells v.l), .sl false 9 (mcells v.m)], .box [.int .i64 0, .nils, .nils, .int .i64 0, .bool false, .bool false, .str ⟨#[]⟩, .int .i64 0, .str ⟨#[]⟩, .nils, .nils], .box [.int .i64 (opc v 1), .nils, .nils, .int .i64 0, .bool false, .bool false, .str ⟨#[]⟩, .int .i64 0, .str ⟨#[]⟩, .nils, .nils], .box [.int .i64 (jfD v bOp).kind, .bool (jfD v bOp).b, .bool (jfD v bOp).n.neg, .str (jfD v bOp).n.digits, .int .i64 (jfD v bOp).n.exp, .str (jfD v bOp).s, .sl false 8 (lcells (jfD v bOp).l), .sl false 9 (mcells (jfD v bOp).m)]]) (by rw [opc_1]; rfl) ?_
 refine AWp_loop (ι := Nat) (fun i => 1 ≤ i ∧ i ≤ 7) (fun i => ⟨[], [(1, .ptr (σ.length + 0) 0), (2, .ptr (σ.length + 1) 0), (4, .sl true 1 (opNm.map fun x => [AV.str x])), (5, .ptr (σ.length + 2) 0), (6, .ptr (σ.length + 3) 0), (7, .bool (jfB v bOp)), (8, .int .i64 (i : Int))]⟩) (fun i => σ ++ [.box [.int .i64 v.kind, .bool v.b, .bool v.n.neg, .str v.n.digits, .int .i64 v.n.exp, .str v.s, .sl false 8 (lcells v.l), .sl false 9 (mcells v.m)], .box [.int .i64 0, .nils, .nils, .int .i64 0, .bool false, .bool false, .str ⟨#[]⟩, .int .i64 0, .str ⟨#[]⟩, .nils, .nils], .box [.int .i64 (opc v i), .nils, .nils, .int .i64 0, .bool false, .bool false, .str ⟨#[]⟩, .int .i64 0, .str ⟨#[]⟩, .nils, .nils], .box [.int .i64 (jfD v bOp).kind, .bool (jfD v bOp).b, .bool (jfD v bOp).n.neg, .str (jfD v bOp).n.digits, .int .i64 (jfD v bOp).n.exp, .str (jfD v bOp).s, .sl false 8 (lcells (jfD v bOp).l), .sl false 9 (mcells (jfD v bOp).m)]]) (fun i => 7 - i) (1) (⟨Nat.le_refl _, by decide⟩) ?_ rfl (fun i hi => ?_)
 ·exact ⟨rfl, rfl, rfl, rfl, rfl, rfl, rfl, rfl, trivial⟩
 obtain ⟨hi1, hi7⟩ := hi
 refine AWp_seq ?_
 refine zu3 ?_
 refine zsp 23 rfl (fun h1 => ?_) fun h1 => ?_
 ·rw [h1]; replace h1 := zcl h1
  obtain ⟨t, ht⟩ : ∃ t, opNm[i]? = some t := ⟨_, List.getElem?_eq_getElem (show i < opNm.length from (show i < 7 by omega))⟩
  have htr : (opNm.map fun x => [AV.str x])[i]? = some [.str t] := by rw [List.getElem?_map, ht]; rfl
  refine zv2 ?_
  refine AWp_cond rfl (fun h2 => ?_) (fun h2 => ?_)
  ·(try rw [h2]); replace h2 := zcl h2
   refine AWp_skip ?_
   refine AWp_seq ?_
   refine AWp_block ?_
   refine AWp_seq ?_
   refine AWp_drawL #[0, 1, 3, 7, 15, 31, 15, 15, 207, 463, 1023, 2047] Tryz.mixed (by decide +kernel) (by decide +kernel) ?_
   refine zd1 ?_
   refine zp1 ?_
   refine zd2 ?_
   refine zspr 31 rfl (fun h3 => ?_) fun h3 => ?_
   ·rw [h3]; replace h3 := zcl h3
    refine zd1 ?_
    refine zp1 ?_
    refine zd2 ?_
    refine yAG rfl rfl rfl (fun _ => op_indexAddr rfl Tryz.underlying31 Tryz.sizeOf9 rfl rfl (by omega) (htr)) ?_
    refine zp1 ?_
    refine zd2 ?_
    refine RP.nil rfl ?_
    refine AWp_cond rfl (fun h4 => ?_) (fun h4 => ?_)
    ·(try rw [h4]); replace h4 := zcl h4
     refine AWp_regL ?_
     refine zv3 ?_
     refine AWp_regL ?_
     refine zv3 ?_
     refine ⟨i + 1, σ.length + 4, by omega, by omega, by simp, ⟨rfl, rfl, rfl, rfl, rfl, rfl, rfl, rfl, trivial⟩, closed_own 4 hcl ?_, ?_, ?_⟩
     ·simp [ownLt, AO.cells, AV.ltL, AV.lt]
     ·simp [ltE, AV.lt, AV.ltL, ltLL_str]; (try exact ltLL_str _ _)
     ·rw [opc_hit h2 h3 ht hi1 h4]; exact take_own 4
    ·(try rw [h4]); replace h4 := zcl h4
     refine AWp_skip ?_
     refine AWp_regL ?_
     refine zv3 ?_
     refine ⟨i + 1, σ.length + 4, by omega, by omega, by simp, ⟨rfl, rfl, rfl, rfl, rfl, rfl, rfl, rfl, trivial⟩, closed_own 4 hcl ?_, ?_, ?_⟩
     ·simp [ownLt, AO.cells, AV.ltL, AV.lt]
     ·simp [ltE, AV.lt, AV.ltL, ltLL_str]; (try exact ltLL_str _ _)
     ·rw [opc_miss ht hi1 h4]; exact take_own 4
   ·rw [h3]; replace h3 := zcl h3
    refine zd8 ?_
    refine RP.nil rfl ?_
    refine AWp_condF rfl ?_
    refine AWp_skip ?_
    refine AWp_regL ?_
    refine zv3 ?_
    refine ⟨i + 1, σ.length + 4, by omega, by omega, by simp, ⟨rfl, rfl, rfl, rfl, rfl, rfl, rfl, rfl, trivial⟩, closed_own 4 hcl ?_, ?_, ?_⟩
    ·simp [ownLt, AO.cells, AV.ltL, AV.lt]
    ·simp [ltE, AV.lt, AV.ltL, ltLL_str]; (try exact ltLL_str _ _)
    ·rw [opc_k h3]; exact take_own 4
  ·(try rw [h2]); replace h2 := zcl h2
   refine AWp_exit ?_
   refine AWp_seq ?_
   have hex : opc v i = jopn v := by first | exact opc_no (by simpa using h2) i | (rw [show i = 7 by omega]; exact opc_7 v)
   rw [hex]
   have hor := jopn_range v
   refine AWp_regL ?_
   refine zg1 ?_
   refine zt rfl (zc rfl (rptrM_c v bPath _ _ (vcells_eq v) hmz hjp)) ?_
   refine zv5 ?_
   refine AWp_seq ?_
   refine zu4 ?_
   refine zsp 50 rfl (fun h5 => ?_) fun h5 => ?_
   ·rw [h5]; replace h5 := zcl h5
    refine zv3 ?_
    refine AWp_condT rfl ?_
    refine zw3 ?_
    refine zrt ?_
    refine RQ_ret (rkvs_cons (rkv_ck rfl rfl rfl) (rkvs_cons (rkv_t rfl) rfl)) hcl (by simp [rks, AV.lt, AV.ltL]) ⟨rfl, _, ⟨0, [], [], vz⟩, false, rfl, oz, (fun h => by cases h), fun _ => jop_n1 h5⟩
   ·rw [h5]; replace h5 := zcl h5
    refine zv3 ?_
    refine AWp_cond rfl (fun h6 => ?_) (fun h6 => ?_)
    ·(try rw [h6]); replace h6 := zcl h6
     refine zw3 ?_
     refine zrt ?_
     refine RQ_ret (rkvs_cons (rkv_ck rfl rfl rfl) (rkvs_cons (rkv_t rfl) rfl)) hcl (by simp [rks, AV.lt, AV.ltL]) ⟨rfl, _, ⟨0, [], [], vz⟩, false, rfl, oz, (fun h => by cases h), fun _ => jop_n2 (by simpa using h6)⟩
    ·(try rw [h6]); replace h6 := zcl h6
     refine AWp_skip ?_
     refine zw3 ?_
     refine AWp_seq ?_
     refine zu4 ?_
     refine zsp 60 rfl (fun h7 => ?_) fun h7 => ?_
     ·rw [h7]; replace h7 := zcl h7
      refine zv4 ?_
      refine AWp_condT rfl ?_
      refine zu1 ?_
      refine zt rfl (zc rfl (rptrM_c v bFrom _ _ (vcells_eq v) hmz hjf)) ?_
      refine zv5 ?_
      refine zw3 ?_
      refine zw4 ?_
      refine zrt ?_
      refine RQ_ret (rkvs_cons (rkv_ck rfl rfl rfl) (rkvs_cons (rkv_t rfl) rfl)) hcl (by simp [rks, AV.lt, AV.ltL]) ⟨rfl, _, ⟨jopn v, jptN v bPath, jptN v bFrom, vz⟩, jptB v bFrom, rfl, ?_, ?_, ?_⟩
      ·rw [ocells_eq]; exact ⟨AVle.refl _, AVle.refl _, AVle.refl _, AVle.refl _, AVle.refl _, AVle.refl _, AVle.refl _, AVle.refl _, AVle.refl _, nilL, nilM, trivial⟩
      ·intro h; rw [jop_fr (by simpa using h6) (by omega), if_pos h]
      ·intro h; rw [jop_fr (by simpa using h6) (by omega), if_neg (by rw [h]; decide)]
     ·rw [h7]; replace h7 := zcl h7
      refine zv4 ?_
      refine AWp_cond rfl (fun h8 => ?_) (fun h8 => ?_)
      ·(try rw [h8]); replace h8 := zcl h8
       refine zu1 ?_
       refine zt rfl (zc rfl (rptrM_c v bFrom _ _ (vcells_eq v) hmz hjf)) ?_
       refine zv5 ?_
       refine zw3 ?_
       refine zw4 ?_
       refine zrt ?_
       refine RQ_ret (rkvs_cons (rkv_ck rfl rfl rfl) (rkvs_cons (rkv_t rfl) rfl)) hcl (by simp [rks, AV.lt, AV.ltL]) ⟨rfl, _, ⟨jopn v, jptN v bPath, jptN v bFrom, vz⟩, jptB v bFrom, rfl, ?_, ?_, ?_⟩
       ·rw [ocells_eq]; exact ⟨AVle.refl _, AVle.refl _, AVle.refl _, AVle.refl _, AVle.refl _, AVle.refl _, AVle.refl _, AVle.refl _, AVle.refl _, nilL, nilM, trivial⟩
       ·intro h; rw [jop_fr (by simpa using h6) (by omega), if_pos h]
       ·intro h; rw [jop_fr (by simpa using h6) (by omega), if_neg (by rw [h]; decide)]
      ·(try rw [h8]); replace h8 := zcl h8
       refine AWp_skip ?_
       refine AWp_seq ?_
       refine zw3 ?_
       refine AWp_cond rfl (fun h9 => ?_) (fun h9 => ?_)
       ·(try rw [h9]); replace h9 := zcl h9
        refine zu1 ?_
        refine zt rfl (zc rfl (rfindQ_c v bValue _ _ (vcells_eq v) hmz)) ?_
        rw [vcells_eq (jfD v bValue)]
        refine zv6 ?_
        refine zw3 ?_
        refine zw4 ?_
        refine zrt ?_
        refine RQ_ret (rkvs_cons (rkv_ck rfl rfl rfl) (rkvs_cons (rkv_t rfl) rfl)) hcl (by simp [rks, AV.lt, AV.ltL]) ⟨rfl, _, ⟨jopn v, jptN v bPath, [], jfD v bValue⟩, jfB v bValue, rfl, ?_, ?_, ?_⟩
        ·rw [ocells_eq]; exact ⟨AVle.refl _, AVle.refl _, AVle.nils false 1, AVle.refl _, AVle.refl _, AVle.refl _, AVle.refl _, AVle.refl _, AVle.refl _, AVle.refl _, AVle.refl _, trivial⟩
        ·intro h; rw [jop_vl (by simpa using h6) (by omega) (by omega) (by omega), if_pos h]
        ·intro h; rw [jop_vl (by simpa using h6) (by omega) (by omega) (by omega), if_neg (by rw [h]; decide)]
       ·(try rw [h9]); replace h9 := zcl h9
        refine AWp_skip ?_
        refine zw3 ?_
        refine zrt ?_
        refine RQ_ret (rkvs_cons (rkv_ck rfl rfl rfl) (rkvs_cons (rkv_t rfl) rfl)) hcl (by simp [rks, AV.lt, AV.ltL]) ⟨rfl, _, ⟨jopn v, jptN v bPath, [], vz⟩, true, rfl, ?_, ?_, ?_⟩
        ·rw [ocells_eq]; exact ⟨AVle.refl _, AVle.refl _, AVle.nils false 1, AVle.refl _, AVle.refl _, AVle.refl _, AVle.refl _, AVle.refl _, AVle.refl _, nilL, nilM, trivial⟩
        ·intro _; rw [jop_rm (by simpa using h6) (by omega), show jopn v = 2 by omega]
        ·intro h; cases h
 ·rw [h1]; replace h1 := zcl h1
  refine zv2 ?_
  refine AWp_condF rfl ?_
  refine AWp_exit ?_
  refine AWp_seq ?_
  have hex : opc v i = jopn v := by first | exact opc_no (by simpa using h2) i | (rw [show i = 7 by omega]; exact opc_7 v)
  rw [hex]
  have hor := jopn_range v
  refine AWp_regL ?_
  refine zg1 ?_
  refine zt rfl (zc rfl (rptrM_c v bPath _ _ (vcells_eq v) hmz hjp)) ?_
  refine zv5 ?_
  refine AWp_seq ?_
  refine zu4 ?_
  refine zsp 50 rfl (fun h10 => ?_) fun h10 => ?_
  ·rw [h10]; replace h10 := zcl h10
   refine zv3 ?_
   refine AWp_condT rfl ?_
   refine zw3 ?_
   refine zrt ?_
   refine RQ_ret (rkvs_cons (rkv_ck rfl rfl rfl) (rkvs_cons (rkv_t rfl) rfl)) hcl (by simp [rks, AV.lt, AV.ltL]) ⟨rfl, _, ⟨0, [], [], vz⟩, false, rfl, oz, (fun h => by cases h), fun _ => jop_n1 h10⟩
  ·rw [h10]; replace h10 := zcl h10
   refine zv3 ?_
   refine AWp_cond rfl (fun h11 => ?_) (fun h11 => ?_)
   ·(try rw [h11]); replace h11 := zcl h11
    refine zw3 ?_
    refine zrt ?_
    refine RQ_ret (rkvs_cons (rkv_ck rfl rfl rfl) (rkvs_cons (rkv_t rfl) rfl)) hcl (by simp [rks, AV.lt, AV.ltL]) ⟨rfl, _, ⟨0, [], [], vz⟩, false, rfl, oz, (fun h => by cases h), fun _ => jop_n2 (by simpa using h11)⟩
   ·(try rw [h11]); replace h11 := zcl h11
    refine AWp_skip ?_
    refine zw3 ?_
    refine AWp_seq ?_
    refine zu4 ?_
    refine zsp 60 rfl (fun h12 => ?_) fun h12 => ?_
    ·rw [h12]; replace h12 := zcl h12
     refine zv4 ?_
     refine AWp_condT rfl ?_
     refine zu1 ?_
     refine zt rfl (zc rfl (rptrM_c v bFrom _ _ (vcells_eq v) hmz hjf)) ?_
     refine zv5 ?_
     refine zw3 ?_
     refine zw4 ?_
     refine zrt ?_
     refine RQ_ret (rkvs_cons (rkv_ck rfl rfl rfl) (rkvs_cons (rkv_t rfl) rfl)) hcl (by simp [rks, AV.lt, AV.ltL]) ⟨rfl, _, ⟨jopn v, jptN v bPath, jptN v bFrom, vz⟩, jptB v bFrom, rfl, ?_, ?_, ?_⟩
     ·rw [ocells_eq]; exact ⟨AVle.refl _, AVle.refl _, AVle.refl _, AVle.refl _, AVle.refl _, AVle.refl _, AVle.refl _, AVle.refl _, AVle.refl _, nilL, nilM, trivial⟩
     ·intro h; rw [jop_fr (by simpa using h11) (by omega), if_pos h]
     ·intro h; rw [jop_fr (by simpa using h11) (by omega), if_neg (by rw [h]; decide)]
    ·rw [h12]; replace h12 := zcl h12
     refine zv4 ?_
     refine AWp_cond rfl (fun h13 => ?_) (fun h13 => ?_)
     ·(try rw [h13]); replace h13 := zcl h13
      refine zu1 ?_
      refine zt rfl (zc rfl (rptrM_c v bFrom _ _ (vcells_eq v) hmz hjf)) ?_
      refine zv5 ?_
      refine zw3 ?_
      refine zw4 ?_
      refine zrt ?_
      refine RQ_ret (rkvs_cons (rkv_ck rfl rfl rfl) (rkvs_cons (rkv_t rfl) rfl)) hcl (by simp [rks, AV.lt, AV.ltL]) ⟨rfl, _, ⟨jopn v, jptN v bPath, jptN v bFrom, vz⟩, jptB v bFrom, rfl, ?_, ?_, ?_⟩
      ·rw [ocells_eq]; exact ⟨AVle.refl _, AVle.refl _, AVle.refl _, AVle.refl _, AVle.refl _, AVle.refl _, AVle.refl _, AVle.refl _, AVle.refl _, nilL, nilM, trivial⟩
      ·intro h; rw [jop_fr (by simpa using h11) (by omega), if_pos h]
      ·intro h; rw [jop_fr (by simpa using h11) (by omega), if_neg (by rw [h]; decide)]
     ·(try rw [h13]); replace h13 := zcl h13
      refine AWp_skip ?_
      refine AWp_seq ?_
      refine zw3 ?_
      refine AWp_cond rfl (fun h14 => ?_) (fun h14 => ?_)
      ·(try rw [h14]); replace h14 := zcl h14
       refine zu1 ?_
       refine zt rfl (zc rfl (rfindQ_c v bValue _ _ (vcells_eq v) hmz)) ?_
       rw [vcells_eq (jfD v bValue)]
       refine zv6 ?_
       refine zw3 ?_
       refine zw4 ?_
       refine zrt ?_
       refine RQ_ret (rkvs_cons (rkv_ck rfl rfl rfl) (rkvs_cons (rkv_t rfl) rfl)) hcl (by simp [rks, AV.lt, AV.ltL]) ⟨rfl, _, ⟨jopn v, jptN v bPath, [], jfD v bValue⟩, jfB v bValue, rfl, ?_, ?_, ?_⟩
       ·rw [ocells_eq]; exact ⟨AVle.refl _, AVle.refl _, AVle.nils false 1, AVle.refl _, AVle.refl _, AVle.refl _, AVle.refl _, AVle.refl _, AVle.refl _, AVle.refl _, AVle.refl _, trivial⟩
       ·intro h; rw [jop_vl (by simpa using h11) (by omega) (by omega) (by omega), if_pos h]
       ·intro h; rw [jop_vl (by simpa using h11) (by omega) (by omega) (by omega), if_neg (by rw [h]; decide)]
      ·(try rw [h14]); replace h14 := zcl h14
       refine AWp_skip ?_
       refine zw3 ?_
       refine zrt ?_
       refine RQ_ret (rkvs_cons (rkv_ck rfl rfl rfl) (rkvs_cons (rkv_t rfl) rfl)) hcl (by simp [rks, AV.lt, AV.ltL]) ⟨rfl, _, ⟨jopn v, jptN v bPath, [], vz⟩, true, rfl, ?_, ?_, ?_⟩
       ·rw [ocells_eq]; exact ⟨AVle.refl _, AVle.refl _, AVle.nils false 1, AVle.refl _, AVle.refl _, AVle.refl _, AVle.refl _, AVle.refl _, AVle.refl _, nilL, nilM, trivial⟩
       ·intro _; rw [jop_rm (by simpa using h11) (by omega), show jopn v = 2 by omega]
       ·intro h; cases h
end Lg
