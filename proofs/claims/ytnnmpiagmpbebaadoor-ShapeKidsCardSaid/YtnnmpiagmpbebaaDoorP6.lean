/- A part of the proof of All schemas in a value that a name may have are Bools and Objects; a name that is no keyword may have none, whatever the value; a list of schemas may be allOf's just if it may be anyOf's and oneOf's.: K3 K4 Lk7 K5 S1 K6 K8 Sh4 K7 Lk8 W5 W8 K9 W11 W10. -/
import Derived.Test.YtnnmpiagmpbebaaDoorP5
import Derived.Test.YtnnmpiagmpbebaaDoorP4
import Derived.Test.YtnnmpiagmpbebaaDoorP3
import Derived.Shelf.Strconv.Itoa3
import Derived.Test.YtnnmpiagmpbebaaDoorProg
set_option linter.unusedVariables false
set_option linter.unusedSimpArgs false
set_option linter.unusedSectionVars false
set_option maxRecDepth 20000
set_option maxHeartbeats 4000000
namespace Lg
open Go Go.Proofs Go.RowKit
variable [GLay] 
theorem run_eqF {P : Program} {T : TypeId} {ps rs : Array TypeId} {va : Bool} (w : World) (hu : P.underlying T = some (.func ps rs va)) (c : Value) (b : Bool) (hc : (c = .nilFunc ∧ b = true) ∨ (b = false ∧ ∃ f x y, c = .func f x y)) : (binOp .eql T c .nilFunc).run P w = .ok (.bool b) w := by
  have h : ∀ d, (Op.equalIn (d + 1) T c .nilFunc).run P w = .ok b w := fun d => by
    rcases hc with ⟨rfl, rfl⟩ | ⟨rfl, f, x, y, rfl⟩ <;> simp [Op.equalIn, run_underlying hu]
  have h' : (Op.equal T c .nilFunc).run P w = .ok b w := h 9999
  rcases hc with ⟨rfl, rfl⟩ | ⟨rfl, f, x, y, rfl⟩ <;> (simp only [binOp]; simp [h'])
theorem eqGuard_F {P : Program} {T : TypeId} (w : World) (x y : Operand) (c : Value) (hc : c = .nilFunc ∨ ∃ f x y, c = .func f x y) : (eqGuard .eql T x y c .nilFunc).run P w = .ok () w := by
  rcases hc with rfl | ⟨f, u, v, rfl⟩ <;> simp [eqGuard]
theorem op_eqFN {P : Program} {σ : List AO} {e : Env} {o : Oper} {T T' : TypeId} {x : Operand} {ps rs : Array TypeId} {va : Bool} {f : Fn} {u v : List AV} (ho : o.op = .binOp .eql T x (.const .nilFunc) T') (hu : P.underlying T = some (.func ps rs va)) (hx : opO e x = some (.func f u v)) : AOp P σ e o (.bool false) σ :=
  op_bin ho (opO_eq hx) rfl fun s cx cy _ _ h1 h2 => by
    obtain ⟨vf, vc, rfl, _⟩ := h1.inv_func
    have e2 : cy = .nilFunc := h2.inv_nilf
    subst e2
    exact ⟨_, run_eqF s.w hu _ false (.inr ⟨rfl, _, _, _, rfl⟩), .bool _, eqGuard_F s.w _ _ _ (.inr ⟨_, _, _, rfl⟩)⟩
theorem op_eqFNil {P : Program} {σ : List AO} {e : Env} {o : Oper} {T T' : TypeId} {x : Operand} {ps rs : Array TypeId} {va : Bool} (ho : o.op = .binOp .eql T x (.const .nilFunc) T') (hu : P.underlying T = some (.func ps rs va)) (hx : opO e x = some .nilf) : AOp P σ e o (.bool true) σ :=
  op_bin ho (opO_eq hx) rfl fun s cx cy _ _ h1 h2 => by
    have e1 := h1.inv_nilf
    have e2 : cy = .nilFunc := h2.inv_nilf
    subst e1; subst e2
    exact ⟨_, run_eqF s.w hu _ true (.inl ⟨rfl, rfl⟩), .bool _, eqGuard_F s.w _ _ _ (.inl rfl)⟩
/-- What the program's rule answers for a kind of keyword. -/
def ruleV : Nat → AV
  | 1 => .func (.func 64) [] []
  | 2 => .func (.func 65) [] []
  | 3 => .func (.func 66) [] []
  | 4 => .func (.func 63) [] [.pp [.int .i64 2]]
  | 5 => .func (.func 67) [] []
  | 6 => .func (.func 63) [] [.pp [.int .i64 1]]
  | 7 => .func (.func 68) [] []
  | 8 => .func (.func 69) [] []
  | 9 => .func (.func 70) [] []
  | 10 => .func (.func 71) [] []
  | 11 => .func (.func 63) [] [.pp [.int .i64 3]]
  | _ => .nilf
theorem ruleV_call (c : Nat) (v : JV) (hc : 1 ≤ c ∧ c ≤ 11) (hl : v.l.length ≤ 1000000000) (hm : v.m.length ≤ 1000000000) (hw : v.kind = 2 → rWhole v.n = decide (0 ≤ v.n.exp)) : ∃ k fn cp, ruleV c = .func (.func k) [] cp ∧ Tryd.prog.funcs[k]? = some fn ∧ (fn.name == "runtime.NumGoroutine") = false ∧ fn.body.isNone = false ∧ ∀ σ, ACalls Tryd.prog k (.agg (vcells v) :: cp) σ (Ret (.bool (kOK c v)) σ) := by
  obtain ⟨h1, h2⟩ := hc
  match c, h1, h2 with
  | 1, _, _ => exact ⟨_, _, [], rfl, Tryd.func64, rfl, rfl, fun σ => typ_c v σ hl⟩
  | 2, _, _ => exact ⟨_, _, [], rfl, Tryd.func65, rfl, rfl, fun σ => some_c v σ⟩
  | 3, _, _ => exact ⟨_, _, [], rfl, Tryd.func66, rfl, rfl, fun σ => rul2_c v σ⟩
  | 4, _, _ => exact ⟨_, _, _, rfl, Tryd.func63, rfl, rfl, fun σ => rul11_c v 2 σ⟩
  | 5, _, _ => exact ⟨_, _, [], rfl, Tryd.func67, rfl, rfl, fun σ => cnt_c v σ hw⟩
  | 6, _, _ => exact ⟨_, _, _, rfl, Tryd.func63, rfl, rfl, fun σ => rul11_c v 1 σ⟩
  | 7, _, _ => exact ⟨_, _, [], rfl, Tryd.func68, rfl, rfl, fun σ => txt_c v σ hl⟩
  | 8, _, _ => exact ⟨_, _, [], rfl, Tryd.func69, rfl, rfl, fun σ => sch_c v σ⟩
  | 9, _, _ => exact ⟨_, _, [], rfl, Tryd.func70, rfl, rfl, fun σ => mem_c v σ hm⟩
  | 10, _, _ => exact ⟨_, _, [], rfl, Tryd.func71, rfl, rfl, fun σ => schs_c v σ hl⟩
  | 11, _, _ => exact ⟨_, _, _, rfl, Tryd.func63, rfl, rfl, fun σ => rul11_c v 3 σ⟩
theorem rule_c (name : ByteArray) (σ : List AO) : ACalls Tryd.prog 46 [.str name] σ (Ret (ruleV (rk name)) σ) := by
 refine ACalls_body Tryd.func46 rfl Tryd.ntmps46 (res1 Tryd.results46) (Nat.le_of_ble_eq_true rfl) (fun hcl hal => ?_)
 refine zw1 ?_
 refine zw1 ?_
 refine AWp_seq ?_
 refine zw1 ?_
 refine AWp_block ?_
 refine zw2 ?_
 refine AWp_cond rfl (fun h1 => ?_) (fun h1 => ?_)
 ·(try rw [h1]); replace h1 := zcl h1
  have hk : rk name = 1 := by rw [h1]; decide +kernel
  refine zw1 ?_
  refine zrt ?_
  rw [hk]; exact ResQ_10 rfl hcl (by simp [AV.lt, AV.ltL]) (Ret_of rfl)
 ·(try rw [h1]); replace h1 := zcl h1
  refine zw2 ?_
  refine AWp_cond rfl (fun h2 => ?_) (fun h2 => ?_)
  ·(try rw [h2]); replace h2 := zcl h2
   have hk : rk name = 2 := by rw [h2]; decide +kernel
   refine zw1 ?_
   refine zrt ?_
   rw [hk]; exact ResQ_10 rfl hcl (by simp [AV.lt, AV.ltL]) (Ret_of rfl)
  ·(try rw [h2]); replace h2 := zcl h2
   refine zw2 ?_
   refine AWp_cond rfl (fun h3 => ?_) (fun h3 => ?_)
   ·(try rw [h3]); replace h3 := zcl h3
    have hk : rk name = 3 := by rw [h3]; decide +kernel
    refine zw1 ?_
    refine zrt ?_
    rw [hk]; exact ResQ_10 rfl hcl (by simp [AV.lt, AV.ltL]) (Ret_of rfl)
   ·(try rw [h3]); replace h3 := zcl h3
    refine AWp_seq ?_
    refine zw2 ?_
    refine AWp_cond rfl (fun h4 => ?_) (fun h4 => ?_)
    ·(try rw [h4]); replace h4 := zcl h4
     have hk : rk name = 4 := by rw [h4]; decide +kernel
     refine AWp_skip ?_
     refine AWp_condT rfl ?_
     refine zu1 ?_
     refine zt rfl (op_callF rfl rfl rfl (by exact Tryd.func62) rfl rfl (rul1_c 2 _)) ?_
     refine zv1 ?_
     refine zrt ?_
     rw [hk]; exact ResQ_10 rfl hcl (by simp [AV.lt, AV.ltL]) (Ret_of rfl)
    ·(try rw [h4]); replace h4 := zcl h4
     refine AWp_regL ?_
     refine zv2 ?_
     refine AWp_cond rfl (fun h5 => ?_) (fun h5 => ?_)
     ·(try rw [h5]); replace h5 := zcl h5
      have hk : rk name = 4 := by rw [h5]; decide +kernel
      refine zu1 ?_
      refine zt rfl (op_callF rfl rfl rfl (by exact Tryd.func62) rfl rfl (rul1_c 2 _)) ?_
      refine zv1 ?_
      refine zrt ?_
      rw [hk]; exact ResQ_10 rfl hcl (by simp [AV.lt, AV.ltL]) (Ret_of rfl)
     ·(try rw [h5]); replace h5 := zcl h5
      refine AWp_seq ?_
      refine zw2 ?_
      refine AWp_cond rfl (fun h6 => ?_) (fun h6 => ?_)
      ·(try rw [h6]); replace h6 := zcl h6
       have hk : rk name = 5 := by rw [h6]; decide +kernel
       refine AWp_skip ?_
       refine AWp_condT rfl ?_
       refine zw1 ?_
       refine zrt ?_
       rw [hk]; exact ResQ_10 rfl hcl (by simp [AV.lt, AV.ltL]) (Ret_of rfl)
      ·(try rw [h6]); replace h6 := zcl h6
       refine zw2 ?_
       refine AWp_cond rfl (fun h7 => ?_) (fun h7 => ?_)
       ·(try rw [h7]); replace h7 := zcl h7
        have hk : rk name = 5 := by rw [h7]; decide +kernel
        refine AWp_skip ?_
        refine AWp_condT rfl ?_
        refine zw1 ?_
        refine zrt ?_
        rw [hk]; exact ResQ_10 rfl hcl (by simp [AV.lt, AV.ltL]) (Ret_of rfl)
       ·(try rw [h7]); replace h7 := zcl h7
        refine zw2 ?_
        refine AWp_cond rfl (fun h8 => ?_) (fun h8 => ?_)
        ·(try rw [h8]); replace h8 := zcl h8
         have hk : rk name = 5 := by rw [h8]; decide +kernel
         refine AWp_skip ?_
         refine AWp_condT rfl ?_
         refine zw1 ?_
         refine zrt ?_
         rw [hk]; exact ResQ_10 rfl hcl (by simp [AV.lt, AV.ltL]) (Ret_of rfl)
        ·(try rw [h8]); replace h8 := zcl h8
         refine AWp_regL ?_
         refine zv2 ?_
         refine AWp_cond rfl (fun h9 => ?_) (fun h9 => ?_)
         ·(try rw [h9]); replace h9 := zcl h9
          have hk : rk name = 5 := by rw [h9]; decide +kernel
          refine zw1 ?_
          refine zrt ?_
          rw [hk]; exact ResQ_10 rfl hcl (by simp [AV.lt, AV.ltL]) (Ret_of rfl)
         ·(try rw [h9]); replace h9 := zcl h9
          refine zw2 ?_
          refine AWp_cond rfl (fun h10 => ?_) (fun h10 => ?_)
          ·(try rw [h10]); replace h10 := zcl h10
           have hk : rk name = 6 := by rw [h10]; decide +kernel
           refine zu1 ?_
           refine zt rfl (op_callF rfl rfl rfl (by exact Tryd.func62) rfl rfl (rul1_c 1 _)) ?_
           refine zv1 ?_
           refine zrt ?_
           rw [hk]; exact ResQ_10 rfl hcl (by simp [AV.lt, AV.ltL]) (Ret_of rfl)
          ·(try rw [h10]); replace h10 := zcl h10
           refine zw2 ?_
           refine AWp_cond rfl (fun h11 => ?_) (fun h11 => ?_)
           ·(try rw [h11]); replace h11 := zcl h11
            have hk : rk name = 7 := by rw [h11]; decide +kernel
            refine zw1 ?_
            refine zrt ?_
            rw [hk]; exact ResQ_10 rfl hcl (by simp [AV.lt, AV.ltL]) (Ret_of rfl)
           ·(try rw [h11]); replace h11 := zcl h11
            refine AWp_seq ?_
            refine zw2 ?_
            refine AWp_cond rfl (fun h12 => ?_) (fun h12 => ?_)
            ·(try rw [h12]); replace h12 := zcl h12
             have hk : rk name = 8 := by rw [h12]; decide +kernel
             refine AWp_skip ?_
             refine AWp_condT rfl ?_
             refine zw1 ?_
             refine zrt ?_
             rw [hk]; exact ResQ_10 rfl hcl (by simp [AV.lt, AV.ltL]) (Ret_of rfl)
            ·(try rw [h12]); replace h12 := zcl h12
             refine zw2 ?_
             refine AWp_cond rfl (fun h13 => ?_) (fun h13 => ?_)
             ·(try rw [h13]); replace h13 := zcl h13
              have hk : rk name = 8 := by rw [h13]; decide +kernel
              refine AWp_skip ?_
              refine AWp_condT rfl ?_
              refine zw1 ?_
              refine zrt ?_
              rw [hk]; exact ResQ_10 rfl hcl (by simp [AV.lt, AV.ltL]) (Ret_of rfl)
             ·(try rw [h13]); replace h13 := zcl h13
              refine AWp_regL ?_
              refine zv2 ?_
              refine AWp_cond rfl (fun h14 => ?_) (fun h14 => ?_)
              ·(try rw [h14]); replace h14 := zcl h14
               have hk : rk name = 8 := by rw [h14]; decide +kernel
               refine zw1 ?_
               refine zrt ?_
               rw [hk]; exact ResQ_10 rfl hcl (by simp [AV.lt, AV.ltL]) (Ret_of rfl)
              ·(try rw [h14]); replace h14 := zcl h14
               refine AWp_seq ?_
               refine zw2 ?_
               refine AWp_cond rfl (fun h15 => ?_) (fun h15 => ?_)
               ·(try rw [h15]); replace h15 := zcl h15
                have hk : rk name = 9 := by rw [h15]; decide +kernel
                refine AWp_skip ?_
                refine AWp_condT rfl ?_
                refine zw1 ?_
                refine zrt ?_
                rw [hk]; exact ResQ_10 rfl hcl (by simp [AV.lt, AV.ltL]) (Ret_of rfl)
               ·(try rw [h15]); replace h15 := zcl h15
                refine AWp_regL ?_
                refine zv2 ?_
                refine AWp_cond rfl (fun h16 => ?_) (fun h16 => ?_)
                ·(try rw [h16]); replace h16 := zcl h16
                 have hk : rk name = 9 := by rw [h16]; decide +kernel
                 refine zw1 ?_
                 refine zrt ?_
                 rw [hk]; exact ResQ_10 rfl hcl (by simp [AV.lt, AV.ltL]) (Ret_of rfl)
                ·(try rw [h16]); replace h16 := zcl h16
                 refine AWp_seq ?_
                 refine zw2 ?_
                 refine AWp_cond rfl (fun h17 => ?_) (fun h17 => ?_)
                 ·(try rw [h17]); replace h17 := zcl h17
                  have hk : rk name = 10 := by rw [h17]; decide +kernel
                  refine AWp_skip ?_
                  refine AWp_condT rfl ?_
                  refine zw1 ?_
                  refine zrt ?_
                  rw [hk]; exact ResQ_10 rfl hcl (by simp [AV.lt, AV.ltL]) (Ret_of rfl)
                 ·(try rw [h17]); replace h17 := zcl h17
                  refine zw2 ?_
                  refine AWp_cond rfl (fun h18 => ?_) (fun h18 => ?_)
                  ·(try rw [h18]); replace h18 := zcl h18
                   have hk : rk name = 10 := by rw [h18]; decide +kernel
                   refine AWp_skip ?_
                   refine AWp_condT rfl ?_
                   refine zw1 ?_
                   refine zrt ?_
                   rw [hk]; exact ResQ_10 rfl hcl (by simp [AV.lt, AV.ltL]) (Ret_of rfl)
                  ·(try rw [h18]); replace h18 := zcl h18
                   refine AWp_regL ?_
                   refine zv2 ?_
                   refine AWp_cond rfl (fun h19 => ?_) (fun h19 => ?_)
                   ·(try rw [h19]); replace h19 := zcl h19
                    have hk : rk name = 10 := by rw [h19]; decide +kernel
                    refine zw1 ?_
                    refine zrt ?_
                    rw [hk]; exact ResQ_10 rfl hcl (by simp [AV.lt, AV.ltL]) (Ret_of rfl)
                   ·(try rw [h19]); replace h19 := zcl h19
                    refine zw2 ?_
                    refine AWp_cond rfl (fun h20 => ?_) (fun h20 => ?_)
                    ·(try rw [h20]); replace h20 := zcl h20
                     have hk : rk name = 11 := by rw [h20]; decide +kernel
                     refine zu1 ?_
                     refine zt rfl (op_callF rfl rfl rfl (by exact Tryd.func62) rfl rfl (rul1_c 3 _)) ?_
                     refine zv1 ?_
                     refine zrt ?_
                     rw [hk]; exact ResQ_10 rfl hcl (by simp [AV.lt, AV.ltL]) (Ret_of rfl)
                    ·(try rw [h20]); replace h20 := zcl h20
                     refine AWp_skip ?_
                     refine zw1 ?_
                     refine zrt ?_
                     have hk : rk name = 0 := by simp [rk, kwL, *]
                     rw [hk]; exact ResQ_10 rfl hcl (by simp [AV.lt, AV.ltL]) (Ret_of rfl)
end Lg
set_option maxRecDepth 20000
set_option maxHeartbeats 4000000
namespace Lg
open Go Go.Proofs Go.RowKit
variable [GLay] 
def cerv (k : Int) : AV := if k = 0 then .nili else .iface 65 (.int .i64 k)
theorem op_eqRule {P : Program} {σ : List AO} {e : Env} {o : Oper} {T T' : TypeId} {x : Operand} {ps rs : Array TypeId} {va : Bool} {c : Nat} (hc : c ≤ 11) (ho : o.op = .binOp .eql T x (.const .nilFunc) T') (hu : P.underlying T = some (.func ps rs va)) (hx : opO e x = some (ruleV c)) : AOp P σ e o (.bool (decide (c = 0))) σ := by
  match c, hc with
  | 0, _ => exact op_eqFNil ho hu hx
  | 1, _ => exact op_eqFN ho hu hx
  | 2, _ => exact op_eqFN ho hu hx
  | 3, _ => exact op_eqFN ho hu hx
  | 4, _ => exact op_eqFN ho hu hx
  | 5, _ => exact op_eqFN ho hu hx
  | 6, _ => exact op_eqFN ho hu hx
  | 7, _ => exact op_eqFN ho hu hx
  | 8, _ => exact op_eqFN ho hu hx
  | 9, _ => exact op_eqFN ho hu hx
  | 10, _ => exact op_eqFN ho hu hx
  | 11, _ => exact op_eqFN ho hu hx
theorem rk_le (n : ByteArray) : rk n ≤ 11 := by
  unfold rk
  cases h : kwL.find? fun q => decide (n = q.1) with
  | none => simp
  | some q =>
    have hm := List.mem_of_find?_eq_some h
    simp only [Option.map_some, Option.getD_some]
    have : ∀ q ∈ kwL, q.2 ≤ 11 := by decide +kernel
    exact this q hm
theorem check_c (name : ByteArray) (v : JV) (σ : List AO) (hl : v.l.length ≤ 1000000000) (hm : v.m.length ≤ 1000000000) (hw : v.kind = 2 → rWhole v.n = decide (0 ≤ v.n.exp)) : ACalls Tryd.prog 20 [.str name, .agg (vcells v)] σ (Ret (cerv (rShape name v)) σ) := by
 refine ACalls_body Tryd.func20 rfl Tryd.ntmps20 (res1 Tryd.results20) (Nat.le_of_ble_eq_true rfl) (fun hcl hal => ?_)
 rw [vcells_eq v]
 have hkl := rk_le name
 refine zw2 ?_
 refine zu1 ?_
 refine zt rfl (zc rfl (rule_c name _)) ?_
 refine zv1 ?_
 refine AWp_seq ?_
 refine AWp_block ?_
 refine zu1 ?_
 refine zt rfl (op_eqRule hkl rfl Tryd.underlying76 rfl) ?_
 refine zv1 ?_
 refine AWp_cond rfl (fun h1 => ?_) (fun h1 => ?_)
 ·(try rw [h1]); replace h1 := zcl h1
  refine zw2 ?_
  refine zrt ?_
  refine ResQ_1 rfl hcl (by simp [AV.lt]) (Ret_of ?_)
  unfold rShape cerv; simp [h1]
 ·(try rw [h1]); replace h1 := zcl h1
  obtain ⟨k, fn, cp, hrv, hfn, hname, hb, hcall⟩ := ruleV_call (rk name) v ⟨by omega, hkl⟩ hl hm hw
  rw [hrv]
  refine zu2 ?_
  refine zt rfl (op_callF rfl rfl rfl hfn hname hb (vcells_eq v ▸ hcall _)) ?_
  refine zv2 ?_
  refine AWp_cond rfl (fun h2 => ?_) (fun h2 => ?_)
  ·(try rw [h2]); replace h2 := zcl h2
   refine zw2 ?_
   refine zrt ?_
   refine ResQ_1 rfl hcl (by simp [AV.lt]) (Ret_of ?_)
   unfold rShape cerv; simp [h1, h2]
  ·(try rw [h2]); replace h2 := zcl h2
   refine AWp_skip ?_
   refine zw1 ?_
   refine zrt ?_
   refine ResQ_1 rfl hcl (by simp [AV.lt]) (Ret_of ?_)
   unfold rShape cerv; simp [h1, h2]

theorem rk8 {n : ByteArray} (h1 : ¬ n = ⟨#[105, 116, 101, 109, 115]⟩) (h2 : ¬ n = ⟨#[97, 100, 100, 105, 116, 105, 111, 110, 97, 108, 80, 114, 111, 112, 101, 114, 116, 105, 101, 115]⟩) : decide (n = ⟨#[110, 111, 116]⟩) = decide (rk n = 8) := by
  by_cases h3 : n = ⟨#[110, 111, 116]⟩
  · subst h3; decide +kernel
  · rw [decide_eq_false h3]
    symm
    rw [decide_eq_false_iff_not]
    intro hk
    unfold rk at hk
    cases h : kwL.find? fun q => decide (n = q.1) with
    | none => rw [h] at hk; simp at hk
    | some q =>
      rw [h] at hk
      have hm := List.mem_of_find?_eq_some h
      have hq := List.find?_some h
      simp only [decide_eq_true_eq] at hq
      simp only [Option.map_some, Option.getD_some] at hk
      have : ∀ q ∈ kwL, q.2 = 8 → q.1 = ⟨#[105, 116, 101, 109, 115]⟩ ∨ q.1 = ⟨#[97, 100, 100, 105, 116, 105, 111, 110, 97, 108, 80, 114, 111, 112, 101, 114, 116, 105, 101, 115]⟩ ∨ q.1 = ⟨#[110, 111, 116]⟩ := by decide +kernel
      rcases this q hm hk with e | e | e
      · exact h1 (hq.trans e)
      · exact h2 (hq.trans e)
      · exact h3 (hq.trans e)
theorem single_c (name : ByteArray) (σ : List AO) : ACalls Tryd.prog 21 [.str name] σ (Ret (.bool (decide (rk name = 8))) σ) := by
 refine ACalls_body Tryd.func21 rfl Tryd.ntmps21 (res1 Tryd.results21) (Nat.le_of_ble_eq_true rfl) (fun hcl hal => ?_)
 refine zw1 ?_
 refine zu3 ?_
 refine zsp 5 rfl (fun h1 => ?_) fun h1 => ?_
 ·rw [h1]; replace h1 := zcl h1
  refine zv8 ?_
  refine zrt ?_
  refine ResQ_10 rfl hcl trivial (Ret_of ?_)
  subst h1; first | rfl | (congr 1; decide +kernel)
 ·rw [h1]; replace h1 := zcl h1
  refine zg4 ?_
  refine zsp 9 rfl (fun h2 => ?_) fun h2 => ?_
  ·rw [h2]; replace h2 := zcl h2
   refine zv4 ?_
   refine zrt ?_
   refine ResQ_10 rfl hcl trivial (Ret_of ?_)
   subst h2; first | rfl | (congr 1; decide +kernel)
  ·rw [h2]; replace h2 := zcl h2
   refine zv4 ?_
   refine zrt ?_
   refine ResQ_10 rfl hcl trivial (Ret_of ?_)
   congr 1; exact rk8 h1 h2
end Lg
namespace Lg
open Go Go.RowKit
section
variable [GLay]
variable {P : Program} {N : Nat} {σ l : List AO} {e : Env} {Q : QA} {o : Oper}
/-- A slot's value, taken for something as good. -/
theorem AWp_slotLe {c : Code} (t : Nat) {v w : AV} (hl : lookO e.l t = some v) (hle : AVle v w) (k : AWp P N c (e.put (some t) w) σ Q) (ht : t < N) : AWp P N c e σ Q := fun s0 s a hs g x he => by
  subst hs
  have hv := he.tmps t
  rw [show e.look t = v from lookO_eq hl] at hv
  exact k s0 s a rfl g x (by
    have h1 := he.put (some t) (hle _ _ hv) (fun d hd => by cases hd; exact ht)
    have h2 : a.put (some t) (a.eval (.tmp t)) = a := put_self (by rw [he.size]; exact ht)
    rwa [h2] at h1)
/-- A nil slice in a slot becomes a slice of an array of no block. -/
theorem AWp_ghostT {c : Code} (t sz : Nat) (hl : lookO e.l t = some .nils) (k : AWp P N c (e.put (some t) (.arr σ.length 0 sz 0 0)) (σ ++ [AO.arr sz 0 []]) Q) (ht : t < N) : AWp P N c e σ Q := fun s0 s a hs g x he => by
  subst hs
  obtain ⟨s1, e1, e2, g1, x1⟩ := g.ghost sz
  have hv := (he.mono g x1).tmps t
  rw [show e.look t = .nils from lookO_eq hl] at hv
  have hv0 := hv.inv_nils
  have hv' : V s1 (.arr s.σ.length 0 sz 0 0) (a.eval (.tmp t)) := by
    rw [hv0]; exact .arr _ _ _ _ _ _ rfl (.mk (cs := []) (by rw [e1]; simp) ⟨rfl, .inl ⟨none, rfl, rfl⟩⟩)
  have := k s0 s1 a e1 g1 (x.trans x1) (by
    have h1 := (he.mono g x1).put (some t) hv' (fun d hd => by cases hd; exact ht)
    have h2 : a.put (some t) (a.eval (.tmp t)) = a := put_self (by rw [he.size]; exact ht)
    rwa [h2] at h1)
  rwa [e2] at this
theorem AWp_ghostTO {c : Code} (t sz n : Nat) (hn : l.length = n) (hl : lookO e.l t = some .nils) (k : AWp P N c (e.put (some t) (.arr (σ.length + n) 0 sz 0 0)) (σ ++ (l ++ [AO.arr sz 0 []])) Q) (ht : t < N) : AWp P N c e (σ ++ l) Q :=
  AWp_ghostT t sz hl (by rw [List.length_append, hn, List.append_assoc]; exact k) ht
theorem AWp_freezeMO {c : Code} (t k gg n : Nat) (m : List (ByteArray × JV)) (hn : m.length = n) (hl : lookO e.l t = some (.arr (σ.length + k) gg 9 0 n)) (hk : l[k]? = some (.arr 9 gg (mcells m).flatten)) (h : AWp P N c (e.put (some t) (.sl false 9 (mcells m))) (σ ++ l.set k .dead) Q) (ht : t < N) : AWp P N c e (σ ++ l) Q :=
  AWp_freezeArr t (σ.length + k) gg 9 0 n hl (by rw [get_own]; exact hk) (mcells m) (by rw [Nat.zero_mul, List.drop_zero, ← hn, ← mflat_len, List.take_length]) (mrows_len _) (by rw [mcells_length, hn]) (by decide) (by rw [mflat_len]; omega) (by rw [set_own]; exact h) ht
/-- A slice asked whether it is nil: an empty one may be, or may not. -/
theorem op_eqSlR {T T' E : TypeId} {x : Operand} {f : Bool} {sz : Nat} {es : List (List AV)} (ho : o.op = .binOp .eql T x (.const (.slice none 0 0)) T') (hu : P.underlying T = some (.slice E)) (hx : opO e x = some (.sl f sz es)) :
    AOpR P σ e o (fun v σ' => σ' = σ ∧ ∃ b, v = .bool b ∧ (b = true → es = [])) (fun _ _ => False) := fun s a hs g hv K Q hk hq => by
  have h1 := opO_eq hx ▸ hv x (by simp [ho, Op.operands])
  obtain ⟨ad, len, cap, hc, hn⟩ : ∃ ad len cap, a.eval x = .slice ad len cap ∧ (ad = none → es = []) := by
    rcases h1.inv_sl with ⟨ad, h, he⟩ | ⟨b, off, cap, vs, h, _⟩
    · exact ⟨ad, 0, 0, h, fun _ => he⟩
    · exact ⟨_, _, _, h, fun h => by cases h⟩
  have he : ∀ d, (Go.Op.equalIn (d + 1) T (.slice ad len cap) (.slice none 0 0)).run P s.w = .ok ad.isNone s.w := fun d => by cases ad <;> simp [Go.Op.equalIn, run_underlying hu]
  have he' : (Go.Op.equal T (.slice ad len cap) (.slice none 0 0)).run P s.w = .ok ad.isNone s.w := he 9999
  have hb : (binOp .eql T (.slice ad len cap) (.slice none 0 0)).run P s.w = .ok (.bool ad.isNone) s.w := by
    simp only [binOp]; simp [he']
  have hg : (eqGuard .eql T x (.const (.slice none 0 0)) (.slice ad len cap) (.slice none 0 0)).run P s.w = .ok () s.w := by
    simp [eqGuard]
  have hrun : (execOp a.eval o).run P s.w = .ok (.value (.bool ad.isNone)) s.w := by
    have hc2 : a.eval (.const (.slice none 0 0)) = .slice none 0 0 := rfl
    simp [execOp, ho, hc, hc2, hb, hg]
  exact wp_value hrun (hk (.bool ad.isNone) _ s ⟨hs, _, rfl, fun h => hn (by simpa using h)⟩ g (Ext.refl s) (.bool _))
end
/-! ### Kids -/
def kZ (l : List JV) : List (ByteArray × JV) := l.zipIdx.map fun q => (itoaB q.2, q.1)
theorem kZ_len (l : List JV) : (kZ l).length = l.length := by simp [kZ]
theorem kZ_take {l : List JV} {i : Nat} {x : JV} (hx : l[i]? = some x) : kZ (l.take (i + 1)) = kZ (l.take i) ++ [(itoaB i, x)] := by
  have hi := (List.getElem?_eq_some_iff.1 hx).1
  unfold kZ
  rw [List.take_add_one, hx, List.zipIdx_append, List.map_append]
  simp [Nat.min_eq_left (Nat.le_of_lt hi)]
theorem zi_all (p : JV → Bool) (f : Nat → ByteArray) (l : List JV) : ∀ k, ((l.zipIdx k).map fun q => (f q.2, q.1)).all (fun q => p q.2) = l.all p := by
  induction l with
  | nil => intro k; rfl
  | cons a r ih => intro k; simp only [List.zipIdx_cons, List.map_cons, List.all_cons]; rw [ih]
theorem kZ_all (p : JV → Bool) (l : List JV) : (kZ l).all (fun q => p q.2) = l.all p := zi_all p (fun n => itoaB n) l 0
theorem mcells_snoc [GLay] (m : List (ByteArray × JV)) (q : ByteArray × JV) : (mcells (m ++ [q])).flatten = (mcells m).flatten ++ mrow q := by
  rw [mcells_map, mcells_map]; simp
theorem txI_step {l : List JV} {i : Nat} {x : JV} (hi : txI l i) (hx : l[i]? = some x) (h2 : x.kind = 3) (hn : ∀ (b : Nat) y, b < i → l[b]? = some y → ¬ x.s = y.s) : txI l (i + 1) := by
  intro a y ha hy
  by_cases e : a = i
  · subst e; rw [hx] at hy; cases hy; exact ⟨h2, hn⟩
  · exact hi a y (by omega) hy
end Lg
set_option maxRecDepth 20000
set_option maxHeartbeats 4000000
namespace Lg
open Go Go.Proofs Go.RowKit
variable [GLay] 
theorem rwhole_c (n : JNum) (σ : List AO) : ACalls Tryd.prog 43 [.agg (ncells n)] σ (Ret (.bool (rWhole n)) σ) := by
 refine ACalls_body Tryd.func43 rfl Tryd.ntmps43 (res1 Tryd.results43) (Nat.le_of_ble_eq_true rfl) (fun hcl hal => ?_)
 refine zw2 ?_
 refine zu4 ?_
 refine zsp 6 rfl (fun h1 => ?_) fun h1 => ?_
 ·rw [h1]; replace h1 := zcl h1
  refine zv5 ?_
  refine zrt ?_
  refine ResQ_1 rfl hcl trivial (Ret_of ?_)
  congr 1; unfold rWhole; simp [*]
 ·rw [h1]; replace h1 := zcl h1
  refine zv5 ?_
  refine zrt ?_
  refine ResQ_1 rfl hcl trivial (Ret_of ?_)
  congr 1; unfold rWhole; simp [*]

theorem rtxt_c (v : JV) (σ : List AO) (hl : v.l.length ≤ 1000000000) : ACalls Tryd.prog 41 [.agg (vcells v)] σ (Ret (.bool (txB v)) σ) := by
 refine ACalls_body Tryd.func41 rfl Tryd.ntmps41 (res1 Tryd.results41) (Nat.le_of_ble_eq_true rfl) (fun hcl hal => ?_)
 rw [vcells_eq v]
 have hll := lcells_length v.l
 refine zw2 ?_
 refine AWp_seq ?_
 refine zw1 ?_
 refine AWp_block ?_
 -- loop 0 LIVE 1:box 2:assign 3:assign
 refine AWp_loop (ι := Nat) (fun i => i ≤ v.l.length ∧ txI v.l i) (fun i => ⟨[], [(1, .ptr (σ.length + 0) 0), (3, .int .i64 (i : Int))]⟩) (fun i => σ ++ [_]) (fun i => v.l.length - i) (0) (⟨Nat.zero_le _, fun a x h => absurd h (by omega)⟩) ?_ rfl (fun i hi => ?_)
 ·exact ⟨rfl, rfl, rfl, trivial⟩
 obtain ⟨hi1, hi2⟩ := hi
 refine AWp_seq ?_
 refine zw5 ?_
 refine AWp_cond rfl (fun h1 => ?_) (fun h1 => ?_)
 ·(try rw [h1]); replace h1 := zcl h1
  obtain ⟨x, hx⟩ : ∃ x, v.l[i]? = some x := ⟨_, List.getElem?_eq_getElem (show i < v.l.length by omega)⟩
  refine AWp_skip ?_
  refine AWp_seq ?_
  refine AWp_block ?_
  refine AWp_seq ?_
  refine zw1 ?_
  refine AWp_block ?_
  -- loop 1 LIVE 1:box 2:assign 3:assign 4:assign
  refine AWp_loop (ι := Nat) (fun k => k ≤ i ∧ ∀ (b : Nat) y, b < k → v.l[b]? = some y → ¬ x.s = y.s) (fun k => ⟨[], [(1, .ptr (σ.length + 0) 0), (3, .int .i64 (i : Int)), (4, .int .i64 (k : Int))]⟩) (fun k => σ ++ [_]) (fun k => i - k) (0) (⟨Nat.zero_le _, fun b y h => absurd h (by omega)⟩) ?_ rfl (fun k hk => ?_)
  ·exact ⟨rfl, rfl, rfl, rfl, trivial⟩
  obtain ⟨hk1, hk2⟩ := hk
  refine AWp_seq ?_
  refine zw3 ?_
  refine AWp_cond rfl (fun h2 => ?_) (fun h2 => ?_)
  ·(try rw [h2]); replace h2 := zcl h2
   obtain ⟨y, hy⟩ : ∃ y, v.l[k]? = some y := ⟨_, List.getElem?_eq_getElem (show k < v.l.length by omega)⟩
   refine AWp_skip ?_
   refine AWp_seq ?_
   refine AWp_block ?_
   refine AWp_seq ?_
   refine AWp_drawL #[0, 1, 0, 7, 15, 31, 0, 64, 0, 448, 960, 1984, 4095] Tryd.mixed (by decide +kernel) (by decide +kernel) ?_
   refine zd1 ?_
   refine zp1 ?_
   refine zd2 ?_
   rw [vcells_eq x]
   refine zd1 ?_
   refine zp1 ?_
   refine zd1 ?_
   refine zp1 ?_
   refine zd2 ?_
   rw [vcells_eq y]
   refine zd1 ?_
   refine zp1 ?_
   refine zd1 ?_
   refine RP.nil rfl ?_
   refine AWp_cond rfl (fun h3 => ?_) (fun h3 => ?_)
   ·(try rw [h3]); replace h3 := zcl h3
    refine zw1 ?_
    refine zrt ?_
    refine ResQ_1 rfl hcl trivial (Ret_of ?_)
    congr 1; unfold txB; rw [pb_f (fun h => (h i x (by omega) hx).2 k y (by omega) hy h3)]; rfl
   ·(try rw [h3]); replace h3 := zcl h3
    refine AWp_skip ?_
    refine AWp_regL ?_
    refine zv3 ?_
    refine ⟨k + 1, σ.length + 1, ⟨by omega, fun b z hb hz => ?_⟩, by omega, by simp, ⟨rfl, rfl, rfl, rfl, trivial⟩, closed_own 1 hcl ?_, ?_, take_own 1⟩
    ·by_cases e : b = k
     ·subst e; rw [hy] at hz; cases hz; exact h3
     ·exact hk2 b z (by omega) hz
    ·simp [ownLt, AO.cells, AV.ltL, AV.lt]
    ·simp [ltE, AV.lt]
  ·(try rw [h2]); replace h2 := zcl h2
   refine AWp_exit ?_
   refine zu4 ?_
   rw [vcells_eq x]
   refine zv3 ?_
   refine AWp_cond rfl (fun h4 => ?_) (fun h4 => ?_)
   ·(try rw [h4]); replace h4 := zcl h4
    refine zw1 ?_
    refine zrt ?_
    refine ResQ_1 rfl hcl trivial (Ret_of ?_)
    congr 1; unfold txB; rw [pb_f (fun h => h4 (h i x (by omega) hx).1)]; rfl
   ·(try rw [h4]); replace h4 := zcl h4
    refine AWp_skip ?_
    refine AWp_regL ?_
    refine zv3 ?_
    refine ⟨i + 1, σ.length + 1, ⟨by omega, txI_step hi2 hx h4 (fun b y hb hy => hk2 b y (by omega) hy)⟩, by omega, by simp, ⟨rfl, rfl, rfl, trivial⟩, closed_own 1 hcl ?_, ?_, take_own 1⟩
    ·simp [ownLt, AO.cells, AV.ltL, AV.lt]
    ·simp [ltE, AV.lt]
 ·(try rw [h1]); replace h1 := zcl h1
  refine AWp_exit ?_
  refine zw4 ?_
  refine zrt ?_
  refine ResQ_1 rfl hcl trivial (Ret_of ?_)
  congr 1; unfold txB; rw [pb_t (show txI v.l v.l.length by rw [← show i = v.l.length by omega]; exact hi2)]; rfl

theorem rtyp_c (v : JV) (σ : List AO) : ACalls Tryd.prog 42 [.agg (vcells v)] σ (Ret (.bool (tyB v)) σ) := by
 refine ACalls_body Tryd.func42 rfl Tryd.ntmps42 (res1 Tryd.results42) (Nat.le_of_ble_eq_true rfl) (fun hcl hal => ?_)
 rw [vcells_eq v]
 have h7 : (tyL.map fun x => [AV.str x]).length = 7 := rfl
 have h7l : tyL.length = 7 := rfl
 refine zw2 ?_
 refine zsr ?_
 refine zt rfl (op_buildSlice [[_], [_], [_], [_], [_], [_], [_]] rfl Tryd.underlying48 Tryd.sizeOf9 Tryd.zeroValue9 rfl (by decide) (by decide) rfl rfl rfl rfl rfl) ?_
 refine zv1 ?_
 refine AWp_seq ?_
 refine zw1 ?_
 refine AWp_block ?_
 -- loop 0 LIVE 1:box 2:assign 3:assign 4:assign
 refine AWp_loop (ι := Nat) (fun i => i ≤ 7 ∧ ∀ (j : Nat) t, j < i → tyL[j]? = some t → ¬ (v.kind = 3 ∧ v.s = t)) (fun i => ⟨[], [(1, .ptr (σ.length + 0) 0), (3, .sl true 1 (tyL.map fun x => [AV.str x])), (4, .int .i64 (i : Int))]⟩) (fun i => σ ++ [_]) (fun i => 7 - i) (0) (⟨Nat.zero_le _, fun j t h => absurd h (by omega)⟩) ?_ rfl (fun i hi => ?_)
 ·exact ⟨rfl, rfl, rfl, rfl, trivial⟩
 obtain ⟨hi1, hi2⟩ := hi
 refine AWp_seq ?_
 refine zw4 ?_
 refine AWp_cond rfl (fun h1 => ?_) (fun h1 => ?_)
 ·(try rw [h1]); replace h1 := zcl h1
  obtain ⟨t, ht⟩ : ∃ t, tyL[i]? = some t := ⟨_, List.getElem?_eq_getElem (show i < tyL.length by omega)⟩
  have htr : (tyL.map fun x => [AV.str x])[i]? = some [.str t] := by rw [List.getElem?_map, ht]; rfl
  refine AWp_skip ?_
  refine AWp_seq ?_
  refine AWp_block ?_
  refine AWp_seq ?_
  refine AWp_drawL #[0, 1, 3, 7, 15, 31, 15, 15, 207, 463, 1023, 2047] Tryd.mixed (by decide +kernel) (by decide +kernel) ?_
  refine zd1 ?_
  refine zp1 ?_
  refine zd2 ?_
  refine zspr 15 rfl (fun h2 => ?_) fun h2 => ?_
  ·rw [h2]; replace h2 := zcl h2
   refine zd1 ?_
   refine zp1 ?_
   refine zd2 ?_
   refine yAG rfl rfl rfl (fun _ => op_indexAddr rfl Tryd.underlying48 Tryd.sizeOf9 rfl rfl (by omega) (htr)) ?_
   refine zp1 ?_
   refine zd2 ?_
   refine RP.nil rfl ?_
   refine AWp_cond rfl (fun h3 => ?_) (fun h3 => ?_)
   ·(try rw [h3]); replace h3 := zcl h3
    refine zw1 ?_
    refine zrt ?_
    refine ResQ_1 rfl hcl trivial (Ret_of ?_)
    congr 1; symm; unfold tyB; rw [decide_eq_true h2, Bool.true_and, List.any_eq_true]; exact ⟨t, List.mem_of_getElem? ht, by simpa using h3⟩
   ·(try rw [h3]); replace h3 := zcl h3
    refine AWp_skip ?_
    refine AWp_regL ?_
    refine zv3 ?_
    refine ⟨i + 1, σ.length + 1, ⟨by omega, fun j u hj hu hc => ?_⟩, by omega, by simp, ⟨rfl, rfl, rfl, rfl, trivial⟩, closed_own 1 hcl ?_, ?_, take_own 1⟩
    ·by_cases e : j = i
     ·subst e; rw [ht] at hu; cases hu; first | exact h3 hc.2 | exact h2 hc.1
     ·exact hi2 j u (by omega) hu hc
    ·simp [ownLt, AO.cells, AV.ltL, AV.lt]
    ·simp [ltE, AV.lt, ltLL_str]
  ·rw [h2]; replace h2 := zcl h2
   refine zd8 ?_
   refine RP.nil rfl ?_
   refine AWp_condF rfl ?_
   refine AWp_skip ?_
   refine AWp_regL ?_
   refine zv3 ?_
   refine ⟨i + 1, σ.length + 1, ⟨by omega, fun j u hj hu hc => ?_⟩, by omega, by simp, ⟨rfl, rfl, rfl, rfl, trivial⟩, closed_own 1 hcl ?_, ?_, take_own 1⟩
   ·by_cases e : j = i
    ·subst e; rw [ht] at hu; cases hu; first | exact h3 hc.2 | exact h2 hc.1
    ·exact hi2 j u (by omega) hu hc
   ·simp [ownLt, AO.cells, AV.ltL, AV.lt]
   ·simp [ltE, AV.lt, ltLL_str]
 ·(try rw [h1]); replace h1 := zcl h1
  refine AWp_exit ?_
  refine zw1 ?_
  refine zrt ?_
  refine ResQ_1 rfl hcl trivial (Ret_of ?_)
  congr 1; symm; unfold tyB
  by_cases h : v.kind = 3
  ·rw [decide_eq_true h, Bool.true_and, List.any_eq_false]
   intro t ht
   obtain ⟨j, hj⟩ := List.getElem?_of_mem ht
   have := hi2 j t (by have := (List.getElem?_eq_some_iff.1 hj).1; omega) hj
   simp only [decide_eq_true_eq]; exact fun e => this ⟨h, e⟩
  ·rw [decide_eq_false h]; rfl

theorem rsch_c (v : JV) (σ : List AO) : ACalls Tryd.prog 44 [.agg (vcells v)] σ (Ret (.bool (schB v)) σ) := by
 refine ACalls_body Tryd.func44 rfl Tryd.ntmps44 (res1 Tryd.results44) (Nat.le_of_ble_eq_true rfl) (fun hcl hal => ?_)
 rw [vcells_eq v]
 refine zw2 ?_
 refine zu4 ?_
 refine zsp 6 rfl (fun h1 => ?_) fun h1 => ?_
 ·rw [h1]; replace h1 := zcl h1
  refine zv5 ?_
  refine zrt ?_
  refine ResQ_1 rfl hcl trivial (Ret_of ?_)
  congr 1; simp [schB, *]
 ·rw [h1]; replace h1 := zcl h1
  refine zv5 ?_
  refine zrt ?_
  refine ResQ_1 rfl hcl trivial (Ret_of ?_)
  congr 1; simp [schB, *]

theorem rall_c (m : List (ByteArray × JV)) (σ : List AO) (hm : m.length ≤ 1000000000) : ACalls Tryd.prog 45 [.sl false 9 (mcells m)] σ (Ret (.bool (m.all fun q => schB q.2)) σ) := by
 refine ACalls_body Tryd.func45 rfl Tryd.ntmps45 (res1 Tryd.results45) (Nat.le_of_ble_eq_true rfl) (fun hcl hal => ?_)
 have hml := mcells_length m
 refine zw1 ?_
 refine AWp_seq ?_
 refine zw1 ?_
 refine AWp_block ?_
 -- loop 0 LIVE 0:param 2:assign 3:assign
 refine AWp_loop (ι := Nat) (fun i => i ≤ m.length ∧ ∀ (j : Nat) q, j < i → m[j]? = some q → schB q.2 = true) (fun i => ⟨[], [(0, .sl false 9 (mcells m)), (3, .int .i64 (i : Int))]⟩) (fun i => σ) (fun i => m.length - i) (0) (⟨Nat.zero_le _, fun j q h => absurd h (by omega)⟩) ?_ rfl (fun i hi => ?_)
 ·exact ⟨rfl, rfl, rfl, trivial⟩
 obtain ⟨hi1, hi2⟩ := hi
 refine AWp_seq ?_
 refine zw4 ?_
 refine AWp_cond rfl (fun h1 => ?_) (fun h1 => ?_)
 ·(try rw [h1]); replace h1 := zcl h1
  obtain ⟨q, hq⟩ : ∃ q, m[i]? = some q := ⟨_, List.getElem?_eq_getElem (show i < m.length by omega)⟩
  refine AWp_skip ?_
  refine AWp_seq ?_
  refine AWp_block ?_
  refine zu3 ?_
  rw [vcells_eq q.2]
  refine zg2 ?_
  refine zt rfl (zc rfl (vcells_eq q.2 ▸ rsch_c q.2 _)) ?_
  refine zv1 ?_
  refine zw2 ?_
  refine AWp_cond rfl (fun h2 => ?_) (fun h2 => ?_)
  ·(try rw [h2]); replace h2 := zcl h2
   refine zw1 ?_
   refine zrt ?_
   refine ResQ_10 rfl hcl trivial (Ret_of ?_)
   congr 1; symm; rw [List.all_eq_false]; exact ⟨q, List.mem_of_getElem? hq, by simpa using h2⟩
  ·(try rw [h2]); replace h2 := zcl h2
   refine AWp_skip ?_
   refine AWp_regL ?_
   refine zv3 ?_
   refine ⟨i + 1, σ.length, ⟨by omega, fun j u hj hu => ?_⟩, by omega, Nat.le_refl _, ⟨rfl, rfl, rfl, trivial⟩, hcl, ?_, List.take_length⟩
   ·by_cases e : j = i
    ·subst e; rw [hq] at hu; cases hu; simpa using h2
    ·exact hi2 j u (by omega) hu
   ·simp [ltE, AV.lt]
 ·(try rw [h1]); replace h1 := zcl h1
  refine AWp_exit ?_
  refine zw1 ?_
  refine zrt ?_
  refine ResQ_10 rfl hcl trivial (Ret_of ?_)
  congr 1; symm; rw [List.all_eq_true]; intro q hq; obtain ⟨j, hj⟩ := List.getElem?_of_mem hq; exact hi2 j q (by have := (List.getElem?_eq_some_iff.1 hj).1; omega) hj

theorem rsingle_c (name : ByteArray) (σ : List AO) : ACalls Tryd.prog 22 [.str name] σ (Ret (.bool (decide (rk name = 8))) σ) := by
 refine ACalls_body Tryd.func22 rfl Tryd.ntmps22 (res1 Tryd.results22) (Nat.le_of_ble_eq_true rfl) (fun hcl hal => ?_)
 refine zw1 ?_
 refine zu3 ?_
 refine zsp 5 rfl (fun h1 => ?_) fun h1 => ?_
 ·rw [h1]; replace h1 := zcl h1
  refine zv8 ?_
  refine zrt ?_
  refine ResQ_10 rfl hcl trivial (Ret_of ?_)
  subst h1; first | rfl | (congr 1; decide +kernel)
 ·rw [h1]; replace h1 := zcl h1
  refine zg4 ?_
  refine zsp 9 rfl (fun h2 => ?_) fun h2 => ?_
  ·rw [h2]; replace h2 := zcl h2
   refine zv4 ?_
   refine zrt ?_
   refine ResQ_10 rfl hcl trivial (Ret_of ?_)
   subst h2; first | rfl | (congr 1; decide +kernel)
  ·rw [h2]; replace h2 := zcl h2
   refine zv4 ?_
   refine zrt ?_
   refine ResQ_10 rfl hcl trivial (Ret_of ?_)
   congr 1; exact rk8 h1 h2
end Lg
set_option maxRecDepth 20000
set_option maxHeartbeats 4000000
namespace Lg
open Go Go.Proofs Go.RowKit
variable [GLay] 
theorem ritoaP (m : Nat) : ∀ (n : Int) (σ : List AO), 0 ≤ n → n < m → n ≤ 9223372036854775807 → ACalls Tryd.prog 61 [.int .i64 n] σ (Ret (.str (itoaB n)) σ) := by
 induction m with
 | zero => intro n σ h1 h2 h3; omega
 | succ m ih =>
 intro n σ hn1 hn2 hn3
 refine ACalls_body Tryd.func61 rfl Tryd.ntmps61 (res1 Tryd.results61) (Nat.le_of_ble_eq_true rfl) (fun hcl hal => ?_)
 have h1s : ∀ x, (ByteArray.mk #[x]).size = 1 := fun x => rfl
 have hsz := itoa_size (n := n / 10) (by omega) (by omega)
 have hsz2 := itoa_size (n := -n) (by omega) (by omega)
 have hs3 := h1s (u8b (48 + n % 10))
 have hs4 := h1s 45
 refine zw1 ?_
 refine AWp_seq ?_
 refine zw2 ?_
 refine AWp_cond rfl (fun h1 => ?_) (fun h1 => ?_)
 ·(try rw [h1]); replace h1 := zcl h1
  exfalso; omega
 ·(try rw [h1]); replace h1 := zcl h1
  refine AWp_skip ?_
  refine AWp_seq ?_
  refine zw2 ?_
  refine AWp_cond rfl (fun h2 => ?_) (fun h2 => ?_)
  ·(try rw [h2]); replace h2 := zcl h2
   refine zu3 ?_
   refine zt rfl (op_buildSlice [[_]] rfl Tryd.underlying56 Tryd.sizeOf5 Tryd.zeroValue5 rfl (by decide) (by decide) rfl rfl rfl rfl rfl) ?_
   refine zt rfl (op_bytesStr (b := _) (m := 1) rfl Tryd.underlying56 Tryd.underlying5 Tryd.underlying9 (bs1 ⟨by omega, by omega⟩) rfl rfl) ?_
   refine zv1 ?_
   refine zrt ?_
   rw [itoa_small (by omega) h2]
   exact ResQ_10 rfl hcl trivial (Ret_of rfl)
  ·(try rw [h2]); replace h2 := zcl h2
   refine AWp_skip ?_
   refine AWp_seq ?_
   refine AWp_drawL #[0, 1, 3, 0, 8, 24, 56, 120, 248, 511, 1023] Tryd.mixed (by decide +kernel) (by decide +kernel) ?_
   refine zd1 ?_
   refine yA rfl rfl (fun _ => op_quo64 rfl rfl rfl (by omega) (by omega) (by omega)) ?_
   refine yP rfl rfl (zc rfl (ih (n / 10) _ (by omega) (by omega) (by omega))) (trivial) ?_
   refine zd1 ?_
   refine yA rfl rfl (fun _ => op_rem64 rfl rfl rfl (by omega) (by omega)) ?_
   refine zd2 ?_
   refine yA rfl rfl (fun _ => op_buildSlice [[_]] rfl Tryd.underlying56 Tryd.sizeOf5 Tryd.zeroValue5 rfl (by decide) (by decide) rfl rfl rfl rfl rfl) ?_
   refine yA rfl rfl (fun _ => op_bytesStr (b := _) (m := 1) rfl Tryd.underlying56 Tryd.underlying5 Tryd.underlying9 (bs1 ⟨by omega, by omega⟩) rfl rfl) ?_
   refine zd2 ?_
   refine RP.nil rfl ?_
   refine zrt ?_
   rw [itoa_big (by omega)]
   exact ResQ_10 rfl hcl trivial (Ret_of rfl)

theorem ritoa_c (n : Int) (σ : List AO) (hn3 : -9223372036854775807 ≤ n) (hn4 : n ≤ 9223372036854775807) : ACalls Tryd.prog 61 [.int .i64 n] σ (Ret (.str (itoaB n)) σ) := by
 refine ACalls_body Tryd.func61 rfl Tryd.ntmps61 (res1 Tryd.results61) (Nat.le_of_ble_eq_true rfl) (fun hcl hal => ?_)
 have h1s : ∀ x, (ByteArray.mk #[x]).size = 1 := fun x => rfl
 have hsz := itoa_size (n := n / 10) (by omega) (by omega)
 have hsz2 := itoa_size (n := -n) (by omega) (by omega)
 have hs3 := h1s (u8b (48 + n % 10))
 have hs4 := h1s 45
 refine zw1 ?_
 refine AWp_seq ?_
 refine zw2 ?_
 refine AWp_cond rfl (fun h1 => ?_) (fun h1 => ?_)
 ·(try rw [h1]); replace h1 := zcl h1
  refine zu1 ?_
  refine zt rfl (op_neg64 rfl rfl (by omega) (by omega)) ?_
  refine zt rfl (zc rfl (ritoaP ((-n).toNat + 1) (-n) _ (by omega) (by omega) (by omega))) ?_
  refine zv2 ?_
  refine zrt ?_
  rw [itoa_neg h1]
  exact ResQ_10 rfl hcl trivial (Ret_of rfl)
 ·(try rw [h1]); replace h1 := zcl h1
  refine AWp_skip ?_
  refine AWp_seq ?_
  refine zw2 ?_
  refine AWp_cond rfl (fun h2 => ?_) (fun h2 => ?_)
  ·(try rw [h2]); replace h2 := zcl h2
   refine zu3 ?_
   refine zt rfl (op_buildSlice [[_]] rfl Tryd.underlying56 Tryd.sizeOf5 Tryd.zeroValue5 rfl (by decide) (by decide) rfl rfl rfl rfl rfl) ?_
   refine zt rfl (op_bytesStr (b := _) (m := 1) rfl Tryd.underlying56 Tryd.underlying5 Tryd.underlying9 (bs1 ⟨by omega, by omega⟩) rfl rfl) ?_
   refine zv1 ?_
   refine zrt ?_
   rw [itoa_small (by omega) h2]
   exact ResQ_10 rfl hcl trivial (Ret_of rfl)
  ·(try rw [h2]); replace h2 := zcl h2
   refine AWp_skip ?_
   refine AWp_seq ?_
   refine AWp_drawL #[0, 1, 3, 0, 8, 24, 56, 120, 248, 511, 1023] Tryd.mixed (by decide +kernel) (by decide +kernel) ?_
   refine zd1 ?_
   refine yA rfl rfl (fun _ => op_quo64 rfl rfl rfl (by omega) (by omega) (by omega)) ?_
   refine yP rfl rfl (zc rfl (ritoaP ((n / 10).toNat + 1) (n / 10) _ (by omega) (by omega) (by omega))) (trivial) ?_
   refine zd1 ?_
   refine yA rfl rfl (fun _ => op_rem64 rfl rfl rfl (by omega) (by omega)) ?_
   refine zd2 ?_
   refine yA rfl rfl (fun _ => op_buildSlice [[_]] rfl Tryd.underlying56 Tryd.sizeOf5 Tryd.zeroValue5 rfl (by decide) (by decide) rfl rfl rfl rfl rfl) ?_
   refine yA rfl rfl (fun _ => op_bytesStr (b := _) (m := 1) rfl Tryd.underlying56 Tryd.underlying5 Tryd.underlying9 (bs1 ⟨by omega, by omega⟩) rfl rfl) ?_
   refine zd2 ?_
   refine RP.nil rfl ?_
   refine zrt ?_
   rw [itoa_big (by omega)]
   exact ResQ_10 rfl hcl trivial (Ret_of rfl)

theorem rshow_c (n : JNum) (σ : List AO) (hb : n.digits.size ≤ 1000000 ∧ -1000000 ≤ n.exp ∧ n.exp ≤ 1000000) : ACalls Tryd.prog 39 [.agg (ncells n)] σ (Ret (.str (jshow n)) σ) := by
 refine ACalls_body Tryd.func39 rfl Tryd.ntmps39 (res1 Tryd.results39) (Nat.le_of_ble_eq_true rfl) (fun hcl hal => ?_)
 have h1s : (ByteArray.mk #[45]).size = 1 := rfl
 have h2s : (ByteArray.mk #[101]).size = 1 := rfl
 have hsz := itoa_size (n := n.exp) (by omega) (by omega)
 have hsa := ByteArray.size_append (a := (⟨#[45]⟩ : ByteArray)) (b := n.digits)
 have hsb := ByteArray.size_append (a := n.digits) (b := (⟨#[101]⟩ : ByteArray))
 have hsc := ByteArray.size_append (a := (⟨#[45]⟩ : ByteArray) ++ n.digits) (b := (⟨#[101]⟩ : ByteArray))
 refine zw2 ?_
 refine AWp_seq ?_
 refine zw3 ?_
 refine AWp_cond rfl (fun h1 => ?_) (fun h1 => ?_)
 ·(try rw [h1]); replace h1 := zcl h1
  refine zw1 ?_
  refine zrt ?_
  refine ResQ_1 rfl hcl trivial (Ret_of ?_)
  unfold jshow; first | (rw [if_pos (by assumption)]; done) | (rw [if_neg (by assumption), if_pos (by assumption), if_pos (by assumption)]; done) | (rw [if_neg (by assumption), if_pos (by assumption), if_neg (by simp [*])]; done) | (rw [if_neg (by assumption), if_neg (by assumption), if_pos (by assumption)]; done) | (rw [if_neg (by assumption), if_neg (by assumption), if_neg (by simp [*])]; done)
 ·(try rw [h1]); replace h1 := zcl h1
  refine AWp_skip ?_
  refine zw3 ?_
  refine AWp_seq ?_
  refine zw2 ?_
  refine AWp_cond rfl (fun h2 => ?_) (fun h2 => ?_)
  ·(try rw [h2]); replace h2 := zcl h2
   refine AWp_regL ?_
   refine zv3 ?_
   refine AWp_seq ?_
   refine zw3 ?_
   refine AWp_cond rfl (fun h3 => ?_) (fun h3 => ?_)
   ·(try rw [h3]); replace h3 := zcl h3
    refine AWp_regL ?_
    refine zg4 ?_
    refine zt rfl (zc rfl (ritoa_c n.exp _ (by omega) (by omega))) ?_
    refine zv2 ?_
    refine zw2 ?_
    refine zrt ?_
    refine ResQ_1 rfl hcl trivial (Ret_of ?_)
    unfold jshow; first | (rw [if_pos (by assumption)]; done) | (rw [if_neg (by assumption), if_pos (by assumption), if_pos (by assumption)]; done) | (rw [if_neg (by assumption), if_pos (by assumption), if_neg (by simp [*])]; done) | (rw [if_neg (by assumption), if_neg (by assumption), if_pos (by assumption)]; done) | (rw [if_neg (by assumption), if_neg (by assumption), if_neg (by simp [*])]; done)
   ·(try rw [h3]); replace h3 := zcl h3
    refine AWp_skip ?_
    refine zw2 ?_
    refine zrt ?_
    refine ResQ_1 rfl hcl trivial (Ret_of ?_)
    unfold jshow; first | (rw [if_pos (by assumption)]; done) | (rw [if_neg (by assumption), if_pos (by assumption), if_pos (by assumption)]; done) | (rw [if_neg (by assumption), if_pos (by assumption), if_neg (by simp [*])]; done) | (rw [if_neg (by assumption), if_neg (by assumption), if_pos (by assumption)]; done) | (rw [if_neg (by assumption), if_neg (by assumption), if_neg (by simp [*])]; done)
  ·(try rw [h2]); replace h2 := zcl h2
   refine AWp_skip ?_
   refine AWp_seq ?_
   refine zw3 ?_
   refine AWp_cond rfl (fun h4 => ?_) (fun h4 => ?_)
   ·(try rw [h4]); replace h4 := zcl h4
    refine AWp_regL ?_
    refine zg4 ?_
    refine zt rfl (zc rfl (ritoa_c n.exp _ (by omega) (by omega))) ?_
    refine zv2 ?_
    refine zw2 ?_
    refine zrt ?_
    refine ResQ_1 rfl hcl trivial (Ret_of ?_)
    unfold jshow; first | (rw [if_pos (by assumption)]; done) | (rw [if_neg (by assumption), if_pos (by assumption), if_pos (by assumption)]; done) | (rw [if_neg (by assumption), if_pos (by assumption), if_neg (by simp [*])]; done) | (rw [if_neg (by assumption), if_neg (by assumption), if_pos (by assumption)]; done) | (rw [if_neg (by assumption), if_neg (by assumption), if_neg (by simp [*])]; done)
   ·(try rw [h4]); replace h4 := zcl h4
    refine AWp_skip ?_
    refine zw2 ?_
    refine zrt ?_
    refine ResQ_1 rfl hcl trivial (Ret_of ?_)
    unfold jshow; first | (rw [if_pos (by assumption)]; done) | (rw [if_neg (by assumption), if_pos (by assumption), if_pos (by assumption)]; done) | (rw [if_neg (by assumption), if_pos (by assumption), if_neg (by simp [*])]; done) | (rw [if_neg (by assumption), if_neg (by assumption), if_pos (by assumption)]; done) | (rw [if_neg (by assumption), if_neg (by assumption), if_neg (by simp [*])]; done)
end Lg
set_option maxRecDepth 20000
set_option maxHeartbeats 4000000
namespace Lg
open Go Go.Proofs Go.RowKit
variable [GLay] 
theorem rplain_c (n : Int) (σ : List AO) (h0 : 0 ≤ n) (h1 : n ≤ 1000000000) : ACalls Tryd.prog 73 [.int .i64 n] σ (Ret (.str (itoaB n)) σ) := by
 refine ACalls_body Tryd.func73 rfl Tryd.ntmps73 (res1 Tryd.results73) (Nat.le_of_ble_eq_true rfl) (fun hcl hal => ?_)
 refine zw1 ?_
 refine zu1 ?_
 refine zt rfl (zc rfl (ritoa_c n _ (by omega) (by omega))) ?_
 refine zv1 ?_
 refine zrt ?_
 exact ResQ_10 rfl hcl trivial (Ret_of rfl)

theorem rdig_c (n : Int) (σ : List AO) (h0 : 0 ≤ n) (h1 : n ≤ 1000000000) : ACalls Tryd.prog 50 [.int .i64 n] σ (Ret (.str (itoaB n)) σ) := by
 refine ACalls_body Tryd.func50 rfl Tryd.ntmps50 (res1 Tryd.results50) (Nat.le_of_ble_eq_true rfl) (fun hcl hal => ?_)
 refine zw1 ?_
 refine zu1 ?_
 refine zt rfl (zc rfl (rplain_c n _ h0 h1)) ?_
 refine zv1 ?_
 refine zrt ?_
 exact ResQ_10 rfl hcl trivial (Ret_of rfl)

theorem rk_mem {n : ByteArray} {c : Nat} (h : rk n = c) (hc : c ≠ 0) : (n, c) ∈ kwL := by
  unfold rk at h
  cases hf : kwL.find? fun q => decide (n = q.1) with
  | none => rw [hf] at h; exact absurd h.symm hc
  | some q =>
    rw [hf] at h
    have hm := List.mem_of_find?_eq_some hf
    have hq := List.find?_some hf
    simp only [decide_eq_true_eq] at hq
    simp only [Option.map_some, Option.getD_some] at h
    obtain ⟨a, b⟩ := q
    simp only at hq h
    subst hq; subst h
    exact hm
theorem kidsM_nil {n : ByteArray} (v : JV) (h8 : ¬ rk n = 8) (h1 : ¬ n = ⟨#[112, 114, 111, 112, 101, 114, 116, 105, 101, 115]⟩) (h2 : ¬ n = ⟨#[36, 100, 101, 102, 115]⟩) (h3 : ¬ n = ⟨#[97, 108, 108, 79, 102]⟩) (h4 : ¬ n = ⟨#[97, 110, 121, 79, 102]⟩) (h5 : ¬ n = ⟨#[111, 110, 101, 79, 102]⟩) : kidsM n v = [] := by
  have h9 : ¬ rk n = 9 := fun e => by
    have := rk_mem e (by decide)
    simp [kwL] at this
    rcases this with h | h
    · exact h1 h
    · exact h2 h
  have h10 : ¬ rk n = 10 := fun e => by
    have := rk_mem e (by decide)
    simp [kwL] at this
    rcases this with h | h | h
    · exact h3 h
    · exact h4 h
    · exact h5 h
  unfold kidsM; rw [if_neg h8, if_neg h9, if_neg h10]
theorem kidsM_8 {n : ByteArray} (v : JV) (h : rk n = 8) : kidsM n v = [(e0, v)] := by unfold kidsM; rw [if_pos h]
theorem kidsM_9 {n : ByteArray} (v : JV) (h : rk n = 9) : kidsM n v = v.m := by unfold kidsM; rw [if_neg (by omega), if_pos h]
theorem kidsM_10 {n : ByteArray} (v : JV) (h : rk n = 10) : kidsM n v = kZ v.l := by unfold kidsM; rw [if_neg (by omega), if_neg (by omega), if_pos h]; rfl
theorem one_cells (v : JV) : mcells [(e0, v)] = [[.str ⟨#[]⟩, .int .i64 v.kind, .bool v.b, .bool v.n.neg, .str v.n.digits, .int .i64 v.n.exp, .str v.s, .sl false 8 (lcells v.l), .sl false 9 (mcells v.m)]] := by
  simp [mcells, vcells_eq v]; rfl
theorem rkids_c (name : ByteArray) (v : JV) (σ : List AO) (hl : v.l.length ≤ 1000000000) : ACalls Tryd.prog 25 [.str name, .agg (vcells v)] σ (Ret (.sl false 9 (mcells (kidsM name v))) σ) := by
 refine ACalls_body Tryd.func25 rfl Tryd.ntmps25 (res1 Tryd.results25) (Nat.le_of_ble_eq_true rfl) (fun hcl hal => ?_)
 rw [vcells_eq v]
 have hll := lcells_length v.l
 refine zw2 ?_
 refine zu1 ?_
 refine zt rfl (zc rfl (rsingle_c name _)) ?_
 refine zv1 ?_
 refine AWp_seq ?_
 refine zw1 ?_
 refine AWp_cond rfl (fun h1 => ?_) (fun h1 => ?_)
 ·(try rw [h1]); replace h1 := zcl h1
  refine zu2 ?_
  refine zt rfl (op_buildSlice [[_, _, _, _, _, _, _, _, _]] rfl Tryd.underlying34 Tryd.sizeOf47 Tryd.zeroValue47 rfl (by decide) (by decide) rfl rfl rfl rfl rfl) ?_
  refine zv1 ?_
  refine AWp_slotLe 4 rfl (AVle.full 9 _) ?_ (by decide)
  refine zrt ?_
  rw [kidsM_8 v h1, one_cells]
  exact ResQ_1 rfl hcl (by simp [AV.lt, AV.ltLL, AV.ltL]) (Ret_of rfl)
 ·(try rw [h1]); replace h1 := zcl h1
  refine AWp_skip ?_
  refine AWp_seq ?_
  refine zu3 ?_
  refine zsp 16 rfl (fun h2 => ?_) fun h2 => ?_
  ·rw [h2]; replace h2 := zcl h2
   refine zv3 ?_
   refine AWp_condT rfl ?_
   refine zw3 ?_
   refine zrt ?_
   rw [kidsM_9 v (show rk name = 9 by rw [h2]; decide +kernel)]
   exact ResQ_1 rfl hcl (by simp [AV.lt]) (Ret_of rfl)
  ·rw [h2]; replace h2 := zcl h2
   refine zv3 ?_
   refine AWp_cond rfl (fun h3 => ?_) (fun h3 => ?_)
   ·(try rw [h3]); replace h3 := zcl h3
    refine zw3 ?_
    refine zrt ?_
    rw [kidsM_9 v (show rk name = 9 by rw [h3]; decide +kernel)]
    exact ResQ_1 rfl hcl (by simp [AV.lt]) (Ret_of rfl)
   ·(try rw [h3]); replace h3 := zcl h3
    refine AWp_skip ?_
    refine zw1 ?_
    refine AWp_seq ?_
    refine zu3 ?_
    refine zsp 24 rfl (fun h4 => ?_) fun h4 => ?_
    ·rw [h4]; replace h4 := zcl h4
     have hk10 : rk name = 10 := by rw [h4]; decide +kernel
     refine zv7 ?_
     refine AWp_condT rfl ?_
     refine AWp_seq ?_
     refine AWp_ghostTO 6 9 1 rfl rfl ?_ (by decide)
     refine AWp_regL ?_
     refine zv1 ?_
     refine AWp_block ?_
     -- loop 0 LIVE 3:box 4:assign 6:assign 7:assign
     refine AWp_loop (ι := Nat) (fun i => i ≤ v.l.length) (fun i => ⟨[], [(6, .arr (σ.length + 1) i 9 0 i), (3, .ptr (σ.length + 0) 0), (7, .int .i64 (i : Int))]⟩) (fun i => σ ++ [.box [.int .i64 v.kind, .bool v.b, .bool v.n.neg, .str v.n.digits, .int .i64 v.n.exp, .str v.s, .sl false 8 (lcells v.l), .sl false 9 (mcells v.m)], .arr 9 i (mcells (kZ (v.l.take i))).flatten]) (fun i => v.l.length - i) (0) (Nat.zero_le _) ?_ rfl (fun i hi => ?_)
     ·exact ⟨rfl, rfl, rfl, rfl, trivial⟩
     have hkl : (kZ (v.l.take i)).length = i := by rw [kZ_len, List.length_take]; omega
     have hfl := mflat_len (kZ (v.l.take i))
     refine AWp_seq ?_
     refine zw5 ?_
     refine AWp_cond rfl (fun h5 => ?_) (fun h5 => ?_)
     ·(try rw [h5]); replace h5 := zcl h5
      obtain ⟨x, hx⟩ : ∃ x, v.l[i]? = some x := ⟨_, List.getElem?_eq_getElem (show i < v.l.length by omega)⟩
      refine AWp_skip ?_
      refine AWp_seq ?_
      refine AWp_block ?_
      refine AWp_drawL #[0, 0, 2, 0, 8, 0, 56, 120, 254, 510, 1023, 2047] Tryd.mixed (by decide +kernel) (by decide +kernel) ?_
      refine zd2 ?_
      refine yP rfl rfl (zc rfl (rdig_c i _ (by omega) (by omega))) (trivial) ?_
      refine zd1 ?_
      refine zp1 ?_
      refine zd2 ?_
      rw [vcells_eq x]
      refine zp1 ?_
      refine zd1 ?_
      refine yA rfl rfl (fun _ => op_buildSlice [[_, _, _, _, _, _, _, _, _]] rfl Tryd.underlying34 Tryd.sizeOf47 Tryd.zeroValue47 rfl (by decide) (by decide) rfl rfl rfl rfl rfl) ?_
      refine yE rfl rfl (op_appendArrT rfl 1 (sz := 9) (m := 1) (len := i) (cs := _) rfl (.inr ⟨_, rfl⟩) Tryd.underlying34 Tryd.underlying34 Tryd.type47 rfl rfl rfl (by decide) rfl rfl (by rw [hfl, hkl]) rfl rfl rfl (by show (i + 1) * 128 ≤ _; omega) (by omega) rfl) (⟨.inl rfl, ⟨.inl rfl, ⟨.inl rfl, trivial⟩⟩⟩) (trivial) ?_
      refine zd1 ?_
      refine RP.nil rfl ?_
      refine AWp_regL ?_
      refine zv3 ?_
      refine ⟨i + 1, σ.length + 2, by omega, by omega, by simp, ⟨rfl, rfl, rfl, rfl, trivial⟩, closed_own 2 hcl ?_, ?_, ?_⟩
      ·simp [ownLt, AO.cells, AV.ltL, AV.lt, ofConst1, ltL_append, mflat_lt]
      ·simp [ltE, AV.lt]; (try omega)
      ·rw [kZ_take hx, mcells_snoc, mrow, vcells_eq x]; exact take_own 2
     ·(try rw [h5]); replace h5 := zcl h5
      have hie : i = v.l.length := by omega
      subst hie
      rw [List.take_length]
      refine AWp_exit ?_
      refine AWp_seq ?_
      first | refine AWp_freezeMO 6 1 _ _ (kZ v.l) (kZ_len _) rfl rfl ?_ (by decide) | refine AWp_slotLe 6 rfl (AVle.nils false 9) ?_ (by decide)
      refine AWp_regL ?_
      refine zv2 ?_
      refine zrt ?_
      rw [kidsM_10 v hk10]
      exact ResQ_1 rfl hcl (by simp [AV.lt]) (Ret_of rfl)
    ·rw [h4]; replace h4 := zcl h4
     refine zg4 ?_
     refine zsp 28 rfl (fun h6 => ?_) fun h6 => ?_
     ·rw [h6]; replace h6 := zcl h6
      have hk10 : rk name = 10 := by rw [h6]; decide +kernel
      refine zv3 ?_
      refine AWp_condT rfl ?_
      refine AWp_seq ?_
      refine AWp_ghostTO 6 9 1 rfl rfl ?_ (by decide)
      refine AWp_regL ?_
      refine zv1 ?_
      refine AWp_block ?_
      -- loop 1 LIVE 3:box 4:assign 6:assign 7:assign
      refine AWp_loop (ι := Nat) (fun i => i ≤ v.l.length) (fun i => ⟨[], [(6, .arr (σ.length + 1) i 9 0 i), (3, .ptr (σ.length + 0) 0), (7, .int .i64 (i : Int))]⟩) (fun i => σ ++ [.box [.int .i64 v.kind, .bool v.b, .bool v.n.neg, .str v.n.digits, .int .i64 v.n.exp, .str v.s, .sl false 8 (lcells v.l), .sl false 9 (mcells v.m)], .arr 9 i (mcells (kZ (v.l.take i))).flatten]) (fun i => v.l.length - i) (0) (Nat.zero_le _) ?_ rfl (fun i hi => ?_)
      ·exact ⟨rfl, rfl, rfl, rfl, trivial⟩
      have hkl : (kZ (v.l.take i)).length = i := by rw [kZ_len, List.length_take]; omega
      have hfl := mflat_len (kZ (v.l.take i))
      refine AWp_seq ?_
      refine zw5 ?_
      refine AWp_cond rfl (fun h7 => ?_) (fun h7 => ?_)
      ·(try rw [h7]); replace h7 := zcl h7
       obtain ⟨x, hx⟩ : ∃ x, v.l[i]? = some x := ⟨_, List.getElem?_eq_getElem (show i < v.l.length by omega)⟩
       refine AWp_skip ?_
       refine AWp_seq ?_
       refine AWp_block ?_
       refine AWp_drawL #[0, 0, 2, 0, 8, 0, 56, 120, 254, 510, 1023, 2047] Tryd.mixed (by decide +kernel) (by decide +kernel) ?_
       refine zd2 ?_
       refine yP rfl rfl (zc rfl (rdig_c i _ (by omega) (by omega))) (trivial) ?_
       refine zd1 ?_
       refine zp1 ?_
       refine zd2 ?_
       rw [vcells_eq x]
       refine zp1 ?_
       refine zd1 ?_
       refine yA rfl rfl (fun _ => op_buildSlice [[_, _, _, _, _, _, _, _, _]] rfl Tryd.underlying34 Tryd.sizeOf47 Tryd.zeroValue47 rfl (by decide) (by decide) rfl rfl rfl rfl rfl) ?_
       refine yE rfl rfl (op_appendArrT rfl 1 (sz := 9) (m := 1) (len := i) (cs := _) rfl (.inr ⟨_, rfl⟩) Tryd.underlying34 Tryd.underlying34 Tryd.type47 rfl rfl rfl (by decide) rfl rfl (by rw [hfl, hkl]) rfl rfl rfl (by show (i + 1) * 128 ≤ _; omega) (by omega) rfl) (⟨.inl rfl, ⟨.inl rfl, ⟨.inl rfl, trivial⟩⟩⟩) (trivial) ?_
       refine zd1 ?_
       refine RP.nil rfl ?_
       refine AWp_regL ?_
       refine zv3 ?_
       refine ⟨i + 1, σ.length + 2, by omega, by omega, by simp, ⟨rfl, rfl, rfl, rfl, trivial⟩, closed_own 2 hcl ?_, ?_, ?_⟩
       ·simp [ownLt, AO.cells, AV.ltL, AV.lt, ofConst1, ltL_append, mflat_lt]
       ·simp [ltE, AV.lt]; (try omega)
       ·rw [kZ_take hx, mcells_snoc, mrow, vcells_eq x]; exact take_own 2
      ·(try rw [h7]); replace h7 := zcl h7
       have hie : i = v.l.length := by omega
       subst hie
       rw [List.take_length]
       refine AWp_exit ?_
       refine AWp_seq ?_
       first | refine AWp_freezeMO 6 1 _ _ (kZ v.l) (kZ_len _) rfl rfl ?_ (by decide) | refine AWp_slotLe 6 rfl (AVle.nils false 9) ?_ (by decide)
       refine AWp_regL ?_
       refine zv2 ?_
       refine zrt ?_
       rw [kidsM_10 v hk10]
       exact ResQ_1 rfl hcl (by simp [AV.lt]) (Ret_of rfl)
     ·rw [h6]; replace h6 := zcl h6
      refine zv3 ?_
      refine AWp_cond rfl (fun h8 => ?_) (fun h8 => ?_)
      ·(try rw [h8]); replace h8 := zcl h8
       have hk10 : rk name = 10 := by rw [h8]; decide +kernel
       refine AWp_seq ?_
       refine AWp_ghostTO 6 9 1 rfl rfl ?_ (by decide)
       refine AWp_regL ?_
       refine zv1 ?_
       refine AWp_block ?_
       -- loop 2 LIVE 3:box 4:assign 6:assign 7:assign
       refine AWp_loop (ι := Nat) (fun i => i ≤ v.l.length) (fun i => ⟨[], [(6, .arr (σ.length + 1) i 9 0 i), (3, .ptr (σ.length + 0) 0), (7, .int .i64 (i : Int))]⟩) (fun i => σ ++ [.box [.int .i64 v.kind, .bool v.b, .bool v.n.neg, .str v.n.digits, .int .i64 v.n.exp, .str v.s, .sl false 8 (lcells v.l), .sl false 9 (mcells v.m)], .arr 9 i (mcells (kZ (v.l.take i))).flatten]) (fun i => v.l.length - i) (0) (Nat.zero_le _) ?_ rfl (fun i hi => ?_)
       ·exact ⟨rfl, rfl, rfl, rfl, trivial⟩
       have hkl : (kZ (v.l.take i)).length = i := by rw [kZ_len, List.length_take]; omega
       have hfl := mflat_len (kZ (v.l.take i))
       refine AWp_seq ?_
       refine zw5 ?_
       refine AWp_cond rfl (fun h9 => ?_) (fun h9 => ?_)
       ·(try rw [h9]); replace h9 := zcl h9
        obtain ⟨x, hx⟩ : ∃ x, v.l[i]? = some x := ⟨_, List.getElem?_eq_getElem (show i < v.l.length by omega)⟩
        refine AWp_skip ?_
        refine AWp_seq ?_
        refine AWp_block ?_
        refine AWp_drawL #[0, 0, 2, 0, 8, 0, 56, 120, 254, 510, 1023, 2047] Tryd.mixed (by decide +kernel) (by decide +kernel) ?_
        refine zd2 ?_
        refine yP rfl rfl (zc rfl (rdig_c i _ (by omega) (by omega))) (trivial) ?_
        refine zd1 ?_
        refine zp1 ?_
        refine zd2 ?_
        rw [vcells_eq x]
        refine zp1 ?_
        refine zd1 ?_
        refine yA rfl rfl (fun _ => op_buildSlice [[_, _, _, _, _, _, _, _, _]] rfl Tryd.underlying34 Tryd.sizeOf47 Tryd.zeroValue47 rfl (by decide) (by decide) rfl rfl rfl rfl rfl) ?_
        refine yE rfl rfl (op_appendArrT rfl 1 (sz := 9) (m := 1) (len := i) (cs := _) rfl (.inr ⟨_, rfl⟩) Tryd.underlying34 Tryd.underlying34 Tryd.type47 rfl rfl rfl (by decide) rfl rfl (by rw [hfl, hkl]) rfl rfl rfl (by show (i + 1) * 128 ≤ _; omega) (by omega) rfl) (⟨.inl rfl, ⟨.inl rfl, ⟨.inl rfl, trivial⟩⟩⟩) (trivial) ?_
        refine zd1 ?_
        refine RP.nil rfl ?_
        refine AWp_regL ?_
        refine zv3 ?_
        refine ⟨i + 1, σ.length + 2, by omega, by omega, by simp, ⟨rfl, rfl, rfl, rfl, trivial⟩, closed_own 2 hcl ?_, ?_, ?_⟩
        ·simp [ownLt, AO.cells, AV.ltL, AV.lt, ofConst1, ltL_append, mflat_lt]
        ·simp [ltE, AV.lt]; (try omega)
        ·rw [kZ_take hx, mcells_snoc, mrow, vcells_eq x]; exact take_own 2
       ·(try rw [h9]); replace h9 := zcl h9
        have hie : i = v.l.length := by omega
        subst hie
        rw [List.take_length]
        refine AWp_exit ?_
        refine AWp_seq ?_
        first | refine AWp_freezeMO 6 1 _ _ (kZ v.l) (kZ_len _) rfl rfl ?_ (by decide) | refine AWp_slotLe 6 rfl (AVle.nils false 9) ?_ (by decide)
        refine AWp_regL ?_
        refine zv2 ?_
        refine zrt ?_
        rw [kidsM_10 v hk10]
        exact ResQ_1 rfl hcl (by simp [AV.lt]) (Ret_of rfl)
      ·(try rw [h8]); replace h8 := zcl h8
       refine AWp_skip ?_
       refine AWp_seq ?_
       first | refine AWp_freezeMO 6 1 _ _ (kZ v.l) (kZ_len _) rfl rfl ?_ (by decide) | refine AWp_slotLe 6 rfl (AVle.nils false 9) ?_ (by decide)
       refine AWp_regL ?_
       refine zv2 ?_
       refine zrt ?_
       rw [kidsM_nil v h1 h2 h3 h4 h6 h8]
       exact ResQ_1 rfl hcl (by simp [AV.lt, AV.ltLL]) (Ret_of rfl)
end Lg
set_option maxRecDepth 20000
set_option maxHeartbeats 4000000
namespace Lg
open Go Go.Proofs Go.RowKit
variable [GLay] 
theorem rshape_c (name : ByteArray) (v : JV) (σ : List AO) (hl : v.l.length ≤ 1000000000) (hm : v.m.length ≤ 1000000000) : ACalls Tryd.prog 18 [.str name, .agg (vcells v)] σ (Ret (.int .i64 (rShape name v)) σ) := by
 refine ACalls_body Tryd.func18 rfl Tryd.ntmps18 (res1 Tryd.results18) (Nat.le_of_ble_eq_true rfl) (fun hcl hal => ?_)
 rw [vcells_eq v]
 have hll := lcells_length v.l
 refine zw2 ?_
 refine zw1 ?_
 refine AWp_join (ι := Unit) (fun b => rk name ≠ 0) (fun b => ⟨[], [(5, .bool (kOK (rk name) v))]⟩) (fun b => σ ++ [.box [.int .i64 v.kind, .bool v.b, .bool v.n.neg, .str v.n.digits, .int .i64 v.n.exp, .str v.s, .sl false 8 (lcells v.l), .sl false 9 (mcells v.m)]]) ?_ (fun b hj => ?_)
 ·skip
  refine zw1 ?_
  refine AWp_block ?_
  refine zw2 ?_
  refine AWp_cond rfl (fun h1 => ?_) (fun h1 => ?_)
  ·(try rw [h1]); replace h1 := zcl h1
   have hk : rk name = 1 := by rw [h1]; decide +kernel
   refine zu1 ?_
   refine zt rfl (zc rfl (vcells_eq v ▸ rtxt_c v _ hl)) ?_
   refine zv1 ?_
   refine zu2 ?_
   refine zsp 19 rfl (fun h2 => ?_) fun h2 => ?_
   ·rw [h2]; replace h2 := zcl h2
    refine zv6 ?_
    refine AWp_seq ?_
    refine zw1 ?_
    refine AWp_block ?_
    -- loop 0 LIVE 0:param 3:box 4:assign 5:assign 7:assign 13:move
    refine AWp_loop (ι := Nat) (fun i => i ≤ v.l.length) (fun i => ⟨[], [(3, .ptr (σ.length + 0) 0), (5, .bool (txB v && decide (0 < v.l.length) && (v.l.take i).all tyB)), (7, .int .i64 (i : Int))]⟩) (fun i => σ ++ [_]) (fun i => v.l.length - i) (0) (Nat.zero_le _) ?_ rfl (fun i hi => ?_)
    ·refine ⟨rfl, rfl, ?_, rfl, trivial⟩
     show AV.bool _ = AV.bool _; congr 1; simp [*]
    refine AWp_seq ?_
    refine zw5 ?_
    refine AWp_cond rfl (fun h3 => ?_) (fun h3 => ?_)
    ·(try rw [h3]); replace h3 := zcl h3
     obtain ⟨x, hx⟩ : ∃ x, v.l[i]? = some x := ⟨_, List.getElem?_eq_getElem (show i < v.l.length by omega)⟩
     refine AWp_skip ?_
     refine AWp_seq ?_
     refine AWp_block ?_
     refine zu4 ?_
     rw [vcells_eq x]
     refine zg1 ?_
     refine zt rfl (zc rfl (vcells_eq x ▸ rtyp_c x _)) ?_
     refine zv1 ?_
     refine AWp_regL ?_
     refine zg2 ?_
     refine zsp 39 rfl (fun h4 => ?_) fun h4 => ?_
     ·rw [h4]; replace h4 := zcl h4
      refine zv3 ?_
      refine AWp_regL ?_
      refine zv3 ?_
      refine ⟨i + 1, σ.length + 1, by omega, by omega, by simp, ⟨rfl, rfl, ?_, rfl, trivial⟩, closed_own 1 hcl ?_, ?_, take_own 1⟩
      ·show AV.bool _ = AV.bool _; congr 1; rw [List.take_add_one, hx]; simp only [Option.toList, List.all_append, List.all_cons, List.all_nil, Bool.and_true]; rw [← Bool.and_assoc]; (first | rw [h4] | rw [h7]); rfl
      ·simp [ownLt, AO.cells, AV.ltL, AV.lt]
      ·simp [ltE, AV.lt]
     ·rw [h4]; replace h4 := zcl h4
      refine zv3 ?_
      refine AWp_regL ?_
      refine zv3 ?_
      refine ⟨i + 1, σ.length + 1, by omega, by omega, by simp, ⟨rfl, rfl, ?_, rfl, trivial⟩, closed_own 1 hcl ?_, ?_, take_own 1⟩
      ·show AV.bool _ = AV.bool _; congr 1; rw [List.take_add_one, hx]; simp only [Option.toList, List.all_append, List.all_cons, List.all_nil, Bool.and_true]; rw [← Bool.and_assoc]; (first | rw [h4] | rw [h7]); rfl
      ·simp [ownLt, AO.cells, AV.ltL, AV.lt]
      ·simp [ltE, AV.lt]
    ·(try rw [h3]); replace h3 := zcl h3
     have hie : i = v.l.length := by omega
     subst hie
     rw [List.take_length]
     refine AWp_exit ?_
     refine zu1 ?_
     refine zt rfl (zc rfl (vcells_eq v ▸ rtyp_c v _)) ?_
     refine zv1 ?_
     refine AWp_regL ?_
     refine zg2 ?_
     refine zsp 45 rfl (fun h5 => ?_) fun h5 => ?_
     ·rw [h5]; replace h5 := zcl h5
      refine zv3 ?_
      show ∃ z : Unit, _ ∧ _ ∧ _
      refine ⟨(), (by rw [hk]; decide), ⟨rfl, ?_, trivial⟩, rfl⟩
      rw [hk]; show AV.bool _ = AV.bool _; congr 1 <;> first | (simp only [kOK]; (first | rw [h5] | rw [h8]); simp; done) | (simp [kOK, lcells_length, *]; done) | ((try simp only [lcells_length] at *); simp [kOK, *] <;> (intros; omega))
     ·rw [h5]; replace h5 := zcl h5
      refine zv3 ?_
      show ∃ z : Unit, _ ∧ _ ∧ _
      refine ⟨(), (by rw [hk]; decide), ⟨rfl, ?_, trivial⟩, rfl⟩
      rw [hk]; show AV.bool _ = AV.bool _; congr 1 <;> first | (simp only [kOK]; (first | rw [h5] | rw [h8]); simp; done) | (simp [kOK, lcells_length, *]; done) | ((try simp only [lcells_length] at *); simp [kOK, *] <;> (intros; omega))
   ·rw [h2]; replace h2 := zcl h2
    refine zv6 ?_
    refine AWp_seq ?_
    refine zw1 ?_
    refine AWp_block ?_
    -- loop 1 LIVE 0:param 3:box 4:assign 5:assign 7:assign 13:move
    refine AWp_loop (ι := Nat) (fun i => i ≤ v.l.length) (fun i => ⟨[], [(3, .ptr (σ.length + 0) 0), (5, .bool (txB v && decide (0 < v.l.length) && (v.l.take i).all tyB)), (7, .int .i64 (i : Int))]⟩) (fun i => σ ++ [_]) (fun i => v.l.length - i) (0) (Nat.zero_le _) ?_ rfl (fun i hi => ?_)
    ·refine ⟨rfl, rfl, ?_, rfl, trivial⟩
     show AV.bool _ = AV.bool _; congr 1; simp [*]
    refine AWp_seq ?_
    refine zw5 ?_
    refine AWp_cond rfl (fun h6 => ?_) (fun h6 => ?_)
    ·(try rw [h6]); replace h6 := zcl h6
     obtain ⟨x, hx⟩ : ∃ x, v.l[i]? = some x := ⟨_, List.getElem?_eq_getElem (show i < v.l.length by omega)⟩
     refine AWp_skip ?_
     refine AWp_seq ?_
     refine AWp_block ?_
     refine zu4 ?_
     rw [vcells_eq x]
     refine zg1 ?_
     refine zt rfl (zc rfl (vcells_eq x ▸ rtyp_c x _)) ?_
     refine zv1 ?_
     refine AWp_regL ?_
     refine zg2 ?_
     refine zsp 39 rfl (fun h7 => ?_) fun h7 => ?_
     ·rw [h7]; replace h7 := zcl h7
      refine zv3 ?_
      refine AWp_regL ?_
      refine zv3 ?_
      refine ⟨i + 1, σ.length + 1, by omega, by omega, by simp, ⟨rfl, rfl, ?_, rfl, trivial⟩, closed_own 1 hcl ?_, ?_, take_own 1⟩
      ·show AV.bool _ = AV.bool _; congr 1; rw [List.take_add_one, hx]; simp only [Option.toList, List.all_append, List.all_cons, List.all_nil, Bool.and_true]; rw [← Bool.and_assoc]; (first | rw [h4] | rw [h7]); rfl
      ·simp [ownLt, AO.cells, AV.ltL, AV.lt]
      ·simp [ltE, AV.lt]
     ·rw [h7]; replace h7 := zcl h7
      refine zv3 ?_
      refine AWp_regL ?_
      refine zv3 ?_
      refine ⟨i + 1, σ.length + 1, by omega, by omega, by simp, ⟨rfl, rfl, ?_, rfl, trivial⟩, closed_own 1 hcl ?_, ?_, take_own 1⟩
      ·show AV.bool _ = AV.bool _; congr 1; rw [List.take_add_one, hx]; simp only [Option.toList, List.all_append, List.all_cons, List.all_nil, Bool.and_true]; rw [← Bool.and_assoc]; (first | rw [h4] | rw [h7]); rfl
      ·simp [ownLt, AO.cells, AV.ltL, AV.lt]
      ·simp [ltE, AV.lt]
    ·(try rw [h6]); replace h6 := zcl h6
     have hie : i = v.l.length := by omega
     subst hie
     rw [List.take_length]
     refine AWp_exit ?_
     refine zu1 ?_
     refine zt rfl (zc rfl (vcells_eq v ▸ rtyp_c v _)) ?_
     refine zv1 ?_
     refine AWp_regL ?_
     refine zg2 ?_
     refine zsp 45 rfl (fun h8 => ?_) fun h8 => ?_
     ·rw [h8]; replace h8 := zcl h8
      refine zv3 ?_
      show ∃ z : Unit, _ ∧ _ ∧ _
      refine ⟨(), (by rw [hk]; decide), ⟨rfl, ?_, trivial⟩, rfl⟩
      rw [hk]; show AV.bool _ = AV.bool _; congr 1 <;> first | (simp only [kOK]; (first | rw [h5] | rw [h8]); simp; done) | (simp [kOK, lcells_length, *]; done) | ((try simp only [lcells_length] at *); simp [kOK, *] <;> (intros; omega))
     ·rw [h8]; replace h8 := zcl h8
      refine zv3 ?_
      show ∃ z : Unit, _ ∧ _ ∧ _
      refine ⟨(), (by rw [hk]; decide), ⟨rfl, ?_, trivial⟩, rfl⟩
      rw [hk]; show AV.bool _ = AV.bool _; congr 1 <;> first | (simp only [kOK]; (first | rw [h5] | rw [h8]); simp; done) | (simp [kOK, lcells_length, *]; done) | ((try simp only [lcells_length] at *); simp [kOK, *] <;> (intros; omega))
  ·(try rw [h1]); replace h1 := zcl h1
   refine zw2 ?_
   refine AWp_cond rfl (fun h9 => ?_) (fun h9 => ?_)
   ·(try rw [h9]); replace h9 := zcl h9
    have hk : rk name = 2 := by rw [h9]; decide +kernel
    refine AWp_regL ?_
    refine zg4 ?_
    refine zsp 53 rfl (fun h10 => ?_) fun h10 => ?_
    ·rw [h10]; replace h10 := zcl h10
     refine zv6 ?_
     show ∃ z : Unit, _ ∧ _ ∧ _
     refine ⟨(), (by rw [hk]; decide), ⟨rfl, ?_, trivial⟩, rfl⟩
     rw [hk]; show AV.bool _ = AV.bool _; congr 1 <;> first | (simp only [kOK]; (first | rw [h5] | rw [h8]); simp; done) | (simp [kOK, lcells_length, *]; done) | ((try simp only [lcells_length] at *); simp [kOK, *] <;> (intros; omega))
    ·rw [h10]; replace h10 := zcl h10
     refine zv6 ?_
     show ∃ z : Unit, _ ∧ _ ∧ _
     refine ⟨(), (by rw [hk]; decide), ⟨rfl, ?_, trivial⟩, rfl⟩
     rw [hk]; show AV.bool _ = AV.bool _; congr 1 <;> first | (simp only [kOK]; (first | rw [h5] | rw [h8]); simp; done) | (simp [kOK, lcells_length, *]; done) | ((try simp only [lcells_length] at *); simp [kOK, *] <;> (intros; omega))
   ·(try rw [h9]); replace h9 := zcl h9
    refine zw2 ?_
    refine AWp_cond rfl (fun h11 => ?_) (fun h11 => ?_)
    ·(try rw [h11]); replace h11 := zcl h11
     have hk : rk name = 3 := by rw [h11]; decide +kernel
     refine AWp_regL ?_
     refine zv1 ?_
     show ∃ z : Unit, _ ∧ _ ∧ _
     refine ⟨(), (by rw [hk]; decide), ⟨rfl, ?_, trivial⟩, rfl⟩
     rw [hk]; show AV.bool _ = AV.bool _; congr 1 <;> first | (simp only [kOK]; (first | rw [h5] | rw [h8]); simp; done) | (simp [kOK, lcells_length, *]; done) | ((try simp only [lcells_length] at *); simp [kOK, *] <;> (intros; omega))
    ·(try rw [h11]); replace h11 := zcl h11
     refine AWp_seq ?_
     refine zw2 ?_
     refine AWp_cond rfl (fun h12 => ?_) (fun h12 => ?_)
     ·(try rw [h12]); replace h12 := zcl h12
      have hk : rk name = 4 := by rw [h12]; decide +kernel
      refine AWp_skip ?_
      refine AWp_condT rfl ?_
      refine AWp_regL ?_
      refine zv4 ?_
      show ∃ z : Unit, _ ∧ _ ∧ _
      refine ⟨(), (by rw [hk]; decide), ⟨rfl, ?_, trivial⟩, rfl⟩
      rw [hk]; show AV.bool _ = AV.bool _; congr 1 <;> first | (simp only [kOK]; (first | rw [h5] | rw [h8]); simp; done) | (simp [kOK, lcells_length, *]; done) | ((try simp only [lcells_length] at *); simp [kOK, *] <;> (intros; omega))
     ·(try rw [h12]); replace h12 := zcl h12
      refine AWp_regL ?_
      refine zv2 ?_
      refine AWp_cond rfl (fun h13 => ?_) (fun h13 => ?_)
      ·(try rw [h13]); replace h13 := zcl h13
       have hk : rk name = 4 := by rw [h13]; decide +kernel
       refine AWp_regL ?_
       refine zv4 ?_
       show ∃ z : Unit, _ ∧ _ ∧ _
       refine ⟨(), (by rw [hk]; decide), ⟨rfl, ?_, trivial⟩, rfl⟩
       rw [hk]; show AV.bool _ = AV.bool _; congr 1 <;> first | (simp only [kOK]; (first | rw [h5] | rw [h8]); simp; done) | (simp [kOK, lcells_length, *]; done) | ((try simp only [lcells_length] at *); simp [kOK, *] <;> (intros; omega))
      ·(try rw [h13]); replace h13 := zcl h13
       refine AWp_seq ?_
       refine zw2 ?_
       refine AWp_cond rfl (fun h14 => ?_) (fun h14 => ?_)
       ·(try rw [h14]); replace h14 := zcl h14
        have hk : rk name = 5 := by rw [h14]; decide +kernel
        refine AWp_skip ?_
        refine AWp_condT rfl ?_
        refine zu2 ?_
        refine zt rfl (zc rfl (rwhole_c v.n _)) ?_
        refine zv1 ?_
        refine AWp_regL ?_
        refine zg4 ?_
        refine zsp 78 rfl (fun h15 => ?_) fun h15 => ?_
        ·rw [h15]; replace h15 := zcl h15
         refine zg3 ?_
         refine zsp 81 rfl (fun h16 => ?_) fun h16 => ?_
         ·rw [h16]; replace h16 := zcl h16
          refine zv6 ?_
          show ∃ z : Unit, _ ∧ _ ∧ _
          refine ⟨(), (by rw [hk]; decide), ⟨rfl, ?_, trivial⟩, rfl⟩
          rw [hk]; show AV.bool _ = AV.bool _; congr 1 <;> first | (simp only [kOK]; (first | rw [h5] | rw [h8]); simp; done) | (simp [kOK, lcells_length, *]; done) | ((try simp only [lcells_length] at *); simp [kOK, *] <;> (intros; omega))
         ·rw [h16]; replace h16 := zcl h16
          refine zv6 ?_
          show ∃ z : Unit, _ ∧ _ ∧ _
          refine ⟨(), (by rw [hk]; decide), ⟨rfl, ?_, trivial⟩, rfl⟩
          rw [hk]; show AV.bool _ = AV.bool _; congr 1 <;> first | (simp only [kOK]; (first | rw [h5] | rw [h8]); simp; done) | (simp [kOK, lcells_length, *]; done) | ((try simp only [lcells_length] at *); simp [kOK, *] <;> (intros; omega))
        ·rw [h15]; replace h15 := zcl h15
         refine zv9 ?_
         show ∃ z : Unit, _ ∧ _ ∧ _
         refine ⟨(), (by rw [hk]; decide), ⟨rfl, ?_, trivial⟩, rfl⟩
         rw [hk]; show AV.bool _ = AV.bool _; congr 1 <;> first | (simp only [kOK]; (first | rw [h5] | rw [h8]); simp; done) | (simp [kOK, lcells_length, *]; done) | ((try simp only [lcells_length] at *); simp [kOK, *] <;> (intros; omega))
       ·(try rw [h14]); replace h14 := zcl h14
        refine zw2 ?_
        refine AWp_cond rfl (fun h17 => ?_) (fun h17 => ?_)
        ·(try rw [h17]); replace h17 := zcl h17
         have hk : rk name = 5 := by rw [h17]; decide +kernel
         refine AWp_skip ?_
         refine AWp_condT rfl ?_
         refine zu2 ?_
         refine zt rfl (zc rfl (rwhole_c v.n _)) ?_
         refine zv1 ?_
         refine AWp_regL ?_
         refine zg4 ?_
         refine zsp 78 rfl (fun h18 => ?_) fun h18 => ?_
         ·rw [h18]; replace h18 := zcl h18
          refine zg3 ?_
          refine zsp 81 rfl (fun h19 => ?_) fun h19 => ?_
          ·rw [h19]; replace h19 := zcl h19
           refine zv6 ?_
           show ∃ z : Unit, _ ∧ _ ∧ _
           refine ⟨(), (by rw [hk]; decide), ⟨rfl, ?_, trivial⟩, rfl⟩
           rw [hk]; show AV.bool _ = AV.bool _; congr 1 <;> first | (simp only [kOK]; (first | rw [h5] | rw [h8]); simp; done) | (simp [kOK, lcells_length, *]; done) | ((try simp only [lcells_length] at *); simp [kOK, *] <;> (intros; omega))
          ·rw [h19]; replace h19 := zcl h19
           refine zv6 ?_
           show ∃ z : Unit, _ ∧ _ ∧ _
           refine ⟨(), (by rw [hk]; decide), ⟨rfl, ?_, trivial⟩, rfl⟩
           rw [hk]; show AV.bool _ = AV.bool _; congr 1 <;> first | (simp only [kOK]; (first | rw [h5] | rw [h8]); simp; done) | (simp [kOK, lcells_length, *]; done) | ((try simp only [lcells_length] at *); simp [kOK, *] <;> (intros; omega))
         ·rw [h18]; replace h18 := zcl h18
          refine zv9 ?_
          show ∃ z : Unit, _ ∧ _ ∧ _
          refine ⟨(), (by rw [hk]; decide), ⟨rfl, ?_, trivial⟩, rfl⟩
          rw [hk]; show AV.bool _ = AV.bool _; congr 1 <;> first | (simp only [kOK]; (first | rw [h5] | rw [h8]); simp; done) | (simp [kOK, lcells_length, *]; done) | ((try simp only [lcells_length] at *); simp [kOK, *] <;> (intros; omega))
        ·(try rw [h17]); replace h17 := zcl h17
         refine zw2 ?_
         refine AWp_cond rfl (fun h20 => ?_) (fun h20 => ?_)
         ·(try rw [h20]); replace h20 := zcl h20
          have hk : rk name = 5 := by rw [h20]; decide +kernel
          refine AWp_skip ?_
          refine AWp_condT rfl ?_
          refine zu2 ?_
          refine zt rfl (zc rfl (rwhole_c v.n _)) ?_
          refine zv1 ?_
          refine AWp_regL ?_
          refine zg4 ?_
          refine zsp 78 rfl (fun h21 => ?_) fun h21 => ?_
          ·rw [h21]; replace h21 := zcl h21
           refine zg3 ?_
           refine zsp 81 rfl (fun h22 => ?_) fun h22 => ?_
           ·rw [h22]; replace h22 := zcl h22
            refine zv6 ?_
            show ∃ z : Unit, _ ∧ _ ∧ _
            refine ⟨(), (by rw [hk]; decide), ⟨rfl, ?_, trivial⟩, rfl⟩
            rw [hk]; show AV.bool _ = AV.bool _; congr 1 <;> first | (simp only [kOK]; (first | rw [h5] | rw [h8]); simp; done) | (simp [kOK, lcells_length, *]; done) | ((try simp only [lcells_length] at *); simp [kOK, *] <;> (intros; omega))
           ·rw [h22]; replace h22 := zcl h22
            refine zv6 ?_
            show ∃ z : Unit, _ ∧ _ ∧ _
            refine ⟨(), (by rw [hk]; decide), ⟨rfl, ?_, trivial⟩, rfl⟩
            rw [hk]; show AV.bool _ = AV.bool _; congr 1 <;> first | (simp only [kOK]; (first | rw [h5] | rw [h8]); simp; done) | (simp [kOK, lcells_length, *]; done) | ((try simp only [lcells_length] at *); simp [kOK, *] <;> (intros; omega))
          ·rw [h21]; replace h21 := zcl h21
           refine zv9 ?_
           show ∃ z : Unit, _ ∧ _ ∧ _
           refine ⟨(), (by rw [hk]; decide), ⟨rfl, ?_, trivial⟩, rfl⟩
           rw [hk]; show AV.bool _ = AV.bool _; congr 1 <;> first | (simp only [kOK]; (first | rw [h5] | rw [h8]); simp; done) | (simp [kOK, lcells_length, *]; done) | ((try simp only [lcells_length] at *); simp [kOK, *] <;> (intros; omega))
         ·(try rw [h20]); replace h20 := zcl h20
          refine AWp_regL ?_
          refine zv2 ?_
          refine AWp_cond rfl (fun h23 => ?_) (fun h23 => ?_)
          ·(try rw [h23]); replace h23 := zcl h23
           have hk : rk name = 5 := by rw [h23]; decide +kernel
           refine zu2 ?_
           refine zt rfl (zc rfl (rwhole_c v.n _)) ?_
           refine zv1 ?_
           refine AWp_regL ?_
           refine zg4 ?_
           refine zsp 78 rfl (fun h24 => ?_) fun h24 => ?_
           ·rw [h24]; replace h24 := zcl h24
            refine zg3 ?_
            refine zsp 81 rfl (fun h25 => ?_) fun h25 => ?_
            ·rw [h25]; replace h25 := zcl h25
             refine zv6 ?_
             show ∃ z : Unit, _ ∧ _ ∧ _
             refine ⟨(), (by rw [hk]; decide), ⟨rfl, ?_, trivial⟩, rfl⟩
             rw [hk]; show AV.bool _ = AV.bool _; congr 1 <;> first | (simp only [kOK]; (first | rw [h5] | rw [h8]); simp; done) | (simp [kOK, lcells_length, *]; done) | ((try simp only [lcells_length] at *); simp [kOK, *] <;> (intros; omega))
            ·rw [h25]; replace h25 := zcl h25
             refine zv6 ?_
             show ∃ z : Unit, _ ∧ _ ∧ _
             refine ⟨(), (by rw [hk]; decide), ⟨rfl, ?_, trivial⟩, rfl⟩
             rw [hk]; show AV.bool _ = AV.bool _; congr 1 <;> first | (simp only [kOK]; (first | rw [h5] | rw [h8]); simp; done) | (simp [kOK, lcells_length, *]; done) | ((try simp only [lcells_length] at *); simp [kOK, *] <;> (intros; omega))
           ·rw [h24]; replace h24 := zcl h24
            refine zv9 ?_
            show ∃ z : Unit, _ ∧ _ ∧ _
            refine ⟨(), (by rw [hk]; decide), ⟨rfl, ?_, trivial⟩, rfl⟩
            rw [hk]; show AV.bool _ = AV.bool _; congr 1 <;> first | (simp only [kOK]; (first | rw [h5] | rw [h8]); simp; done) | (simp [kOK, lcells_length, *]; done) | ((try simp only [lcells_length] at *); simp [kOK, *] <;> (intros; omega))
          ·(try rw [h23]); replace h23 := zcl h23
           refine zw2 ?_
           refine AWp_cond rfl (fun h26 => ?_) (fun h26 => ?_)
           ·(try rw [h26]); replace h26 := zcl h26
            have hk : rk name = 6 := by rw [h26]; decide +kernel
            refine AWp_regL ?_
            refine zv4 ?_
            show ∃ z : Unit, _ ∧ _ ∧ _
            refine ⟨(), (by rw [hk]; decide), ⟨rfl, ?_, trivial⟩, rfl⟩
            rw [hk]; show AV.bool _ = AV.bool _; congr 1 <;> first | (simp only [kOK]; (first | rw [h5] | rw [h8]); simp; done) | (simp [kOK, lcells_length, *]; done) | ((try simp only [lcells_length] at *); simp [kOK, *] <;> (intros; omega))
           ·(try rw [h26]); replace h26 := zcl h26
            refine zw2 ?_
            refine AWp_cond rfl (fun h27 => ?_) (fun h27 => ?_)
            ·(try rw [h27]); replace h27 := zcl h27
             have hk : rk name = 7 := by rw [h27]; decide +kernel
             refine AWp_regL ?_
             refine zg1 ?_
             refine zt rfl (zc rfl (vcells_eq v ▸ rtxt_c v _ hl)) ?_
             refine zv1 ?_
             show ∃ z : Unit, _ ∧ _ ∧ _
             refine ⟨(), (by rw [hk]; decide), ⟨rfl, ?_, trivial⟩, rfl⟩
             rw [hk]; show AV.bool _ = AV.bool _; congr 1 <;> first | (simp only [kOK]; (first | rw [h5] | rw [h8]); simp; done) | (simp [kOK, lcells_length, *]; done) | ((try simp only [lcells_length] at *); simp [kOK, *] <;> (intros; omega))
            ·(try rw [h27]); replace h27 := zcl h27
             refine AWp_seq ?_
             refine zw2 ?_
             refine AWp_cond rfl (fun h28 => ?_) (fun h28 => ?_)
             ·(try rw [h28]); replace h28 := zcl h28
              have hk : rk name = 8 := by rw [h28]; decide +kernel
              refine AWp_skip ?_
              refine AWp_condT rfl ?_
              refine AWp_regL ?_
              refine zg1 ?_
              refine zt rfl (zc rfl (vcells_eq v ▸ rsch_c v _)) ?_
              refine zv1 ?_
              show ∃ z : Unit, _ ∧ _ ∧ _
              refine ⟨(), (by rw [hk]; decide), ⟨rfl, ?_, trivial⟩, rfl⟩
              rw [hk]; show AV.bool _ = AV.bool _; congr 1 <;> first | (simp only [kOK]; (first | rw [h5] | rw [h8]); simp; done) | (simp [kOK, lcells_length, *]; done) | ((try simp only [lcells_length] at *); simp [kOK, *] <;> (intros; omega))
             ·(try rw [h28]); replace h28 := zcl h28
              refine zw2 ?_
              refine AWp_cond rfl (fun h29 => ?_) (fun h29 => ?_)
              ·(try rw [h29]); replace h29 := zcl h29
               have hk : rk name = 8 := by rw [h29]; decide +kernel
               refine AWp_skip ?_
               refine AWp_condT rfl ?_
               refine AWp_regL ?_
               refine zg1 ?_
               refine zt rfl (zc rfl (vcells_eq v ▸ rsch_c v _)) ?_
               refine zv1 ?_
               show ∃ z : Unit, _ ∧ _ ∧ _
               refine ⟨(), (by rw [hk]; decide), ⟨rfl, ?_, trivial⟩, rfl⟩
               rw [hk]; show AV.bool _ = AV.bool _; congr 1 <;> first | (simp only [kOK]; (first | rw [h5] | rw [h8]); simp; done) | (simp [kOK, lcells_length, *]; done) | ((try simp only [lcells_length] at *); simp [kOK, *] <;> (intros; omega))
              ·(try rw [h29]); replace h29 := zcl h29
               refine AWp_regL ?_
               refine zv2 ?_
               refine AWp_cond rfl (fun h30 => ?_) (fun h30 => ?_)
               ·(try rw [h30]); replace h30 := zcl h30
                have hk : rk name = 8 := by rw [h30]; decide +kernel
                refine AWp_regL ?_
                refine zg1 ?_
                refine zt rfl (zc rfl (vcells_eq v ▸ rsch_c v _)) ?_
                refine zv1 ?_
                show ∃ z : Unit, _ ∧ _ ∧ _
                refine ⟨(), (by rw [hk]; decide), ⟨rfl, ?_, trivial⟩, rfl⟩
                rw [hk]; show AV.bool _ = AV.bool _; congr 1 <;> first | (simp only [kOK]; (first | rw [h5] | rw [h8]); simp; done) | (simp [kOK, lcells_length, *]; done) | ((try simp only [lcells_length] at *); simp [kOK, *] <;> (intros; omega))
               ·(try rw [h30]); replace h30 := zcl h30
                refine AWp_seq ?_
                refine zw2 ?_
                refine AWp_cond rfl (fun h31 => ?_) (fun h31 => ?_)
                ·(try rw [h31]); replace h31 := zcl h31
                 have hk : rk name = 9 := by rw [h31]; decide +kernel
                 refine AWp_skip ?_
                 refine AWp_condT rfl ?_
                 refine zu2 ?_
                 refine zt rfl (zc rfl (rall_c v.m _ hm)) ?_
                 refine zv1 ?_
                 refine AWp_regL ?_
                 refine zg4 ?_
                 refine zsp 111 rfl (fun h32 => ?_) fun h32 => ?_
                 ·rw [h32]; replace h32 := zcl h32
                  refine zv3 ?_
                  show ∃ z : Unit, _ ∧ _ ∧ _
                  refine ⟨(), (by rw [hk]; decide), ⟨rfl, ?_, trivial⟩, rfl⟩
                  rw [hk]; show AV.bool _ = AV.bool _; congr 1 <;> first | (simp only [kOK]; (first | rw [h5] | rw [h8]); simp; done) | (simp [kOK, lcells_length, *]; done) | ((try simp only [lcells_length] at *); simp [kOK, *] <;> (intros; omega))
                 ·rw [h32]; replace h32 := zcl h32
                  refine zv3 ?_
                  show ∃ z : Unit, _ ∧ _ ∧ _
                  refine ⟨(), (by rw [hk]; decide), ⟨rfl, ?_, trivial⟩, rfl⟩
                  rw [hk]; show AV.bool _ = AV.bool _; congr 1 <;> first | (simp only [kOK]; (first | rw [h5] | rw [h8]); simp; done) | (simp [kOK, lcells_length, *]; done) | ((try simp only [lcells_length] at *); simp [kOK, *] <;> (intros; omega))
                ·(try rw [h31]); replace h31 := zcl h31
                 refine AWp_regL ?_
                 refine zv2 ?_
                 refine AWp_cond rfl (fun h33 => ?_) (fun h33 => ?_)
                 ·(try rw [h33]); replace h33 := zcl h33
                  have hk : rk name = 9 := by rw [h33]; decide +kernel
                  refine zu2 ?_
                  refine zt rfl (zc rfl (rall_c v.m _ hm)) ?_
                  refine zv1 ?_
                  refine AWp_regL ?_
                  refine zg4 ?_
                  refine zsp 111 rfl (fun h34 => ?_) fun h34 => ?_
                  ·rw [h34]; replace h34 := zcl h34
                   refine zv3 ?_
                   show ∃ z : Unit, _ ∧ _ ∧ _
                   refine ⟨(), (by rw [hk]; decide), ⟨rfl, ?_, trivial⟩, rfl⟩
                   rw [hk]; show AV.bool _ = AV.bool _; congr 1 <;> first | (simp only [kOK]; (first | rw [h5] | rw [h8]); simp; done) | (simp [kOK, lcells_length, *]; done) | ((try simp only [lcells_length] at *); simp [kOK, *] <;> (intros; omega))
                  ·rw [h34]; replace h34 := zcl h34
                   refine zv3 ?_
                   show ∃ z : Unit, _ ∧ _ ∧ _
                   refine ⟨(), (by rw [hk]; decide), ⟨rfl, ?_, trivial⟩, rfl⟩
                   rw [hk]; show AV.bool _ = AV.bool _; congr 1 <;> first | (simp only [kOK]; (first | rw [h5] | rw [h8]); simp; done) | (simp [kOK, lcells_length, *]; done) | ((try simp only [lcells_length] at *); simp [kOK, *] <;> (intros; omega))
                 ·(try rw [h33]); replace h33 := zcl h33
                  refine AWp_seq ?_
                  refine zw2 ?_
                  refine AWp_cond rfl (fun h35 => ?_) (fun h35 => ?_)
                  ·(try rw [h35]); replace h35 := zcl h35
                   have hk : rk name = 10 := by rw [h35]; decide +kernel
                   refine AWp_skip ?_
                   refine AWp_condT rfl ?_
                   refine zu2 ?_
                   refine zt rfl (zc rfl (vcells_eq v ▸ rkids_c name v _ hl)) ?_
                   refine zt rfl (zc rfl (rall_c _ _ (by rw [kidsM_10 v hk, kZ_len]; exact hl))) ?_
                   rw [kidsM_10 v hk, kZ_all schB]
                   refine zv1 ?_
                   refine AWp_regL ?_
                   refine zg4 ?_
                   refine zsp 125 rfl (fun h36 => ?_) fun h36 => ?_
                   ·rw [h36]; replace h36 := zcl h36
                    refine zg6 ?_
                    refine zsp 131 rfl (fun h37 => ?_) fun h37 => ?_
                    ·rw [h37]; replace h37 := zcl h37
                     refine zv3 ?_
                     show ∃ z : Unit, _ ∧ _ ∧ _
                     refine ⟨(), (by rw [hk]; decide), ⟨rfl, ?_, trivial⟩, rfl⟩
                     rw [hk]; show AV.bool _ = AV.bool _; congr 1 <;> first | (simp only [kOK]; (first | rw [h5] | rw [h8]); simp; done) | (simp [kOK, lcells_length, *]; done) | ((try simp only [lcells_length] at *); simp [kOK, *] <;> (intros; omega))
                    ·rw [h37]; replace h37 := zcl h37
                     refine zv3 ?_
                     show ∃ z : Unit, _ ∧ _ ∧ _
                     refine ⟨(), (by rw [hk]; decide), ⟨rfl, ?_, trivial⟩, rfl⟩
                     rw [hk]; show AV.bool _ = AV.bool _; congr 1 <;> first | (simp only [kOK]; (first | rw [h5] | rw [h8]); simp; done) | (simp [kOK, lcells_length, *]; done) | ((try simp only [lcells_length] at *); simp [kOK, *] <;> (intros; omega))
                   ·rw [h36]; replace h36 := zcl h36
                    refine zv9 ?_
                    show ∃ z : Unit, _ ∧ _ ∧ _
                    refine ⟨(), (by rw [hk]; decide), ⟨rfl, ?_, trivial⟩, rfl⟩
                    rw [hk]; show AV.bool _ = AV.bool _; congr 1 <;> first | (simp only [kOK]; (first | rw [h5] | rw [h8]); simp; done) | (simp [kOK, lcells_length, *]; done) | ((try simp only [lcells_length] at *); simp [kOK, *] <;> (intros; omega))
                  ·(try rw [h35]); replace h35 := zcl h35
                   refine zw2 ?_
                   refine AWp_cond rfl (fun h38 => ?_) (fun h38 => ?_)
                   ·(try rw [h38]); replace h38 := zcl h38
                    have hk : rk name = 10 := by rw [h38]; decide +kernel
                    refine AWp_skip ?_
                    refine AWp_condT rfl ?_
                    refine zu2 ?_
                    refine zt rfl (zc rfl (vcells_eq v ▸ rkids_c name v _ hl)) ?_
                    refine zt rfl (zc rfl (rall_c _ _ (by rw [kidsM_10 v hk, kZ_len]; exact hl))) ?_
                    rw [kidsM_10 v hk, kZ_all schB]
                    refine zv1 ?_
                    refine AWp_regL ?_
                    refine zg4 ?_
                    refine zsp 125 rfl (fun h39 => ?_) fun h39 => ?_
                    ·rw [h39]; replace h39 := zcl h39
                     refine zg6 ?_
                     refine zsp 131 rfl (fun h40 => ?_) fun h40 => ?_
                     ·rw [h40]; replace h40 := zcl h40
                      refine zv3 ?_
                      show ∃ z : Unit, _ ∧ _ ∧ _
                      refine ⟨(), (by rw [hk]; decide), ⟨rfl, ?_, trivial⟩, rfl⟩
                      rw [hk]; show AV.bool _ = AV.bool _; congr 1 <;> first | (simp only [kOK]; (first | rw [h5] | rw [h8]); simp; done) | (simp [kOK, lcells_length, *]; done) | ((try simp only [lcells_length] at *); simp [kOK, *] <;> (intros; omega))
                     ·rw [h40]; replace h40 := zcl h40
                      refine zv3 ?_
                      show ∃ z : Unit, _ ∧ _ ∧ _
                      refine ⟨(), (by rw [hk]; decide), ⟨rfl, ?_, trivial⟩, rfl⟩
                      rw [hk]; show AV.bool _ = AV.bool _; congr 1 <;> first | (simp only [kOK]; (first | rw [h5] | rw [h8]); simp; done) | (simp [kOK, lcells_length, *]; done) | ((try simp only [lcells_length] at *); simp [kOK, *] <;> (intros; omega))
                    ·rw [h39]; replace h39 := zcl h39
                     refine zv9 ?_
                     show ∃ z : Unit, _ ∧ _ ∧ _
                     refine ⟨(), (by rw [hk]; decide), ⟨rfl, ?_, trivial⟩, rfl⟩
                     rw [hk]; show AV.bool _ = AV.bool _; congr 1 <;> first | (simp only [kOK]; (first | rw [h5] | rw [h8]); simp; done) | (simp [kOK, lcells_length, *]; done) | ((try simp only [lcells_length] at *); simp [kOK, *] <;> (intros; omega))
                   ·(try rw [h38]); replace h38 := zcl h38
                    refine AWp_regL ?_
                    refine zv2 ?_
                    refine AWp_cond rfl (fun h41 => ?_) (fun h41 => ?_)
                    ·(try rw [h41]); replace h41 := zcl h41
                     have hk : rk name = 10 := by rw [h41]; decide +kernel
                     refine zu2 ?_
                     refine zt rfl (zc rfl (vcells_eq v ▸ rkids_c name v _ hl)) ?_
                     refine zt rfl (zc rfl (rall_c _ _ (by rw [kidsM_10 v hk, kZ_len]; exact hl))) ?_
                     rw [kidsM_10 v hk, kZ_all schB]
                     refine zv1 ?_
                     refine AWp_regL ?_
                     refine zg4 ?_
                     refine zsp 125 rfl (fun h42 => ?_) fun h42 => ?_
                     ·rw [h42]; replace h42 := zcl h42
                      refine zg6 ?_
                      refine zsp 131 rfl (fun h43 => ?_) fun h43 => ?_
                      ·rw [h43]; replace h43 := zcl h43
                       refine zv3 ?_
                       show ∃ z : Unit, _ ∧ _ ∧ _
                       refine ⟨(), (by rw [hk]; decide), ⟨rfl, ?_, trivial⟩, rfl⟩
                       rw [hk]; show AV.bool _ = AV.bool _; congr 1 <;> first | (simp only [kOK]; (first | rw [h5] | rw [h8]); simp; done) | (simp [kOK, lcells_length, *]; done) | ((try simp only [lcells_length] at *); simp [kOK, *] <;> (intros; omega))
                      ·rw [h43]; replace h43 := zcl h43
                       refine zv3 ?_
                       show ∃ z : Unit, _ ∧ _ ∧ _
                       refine ⟨(), (by rw [hk]; decide), ⟨rfl, ?_, trivial⟩, rfl⟩
                       rw [hk]; show AV.bool _ = AV.bool _; congr 1 <;> first | (simp only [kOK]; (first | rw [h5] | rw [h8]); simp; done) | (simp [kOK, lcells_length, *]; done) | ((try simp only [lcells_length] at *); simp [kOK, *] <;> (intros; omega))
                     ·rw [h42]; replace h42 := zcl h42
                      refine zv9 ?_
                      show ∃ z : Unit, _ ∧ _ ∧ _
                      refine ⟨(), (by rw [hk]; decide), ⟨rfl, ?_, trivial⟩, rfl⟩
                      rw [hk]; show AV.bool _ = AV.bool _; congr 1 <;> first | (simp only [kOK]; (first | rw [h5] | rw [h8]); simp; done) | (simp [kOK, lcells_length, *]; done) | ((try simp only [lcells_length] at *); simp [kOK, *] <;> (intros; omega))
                    ·(try rw [h41]); replace h41 := zcl h41
                     refine zw2 ?_
                     refine AWp_cond rfl (fun h44 => ?_) (fun h44 => ?_)
                     ·(try rw [h44]); replace h44 := zcl h44
                      have hk : rk name = 11 := by rw [h44]; decide +kernel
                      refine AWp_regL ?_
                      refine zv4 ?_
                      show ∃ z : Unit, _ ∧ _ ∧ _
                      refine ⟨(), (by rw [hk]; decide), ⟨rfl, ?_, trivial⟩, rfl⟩
                      rw [hk]; show AV.bool _ = AV.bool _; congr 1 <;> first | (simp only [kOK]; (first | rw [h5] | rw [h8]); simp; done) | (simp [kOK, lcells_length, *]; done) | ((try simp only [lcells_length] at *); simp [kOK, *] <;> (intros; omega))
                     ·(try rw [h44]); replace h44 := zcl h44
                      refine zw1 ?_
                      refine zrt ?_
                      have hk : rk name = 0 := by simp [rk, kwL, *]
                      exact ResQ_1 rfl hcl trivial (Ret_of (by unfold rShape; rw [if_pos hk]))
 ·skip
  refine AWp_seq ?_
  refine zw2 ?_
  refine AWp_cond rfl (fun h45 => ?_) (fun h45 => ?_)
  ·(try rw [h45]); replace h45 := zcl h45
   refine zw1 ?_
   refine zrt ?_
   exact ResQ_1 rfl hcl trivial (Ret_of (by congr 1; simp [rShape, *]))
  ·(try rw [h45]); replace h45 := zcl h45
   refine AWp_skip ?_
   refine zw1 ?_
   refine zrt ?_
   exact ResQ_1 rfl hcl trivial (Ret_of (by congr 1; simp [rShape, *]))
end Lg
set_option maxRecDepth 20000
set_option maxHeartbeats 4000000
namespace Go.Proofs
open Go.Shelf
def Tryd.laysM171_ren : Go.Shelf.Ren := ⟨fun | 171 => 49 | 243 => 72 | 246 => 97 | 283 => 113 | 284 => 114 | 285 => 115 | 286 => 116 | 129 => 126 | 317 => 125 | 318 => 127 | 319 => 128 | 320 => 129 | 337 => 134 | 338 => 135 | n => n, fun | 3 => 3 | 9 => 9 | 2 => 2 | 4 => 4 | 171 => 132 | 0 => 0 | 53 => 133 | 37 => 56 | 5 => 5 | 173 => 136 | 212 => 143 | 51 => 139 | 20 => 20 | 213 => 144 | 46 => 62 | 232 => 151 | 233 => 152 | n => n, fun | 17 => 3 | 18 => 4 | 19 => 5 | n => n⟩
theorem Tryd.laysM171 : Go.Proofs.LaysM.n171 Tryd.prog Tryd.laysM171_ren := {
  mixed := by kernel_rfl, f129 := Tryd.func126.trans (congrArg some (by kernel_rfl)), f171 := Tryd.func49.trans (congrArg some (by kernel_rfl)), f243 := Tryd.func72.trans (congrArg some (by kernel_rfl)), f246 := Tryd.func97.trans (congrArg some (by kernel_rfl)), f283 := Tryd.func113.trans (congrArg some (by kernel_rfl)), f284 := Tryd.func114.trans (congrArg some (by kernel_rfl)), f285 := Tryd.func115.trans (congrArg some (by kernel_rfl)), f286 := Tryd.func116.trans (congrArg some (by kernel_rfl)), f317 := Tryd.func125.trans (congrArg some (by kernel_rfl)), f318 := Tryd.func127.trans (congrArg some (by kernel_rfl)), f319 := Tryd.func128.trans (congrArg some (by kernel_rfl)), f320 := Tryd.func129.trans (congrArg some (by kernel_rfl)), f337 := Tryd.func134.trans (congrArg some (by kernel_rfl)), f338 := Tryd.func135.trans (congrArg some (by kernel_rfl)), t0 := Tryd.underlying0, a0 := Tryd.isAgg0, z0 := Tryd.sizeOf0, v0 := Tryd.zeroValue0, t2 := Tryd.underlying2, a2 := Tryd.isAgg2, z2 := Tryd.sizeOf2, v2 := Tryd.zeroValue2, t3 := Tryd.underlying3, a3 := Tryd.isAgg3, z3 := Tryd.sizeOf3, v3 := Tryd.zeroValue3, t4 := Tryd.underlying4, a4 := Tryd.isAgg4, z4 := Tryd.sizeOf4, v4 := Tryd.zeroValue4, t5 := Tryd.underlying5, a5 := Tryd.isAgg5, z5 := Tryd.sizeOf5, v5 := Tryd.zeroValue5, t9 := Tryd.underlying9, a9 := Tryd.isAgg9, z9 := Tryd.sizeOf9, v9 := Tryd.zeroValue9, t20 := Tryd.underlying20, a20 := Tryd.isAgg20, z20 := Tryd.sizeOf20, v20 := Tryd.zeroValue20, t37 := Tryd.underlying56, a37 := Tryd.isAgg56, z37 := Tryd.sizeOf56, v37 := Tryd.zeroValue56, t46 := Tryd.underlying62, a46 := Tryd.isAgg62, z46 := Tryd.sizeOf62, v46 := Tryd.zeroValue62, t51 := Tryd.underlying139, a51 := Tryd.isAgg139, z51 := Tryd.sizeOf139, v51 := Tryd.zeroValue139, t53 := Tryd.underlying133, a53 := Tryd.isAgg133, z53 := Tryd.sizeOf133, v53 := Tryd.zeroValue133, t171 := Tryd.underlying132, a171 := Tryd.isAgg132, z171 := Tryd.sizeOf132, v171 := Tryd.zeroValue132, t173 := Tryd.underlying136, a173 := Tryd.isAgg136, z173 := Tryd.sizeOf136, v173 := Tryd.zeroValue136, t212 := Tryd.underlying143, a212 := Tryd.isAgg143, z212 := Tryd.sizeOf143, v212 := Tryd.zeroValue143, t213 := Tryd.underlying144, a213 := Tryd.isAgg144, z213 := Tryd.sizeOf144, t232 := Tryd.underlying151, a232 := Tryd.isAgg151, z232 := Tryd.sizeOf151, v232 := Tryd.zeroValue151, t233 := Tryd.underlying152, a233 := Tryd.isAgg152, z233 := Tryd.sizeOf152, v233 := Tryd.zeroValue152, g17 := by kernel_rfl, g18 := by kernel_rfl, g19 := by kernel_rfl, i0 := by kernel_rfl, i2 := by kernel_rfl, i3 := by kernel_rfl, i4 := by kernel_rfl, i5 := by kernel_rfl, i9 := by kernel_rfl, i20 := by kernel_rfl, i37 := by kernel_rfl, i46 := by kernel_rfl, i51 := by kernel_rfl, i53 := by kernel_rfl, i171 := by kernel_rfl, i173 := by kernel_rfl, i212 := by kernel_rfl, i232 := by kernel_rfl, i233 := by kernel_rfl, m17 := by kernel_rfl, m18 := by kernel_rfl, m19 := by kernel_rfl }
end Go.Proofs
namespace Lg
open Go Go.Proofs Go.RowKit
/-- The table of the powers of ten lies there. -/
class S10 [GLay] : Prop where
  tabs : ∀ w : World, Laid w → Go.Lib.TabIs Tryd.prog w "internal/strconv.uint64pow10" .u64 Go.Lib.pow10Tab
variable [GLay]
theorem PW.int1 {s : CS} {k : IntKind} {n : Int} {vs : List Value} (h : PW s [.int k n] vs) : vs = [.int k n] := by
  obtain ⟨h1, h2⟩ := h
  match vs, h1 with
  | [v], _ => rw [(h2 0 (.int k n) v rfl rfl).inv_int]
variable [S10]
theorem itoa_c (n : Int) (σ : List AO) (h0 : -9223372036854775808 ≤ n) (h1 : n ≤ 9223372036854775807) : ACalls Tryd.prog 49 [.int .i64 n] σ (Ret (.str (itoaB n)) σ) :=
  ACalls_below fun st cargs g hp => by
    rw [hp.int1]
    refine ⟨.string ⟨(Go.Lib.itoa n).toArray⟩, fun _ => ?_, (Any.strconv_Itoa Tryd.laysM171 n h0 h1 st.w (S10.tabs _ g.laid)).mono ?_⟩
    rotate_left
    · rintro e w' ⟨rfl, k, os, rfl⟩
      exact ⟨rfl, rfl, rfl, rfl, by simp [Go.Sort.grow], fun i hi => by
        show ((st.w.drewN k).heap ++ os)[i]? = _
        rw [Array.getElem?_append_left (by show i < st.w.heap.size; omega)]
        rfl⟩
    · exact .str _
end Lg
namespace Lg
open Go Go.Proofs Go.RowKit
/-- The table, from the world that a row has. -/
theorem S10.of [g : GLay] {W : World} (hT : Go.Lib.TabIs Tryd.prog W "internal/strconv.uint64pow10" .u64 Go.Lib.pow10Tab) (hg : ∀ b, g.f b = W.heap[b]?) : S10 := ⟨fun w hw => by
  unfold Go.Lib.TabIs World.var? at *
  cases hn : Tryd.prog.globalNamed "internal/strconv.uint64pow10" with
  | none => rw [hn] at hT; simp at hT
  | some b =>
    rw [hn] at hT
    simp only [Option.bind_some] at *
    cases hb : W.heap[b]? with
    | none => rw [hb] at hT; simp at hT
    | some o => rw [hb] at hT; rw [hw b o ((hg b).trans hb)]; exact hT⟩
end Lg
set_option maxRecDepth 20000
set_option maxHeartbeats 4000000
namespace Lg
open Go Go.Proofs Go.RowKit
variable [GLay] [S10]
theorem mclone_c (m : List (ByteArray × JV)) (σ : List AO) (hm : m.length ≤ 1000000000) : ACalls Tryd.prog 48 [.sl false 9 (mcells m)] σ (Ret (.sl false 9 (mcells m)) σ) := by
 refine ACalls_body Tryd.func48 rfl Tryd.ntmps48 (res1 Tryd.results48) (Nat.le_of_ble_eq_true rfl) (fun hcl hal => ?_)
 refine zw1 ?_
 refine AWp_seq ?_
 refine zu1 ?_
 refine ztR rfl (op_eqSlR rfl Tryd.underlying34 rfl) (fun v1_1 s1_1 hr => ?_) (fun v1_1 s1_1 hr => ?_)
 rotate_left
 ·exact hr.elim
 obtain ⟨rfl, b, rfl, hb⟩ := hr
 refine zon ?_
 refine AWp_cond rfl (fun h1 => ?_) (fun h1 => ?_)
 ·(try rw [h1]); replace h1 := zcl h1
  refine zw1 ?_
  refine AWp_slotLe 2 rfl (AVle.nils false 9) ?_ (by decide)
  refine zrt ?_
  rw [hb h1]
  exact ResQ_10 rfl hcl (by simp [AV.lt, AV.ltLL]) (Ret_of rfl)
 ·(try rw [h1]); replace h1 := zcl h1
  refine AWp_skip ?_
  refine zsr ?_
  refine zt rfl (op_buildSlice0 (sz := 9) rfl Tryd.underlying34 Tryd.sizeOf47) ?_
  refine zg1 ?_
  refine zt rfl (op_appendNew (sz := 9) (m := m.length) (cs := (mcells m).flatten) rfl (.inr ⟨_, rfl⟩) Tryd.underlying34 Tryd.underlying34 Tryd.type47 rfl rfl rfl (by decide) (.inr rfl) (by rw [← mcells_length m]; rfl) rfl (mones _) (by show m.length * 128 ≤ _; omega) (by omega) (mflat_len _)) ?_
  refine zv1 ?_
  refine AWp_freezeMO 2 0 _ _ m rfl rfl rfl ?_ (by decide)
  refine zrt ?_
  exact ResQ_1 rfl hcl (by simp [AV.lt]) (Ret_of rfl)

theorem kids_c (name : ByteArray) (v : JV) (σ : List AO) (hl : v.l.length ≤ 1000000000) (hm : v.m.length ≤ 1000000000) : ACalls Tryd.prog 24 [.str name, .agg (vcells v)] σ (Ret (.sl false 9 (mcells (kidsM name v))) σ) := by
 refine ACalls_body Tryd.func24 rfl Tryd.ntmps24 (res1 Tryd.results24) (Nat.le_of_ble_eq_true rfl) (fun hcl hal => ?_)
 rw [vcells_eq v]
 have hll := lcells_length v.l
 refine zw2 ?_
 refine zw1 ?_
 refine AWp_seq ?_
 refine zw1 ?_
 refine AWp_block ?_
 refine AWp_seq ?_
 refine zw2 ?_
 refine AWp_cond rfl (fun h1 => ?_) (fun h1 => ?_)
 ·(try rw [h1]); replace h1 := zcl h1
  have hk8 : rk name = 8 := by rw [h1]; decide +kernel
  refine AWp_skip ?_
  refine AWp_condT rfl ?_
  refine AWp_regL ?_
  refine zg3 ?_
  refine zt rfl (op_buildSlice [[_, _, _, _, _, _, _, _, _]] rfl Tryd.underlying34 Tryd.sizeOf47 Tryd.zeroValue47 rfl (by decide) (by decide) rfl rfl rfl rfl rfl) ?_
  refine zt rfl (op_appendNewT rfl (n := 1) rfl (sz := 9) (m := 1) (cs := _) rfl (.inr ⟨_, rfl⟩) Tryd.underlying34 Tryd.underlying34 Tryd.type47 rfl rfl rfl (by decide) (.inl rfl) rfl rfl rfl (by show 1 * 128 ≤ _; omega) (by omega) rfl) ?_
  refine zv1 ?_
  refine AWp_seq ?_
  first | refine AWp_freezeMO 5 1 _ _ [(e0, v)] rfl rfl (by rw [one_cells]; rfl) ?_ (by decide) | refine AWp_freezeMO 5 1 _ _ (kZ v.l) (kZ_len _) rfl rfl ?_ (by decide) | refine AWp_slotLe 5 rfl (AVle.nils false 9) ?_ (by decide) | skip
  refine AWp_regL ?_
  refine zv2 ?_
  refine zrt ?_
  rw [kidsM_8 v hk8]
  exact ResQ_1 rfl hcl (by simp [AV.lt]) (Ret_of rfl)
 ·(try rw [h1]); replace h1 := zcl h1
  refine zw2 ?_
  refine AWp_cond rfl (fun h2 => ?_) (fun h2 => ?_)
  ·(try rw [h2]); replace h2 := zcl h2
   have hk8 : rk name = 8 := by rw [h2]; decide +kernel
   refine AWp_skip ?_
   refine AWp_condT rfl ?_
   refine AWp_regL ?_
   refine zg3 ?_
   refine zt rfl (op_buildSlice [[_, _, _, _, _, _, _, _, _]] rfl Tryd.underlying34 Tryd.sizeOf47 Tryd.zeroValue47 rfl (by decide) (by decide) rfl rfl rfl rfl rfl) ?_
   refine zt rfl (op_appendNewT rfl (n := 1) rfl (sz := 9) (m := 1) (cs := _) rfl (.inr ⟨_, rfl⟩) Tryd.underlying34 Tryd.underlying34 Tryd.type47 rfl rfl rfl (by decide) (.inl rfl) rfl rfl rfl (by show 1 * 128 ≤ _; omega) (by omega) rfl) ?_
   refine zv1 ?_
   refine AWp_seq ?_
   first | refine AWp_freezeMO 5 1 _ _ [(e0, v)] rfl rfl (by rw [one_cells]; rfl) ?_ (by decide) | refine AWp_freezeMO 5 1 _ _ (kZ v.l) (kZ_len _) rfl rfl ?_ (by decide) | refine AWp_slotLe 5 rfl (AVle.nils false 9) ?_ (by decide) | skip
   refine AWp_regL ?_
   refine zv2 ?_
   refine zrt ?_
   rw [kidsM_8 v hk8]
   exact ResQ_1 rfl hcl (by simp [AV.lt]) (Ret_of rfl)
  ·(try rw [h2]); replace h2 := zcl h2
   refine AWp_regL ?_
   refine zv2 ?_
   refine AWp_cond rfl (fun h3 => ?_) (fun h3 => ?_)
   ·(try rw [h3]); replace h3 := zcl h3
    have hk8 : rk name = 8 := by rw [h3]; decide +kernel
    refine AWp_regL ?_
    refine zg3 ?_
    refine zt rfl (op_buildSlice [[_, _, _, _, _, _, _, _, _]] rfl Tryd.underlying34 Tryd.sizeOf47 Tryd.zeroValue47 rfl (by decide) (by decide) rfl rfl rfl rfl rfl) ?_
    refine zt rfl (op_appendNewT rfl (n := 1) rfl (sz := 9) (m := 1) (cs := _) rfl (.inr ⟨_, rfl⟩) Tryd.underlying34 Tryd.underlying34 Tryd.type47 rfl rfl rfl (by decide) (.inl rfl) rfl rfl rfl (by show 1 * 128 ≤ _; omega) (by omega) rfl) ?_
    refine zv1 ?_
    refine AWp_seq ?_
    first | refine AWp_freezeMO 5 1 _ _ [(e0, v)] rfl rfl (by rw [one_cells]; rfl) ?_ (by decide) | refine AWp_freezeMO 5 1 _ _ (kZ v.l) (kZ_len _) rfl rfl ?_ (by decide) | refine AWp_slotLe 5 rfl (AVle.nils false 9) ?_ (by decide) | skip
    refine AWp_regL ?_
    refine zv2 ?_
    refine zrt ?_
    rw [kidsM_8 v hk8]
    exact ResQ_1 rfl hcl (by simp [AV.lt]) (Ret_of rfl)
   ·(try rw [h3]); replace h3 := zcl h3
    refine AWp_seq ?_
    refine zw2 ?_
    refine AWp_cond rfl (fun h4 => ?_) (fun h4 => ?_)
    ·(try rw [h4]); replace h4 := zcl h4
     refine AWp_skip ?_
     refine AWp_condT rfl ?_
     refine AWp_regL ?_
     refine zg2 ?_
     refine zt rfl (zc rfl (mclone_c v.m _ hm)) ?_
     refine zv1 ?_
     refine AWp_seq ?_
     first | refine AWp_freezeMO 5 1 _ _ [(e0, v)] rfl rfl (by rw [one_cells]; rfl) ?_ (by decide) | refine AWp_freezeMO 5 1 _ _ (kZ v.l) (kZ_len _) rfl rfl ?_ (by decide) | refine AWp_slotLe 5 rfl (AVle.nils false 9) ?_ (by decide) | skip
     refine AWp_regL ?_
     refine zv2 ?_
     refine zrt ?_
     rw [kidsM_9 v (show rk name = 9 by rw [h4]; decide +kernel)]
     exact ResQ_1 rfl hcl (by simp [AV.lt]) (Ret_of rfl)
    ·(try rw [h4]); replace h4 := zcl h4
     refine AWp_regL ?_
     refine zv2 ?_
     refine AWp_cond rfl (fun h5 => ?_) (fun h5 => ?_)
     ·(try rw [h5]); replace h5 := zcl h5
      refine AWp_regL ?_
      refine zg2 ?_
      refine zt rfl (zc rfl (mclone_c v.m _ hm)) ?_
      refine zv1 ?_
      refine AWp_seq ?_
      first | refine AWp_freezeMO 5 1 _ _ [(e0, v)] rfl rfl (by rw [one_cells]; rfl) ?_ (by decide) | refine AWp_freezeMO 5 1 _ _ (kZ v.l) (kZ_len _) rfl rfl ?_ (by decide) | refine AWp_slotLe 5 rfl (AVle.nils false 9) ?_ (by decide) | skip
      refine AWp_regL ?_
      refine zv2 ?_
      refine zrt ?_
      rw [kidsM_9 v (show rk name = 9 by rw [h5]; decide +kernel)]
      exact ResQ_1 rfl hcl (by simp [AV.lt]) (Ret_of rfl)
     ·(try rw [h5]); replace h5 := zcl h5
      refine AWp_seq ?_
      refine zw2 ?_
      refine AWp_cond rfl (fun h6 => ?_) (fun h6 => ?_)
      ·(try rw [h6]); replace h6 := zcl h6
       have hk10 : rk name = 10 := by rw [h6]; decide +kernel
       refine AWp_skip ?_
       refine AWp_condT rfl ?_
       refine AWp_seq ?_
       refine AWp_ghostTO 5 9 1 rfl rfl ?_ (by decide)
       refine AWp_regL ?_
       refine zv4 ?_
       refine AWp_block ?_
       -- loop 0 LIVE 4:assign 5:assign 29:load 30:call 31:move
       refine AWp_loop (ι := Nat) (fun i => i ≤ v.l.length) (fun i => ⟨[], [(5, .arr (σ.length + 1) i 9 0 i), (29, .sl false 8 (lcells v.l)), (30, .int .i64 ((lcells v.l).length : Int)), (31, .int .i64 (i : Int))]⟩) (fun i => σ ++ [.box [.int .i64 v.kind, .bool v.b, .bool v.n.neg, .str v.n.digits, .int .i64 v.n.exp, .str v.s, .sl false 8 (lcells v.l), .sl false 9 (mcells v.m)], .arr 9 i (mcells (kZ (v.l.take i))).flatten]) (fun i => v.l.length - i) (0) (Nat.zero_le _) ?_ rfl (fun i hi => ?_)
       ·exact ⟨rfl, rfl, rfl, rfl, rfl, trivial⟩
       have hkl : (kZ (v.l.take i)).length = i := by rw [kZ_len, List.length_take]; omega
       have hfl := mflat_len (kZ (v.l.take i))
       refine zw1 ?_
       refine AWp_seq ?_
       refine AWp_cond rfl (fun h7 => ?_) (fun h7 => ?_)
       ·(try rw [h7]); replace h7 := zcl h7
        obtain ⟨x, hx⟩ : ∃ x, v.l[i]? = some x := ⟨_, List.getElem?_eq_getElem (show i < v.l.length by omega)⟩
        refine AWp_skip ?_
        refine AWp_seq ?_
        refine AWp_block ?_
        refine zu2 ?_
        rw [vcells_eq x]
        refine zv4 ?_
        refine AWp_drawL #[0, 0, 2, 0, 14, 30, 63, 127] Tryd.mixed (by decide +kernel) (by decide +kernel) ?_
        refine zd2 ?_
        refine yP rfl rfl (zc rfl (itoa_c i _ (by omega) (by omega))) (trivial) ?_
        refine zp1 ?_
        refine zd1 ?_
        refine yA rfl rfl (fun _ => op_buildSlice [[_, _, _, _, _, _, _, _, _]] rfl Tryd.underlying34 Tryd.sizeOf47 Tryd.zeroValue47 rfl (by decide) (by decide) rfl rfl rfl rfl rfl) ?_
        refine yE rfl rfl (op_appendArrT rfl 1 (sz := 9) (m := 1) (len := i) (cs := _) rfl (.inr ⟨_, rfl⟩) Tryd.underlying34 Tryd.underlying34 Tryd.type47 rfl rfl rfl (by decide) rfl rfl (by rw [hfl, hkl]) rfl rfl rfl (by show (i + 1) * 128 ≤ _; omega) (by omega) rfl) (⟨.inl rfl, ⟨.inl rfl, trivial⟩⟩) (trivial) ?_
        refine zd1 ?_
        refine RP.nil rfl ?_
        refine AWp_regL ?_
        refine zv2 ?_
        refine ⟨i + 1, σ.length + 2, by omega, by omega, by simp, ⟨rfl, rfl, rfl, rfl, rfl, trivial⟩, closed_own 2 hcl ?_, ?_, ?_⟩
        ·simp [ownLt, AO.cells, AV.ltL, AV.lt, ofConst1, ltL_append, mflat_lt]
        ·simp [ltE, AV.lt]; (try omega)
        ·rw [kZ_take hx, mcells_snoc, mrow, vcells_eq x]; exact take_own 2
       ·(try rw [h7]); replace h7 := zcl h7
        have hie : i = v.l.length := by omega
        subst hie
        rw [List.take_length]
        refine AWp_exit ?_
        refine AWp_seq ?_
        first | refine AWp_freezeMO 5 1 _ _ [(e0, v)] rfl rfl (by rw [one_cells]; rfl) ?_ (by decide) | refine AWp_freezeMO 5 1 _ _ (kZ v.l) (kZ_len _) rfl rfl ?_ (by decide) | refine AWp_slotLe 5 rfl (AVle.nils false 9) ?_ (by decide) | skip
        refine AWp_regL ?_
        refine zv2 ?_
        refine zrt ?_
        rw [kidsM_10 v hk10]
        exact ResQ_1 rfl hcl (by simp [AV.lt]) (Ret_of rfl)
      ·(try rw [h6]); replace h6 := zcl h6
       refine zw2 ?_
       refine AWp_cond rfl (fun h8 => ?_) (fun h8 => ?_)
       ·(try rw [h8]); replace h8 := zcl h8
        have hk10 : rk name = 10 := by rw [h8]; decide +kernel
        refine AWp_skip ?_
        refine AWp_condT rfl ?_
        refine AWp_seq ?_
        refine AWp_ghostTO 5 9 1 rfl rfl ?_ (by decide)
        refine AWp_regL ?_
        refine zv4 ?_
        refine AWp_block ?_
        -- loop 1 LIVE 4:assign 5:assign 29:load 30:call 31:move
        refine AWp_loop (ι := Nat) (fun i => i ≤ v.l.length) (fun i => ⟨[], [(5, .arr (σ.length + 1) i 9 0 i), (29, .sl false 8 (lcells v.l)), (30, .int .i64 ((lcells v.l).length : Int)), (31, .int .i64 (i : Int))]⟩) (fun i => σ ++ [.box [.int .i64 v.kind, .bool v.b, .bool v.n.neg, .str v.n.digits, .int .i64 v.n.exp, .str v.s, .sl false 8 (lcells v.l), .sl false 9 (mcells v.m)], .arr 9 i (mcells (kZ (v.l.take i))).flatten]) (fun i => v.l.length - i) (0) (Nat.zero_le _) ?_ rfl (fun i hi => ?_)
        ·exact ⟨rfl, rfl, rfl, rfl, rfl, trivial⟩
        have hkl : (kZ (v.l.take i)).length = i := by rw [kZ_len, List.length_take]; omega
        have hfl := mflat_len (kZ (v.l.take i))
        refine zw1 ?_
        refine AWp_seq ?_
        refine AWp_cond rfl (fun h9 => ?_) (fun h9 => ?_)
        ·(try rw [h9]); replace h9 := zcl h9
         obtain ⟨x, hx⟩ : ∃ x, v.l[i]? = some x := ⟨_, List.getElem?_eq_getElem (show i < v.l.length by omega)⟩
         refine AWp_skip ?_
         refine AWp_seq ?_
         refine AWp_block ?_
         refine zu2 ?_
         rw [vcells_eq x]
         refine zv4 ?_
         refine AWp_drawL #[0, 0, 2, 0, 14, 30, 63, 127] Tryd.mixed (by decide +kernel) (by decide +kernel) ?_
         refine zd2 ?_
         refine yP rfl rfl (zc rfl (itoa_c i _ (by omega) (by omega))) (trivial) ?_
         refine zp1 ?_
         refine zd1 ?_
         refine yA rfl rfl (fun _ => op_buildSlice [[_, _, _, _, _, _, _, _, _]] rfl Tryd.underlying34 Tryd.sizeOf47 Tryd.zeroValue47 rfl (by decide) (by decide) rfl rfl rfl rfl rfl) ?_
         refine yE rfl rfl (op_appendArrT rfl 1 (sz := 9) (m := 1) (len := i) (cs := _) rfl (.inr ⟨_, rfl⟩) Tryd.underlying34 Tryd.underlying34 Tryd.type47 rfl rfl rfl (by decide) rfl rfl (by rw [hfl, hkl]) rfl rfl rfl (by show (i + 1) * 128 ≤ _; omega) (by omega) rfl) (⟨.inl rfl, ⟨.inl rfl, trivial⟩⟩) (trivial) ?_
         refine zd1 ?_
         refine RP.nil rfl ?_
         refine AWp_regL ?_
         refine zv2 ?_
         refine ⟨i + 1, σ.length + 2, by omega, by omega, by simp, ⟨rfl, rfl, rfl, rfl, rfl, trivial⟩, closed_own 2 hcl ?_, ?_, ?_⟩
         ·simp [ownLt, AO.cells, AV.ltL, AV.lt, ofConst1, ltL_append, mflat_lt]
         ·simp [ltE, AV.lt]; (try omega)
         ·rw [kZ_take hx, mcells_snoc, mrow, vcells_eq x]; exact take_own 2
        ·(try rw [h9]); replace h9 := zcl h9
         have hie : i = v.l.length := by omega
         subst hie
         rw [List.take_length]
         refine AWp_exit ?_
         refine AWp_seq ?_
         first | refine AWp_freezeMO 5 1 _ _ [(e0, v)] rfl rfl (by rw [one_cells]; rfl) ?_ (by decide) | refine AWp_freezeMO 5 1 _ _ (kZ v.l) (kZ_len _) rfl rfl ?_ (by decide) | refine AWp_slotLe 5 rfl (AVle.nils false 9) ?_ (by decide) | skip
         refine AWp_regL ?_
         refine zv2 ?_
         refine zrt ?_
         rw [kidsM_10 v hk10]
         exact ResQ_1 rfl hcl (by simp [AV.lt]) (Ret_of rfl)
       ·(try rw [h8]); replace h8 := zcl h8
        refine AWp_regL ?_
        refine zv2 ?_
        refine AWp_cond rfl (fun h10 => ?_) (fun h10 => ?_)
        ·(try rw [h10]); replace h10 := zcl h10
         have hk10 : rk name = 10 := by rw [h10]; decide +kernel
         refine AWp_seq ?_
         refine AWp_ghostTO 5 9 1 rfl rfl ?_ (by decide)
         refine AWp_regL ?_
         refine zv4 ?_
         refine AWp_block ?_
         -- loop 2 LIVE 4:assign 5:assign 29:load 30:call 31:move
         refine AWp_loop (ι := Nat) (fun i => i ≤ v.l.length) (fun i => ⟨[], [(5, .arr (σ.length + 1) i 9 0 i), (29, .sl false 8 (lcells v.l)), (30, .int .i64 ((lcells v.l).length : Int)), (31, .int .i64 (i : Int))]⟩) (fun i => σ ++ [.box [.int .i64 v.kind, .bool v.b, .bool v.n.neg, .str v.n.digits, .int .i64 v.n.exp, .str v.s, .sl false 8 (lcells v.l), .sl false 9 (mcells v.m)], .arr 9 i (mcells (kZ (v.l.take i))).flatten]) (fun i => v.l.length - i) (0) (Nat.zero_le _) ?_ rfl (fun i hi => ?_)
         ·exact ⟨rfl, rfl, rfl, rfl, rfl, trivial⟩
         have hkl : (kZ (v.l.take i)).length = i := by rw [kZ_len, List.length_take]; omega
         have hfl := mflat_len (kZ (v.l.take i))
         refine zw1 ?_
         refine AWp_seq ?_
         refine AWp_cond rfl (fun h11 => ?_) (fun h11 => ?_)
         ·(try rw [h11]); replace h11 := zcl h11
          obtain ⟨x, hx⟩ : ∃ x, v.l[i]? = some x := ⟨_, List.getElem?_eq_getElem (show i < v.l.length by omega)⟩
          refine AWp_skip ?_
          refine AWp_seq ?_
          refine AWp_block ?_
          refine zu2 ?_
          rw [vcells_eq x]
          refine zv4 ?_
          refine AWp_drawL #[0, 0, 2, 0, 14, 30, 63, 127] Tryd.mixed (by decide +kernel) (by decide +kernel) ?_
          refine zd2 ?_
          refine yP rfl rfl (zc rfl (itoa_c i _ (by omega) (by omega))) (trivial) ?_
          refine zp1 ?_
          refine zd1 ?_
          refine yA rfl rfl (fun _ => op_buildSlice [[_, _, _, _, _, _, _, _, _]] rfl Tryd.underlying34 Tryd.sizeOf47 Tryd.zeroValue47 rfl (by decide) (by decide) rfl rfl rfl rfl rfl) ?_
          refine yE rfl rfl (op_appendArrT rfl 1 (sz := 9) (m := 1) (len := i) (cs := _) rfl (.inr ⟨_, rfl⟩) Tryd.underlying34 Tryd.underlying34 Tryd.type47 rfl rfl rfl (by decide) rfl rfl (by rw [hfl, hkl]) rfl rfl rfl (by show (i + 1) * 128 ≤ _; omega) (by omega) rfl) (⟨.inl rfl, ⟨.inl rfl, trivial⟩⟩) (trivial) ?_
          refine zd1 ?_
          refine RP.nil rfl ?_
          refine AWp_regL ?_
          refine zv2 ?_
          refine ⟨i + 1, σ.length + 2, by omega, by omega, by simp, ⟨rfl, rfl, rfl, rfl, rfl, trivial⟩, closed_own 2 hcl ?_, ?_, ?_⟩
          ·simp [ownLt, AO.cells, AV.ltL, AV.lt, ofConst1, ltL_append, mflat_lt]
          ·simp [ltE, AV.lt]; (try omega)
          ·rw [kZ_take hx, mcells_snoc, mrow, vcells_eq x]; exact take_own 2
         ·(try rw [h11]); replace h11 := zcl h11
          have hie : i = v.l.length := by omega
          subst hie
          rw [List.take_length]
          refine AWp_exit ?_
          refine AWp_seq ?_
          first | refine AWp_freezeMO 5 1 _ _ [(e0, v)] rfl rfl (by rw [one_cells]; rfl) ?_ (by decide) | refine AWp_freezeMO 5 1 _ _ (kZ v.l) (kZ_len _) rfl rfl ?_ (by decide) | refine AWp_slotLe 5 rfl (AVle.nils false 9) ?_ (by decide) | skip
          refine AWp_regL ?_
          refine zv2 ?_
          refine zrt ?_
          rw [kidsM_10 v hk10]
          exact ResQ_1 rfl hcl (by simp [AV.lt]) (Ret_of rfl)
        ·(try rw [h10]); replace h10 := zcl h10
         refine AWp_skip ?_
         refine AWp_seq ?_
         first | refine AWp_freezeMO 5 1 _ _ [(e0, v)] rfl rfl (by rw [one_cells]; rfl) ?_ (by decide) | refine AWp_freezeMO 5 1 _ _ (kZ v.l) (kZ_len _) rfl rfl ?_ (by decide) | refine AWp_slotLe 5 rfl (AVle.nils false 9) ?_ (by decide) | skip
         refine AWp_regL ?_
         refine zv2 ?_
         refine zrt ?_
         have hk8 : ¬ rk name = 8 := fun e => by have := rk_mem e (by decide); simp [kwL] at this; rcases this with h | h | h; exact h1 h; exact h2 h; exact h3 h
         rw [kidsM_nil v hk8 h4 h5 h6 h8 h10]
         exact ResQ_1 rfl hcl (by simp [AV.lt, AV.ltLL]) (Ret_of rfl)
end Lg
namespace Lg
open Go
theorem may_whole {v : JV} (h : jmay v) : rWhole v.n = decide (0 ≤ v.n.exp) := by
  have h := ((jmay_eq v).1 h).1.2.2.2.1
  unfold rWhole
  rcases h with ⟨h1, _, h3⟩ | ⟨h1, _⟩
  · rw [h3]; simp [h1]
  · rw [decide_eq_false h1]; rfl
theorem kZ_get {l : List JV} {i : Nat} {q : ByteArray × JV} (h : (kZ l)[i]? = some q) : l[i]? = some q.2 := by
  unfold kZ at h
  rw [List.getElem?_map, List.getElem?_zipIdx] at h
  cases hx : l[i]? with
  | none => rw [hx] at h; simp at h
  | some x => rw [hx] at h; simp at h; rw [← h]
theorem kids_jb {n : ByteArray} {v : JV} (hv : jb v) {i : Nat} {q : ByteArray × JV} (h : (kidsM n v)[i]? = some q) : jb q.2 ∧ jsize q.2 ≤ jsize v := by
  obtain ⟨_, _, _, _, h5, h6⟩ := (jb_eq v).1 hv
  have hs := jsize_eq v
  have hl := lsize_nn v.l
  have hm := msize_nn v.m
  unfold kidsM at h
  split at h
  · have hi := (List.getElem?_eq_some_iff.1 h).1
    have : i = 0 := by simp at hi; exact hi
    subst this
    cases h
    exact ⟨hv, by simp⟩
  · split at h
    · have := msize_mem h
      exact ⟨(mb_get h6 h).2, by omega⟩
    · split at h
      · have hx := kZ_get (l := v.l) h
        have := lsize_mem hx
        exact ⟨lb_get h5 hx, by omega⟩
      · simp at h
theorem kids_len {n : ByteArray} {v : JV} (hv : jb v) : (kidsM n v).length ≤ 1000000 := by
  obtain ⟨_, _, h3, h4, _, _⟩ := (jb_eq v).1 hv
  unfold kidsM
  split
  · simp
  · split
    · exact h4
    · split
      · have := kZ_len v.l; unfold kZ at this; omega
      · simp
theorem kids_sch {n : ByteArray} {v : JV} (h : rShape n v = 0) {i : Nat} {q : ByteArray × JV} (hq : (kidsM n v)[i]? = some q) : q.2.kind = 1 ∨ q.2.kind = 5 := by
  have hk : kOK (rk n) v = true := by
    unfold rShape at h
    split at h
    · cases h
    · split at h
      · assumption
      · cases h
  have : schB q.2 = true := by
    unfold kidsM at hq
    split at hq
    · rename_i h8
      rw [h8] at hk
      have hi := (List.getElem?_eq_some_iff.1 hq).1
      have : i = 0 := by simp at hi; exact hi
      subst this; cases hq
      simpa [kOK] using hk
    · split at hq
      · rename_i h9
        rw [h9] at hk
        simp only [kOK, Bool.and_eq_true, List.all_eq_true] at hk
        exact hk.2 q (List.mem_of_getElem? hq)
      · split at hq
        · rename_i h10
          rw [h10] at hk
          simp only [kOK, Bool.and_eq_true, List.all_eq_true] at hk
          exact hk.2 q.2 (List.mem_of_getElem? (kZ_get (l := v.l) hq))
        · simp at hq
  unfold schB at this
  simpa using this
theorem kids_one {n : ByteArray} {v : JV} (h : rk n = 8) : (kidsM n v).length = 1 := by
  unfold kidsM; rw [if_pos h]; rfl
theorem rk_z (n : ByteArray) : rk (⟨#[122]⟩ ++ n) = 0 := by
  unfold rk
  cases hf : kwL.find? fun q => decide (⟨#[122]⟩ ++ n = q.1) with
  | none => rfl
  | some q =>
    exfalso
    have hm := List.mem_of_find?_eq_some hf
    have hq := List.find?_some hf
    simp only [decide_eq_true_eq] at hq
    have h0 : ∀ q ∈ kwL, q.1.data.toList.head? ≠ some 122 := by decide +kernel
    have h1 := h0 q hm
    rw [← hq] at h1
    exact h1 (by simp [ByteArray.data_append])
theorem rShape_range (n : ByteArray) (v : JV) : rShape n v = 0 ∨ rShape n v = 10 ∨ rShape n v = 11 := by
  unfold rShape
  split
  · exact .inr (.inl rfl)
  · split
    · exact .inl rfl
    · exact .inr (.inr rfl)
theorem rShape_z (n : ByteArray) (v : JV) : rShape (⟨#[122]⟩ ++ n) v = 10 := by unfold rShape; rw [if_pos (rk_z n)]
theorem rShape_const (v : JV) : rShape ⟨#[99, 111, 110, 115, 116]⟩ v = 0 := by
  unfold rShape; rw [show rk ⟨#[99, 111, 110, 115, 116]⟩ = 3 by decide +kernel, if_neg (by decide), if_pos (by simp [kOK])]
theorem rShape_as {a b : ByteArray} (v : JV) (h : rk a = rk b) : rShape a v = rShape b v := by unfold rShape; rw [h]
def vint : JV := .mk 3 false {} ⟨#[105, 110, 116, 101, 103, 101, 114]⟩ [] []
theorem vint_a : rShape ⟨#[116, 121, 112, 101]⟩ vint = 0 := by
  unfold rShape; rw [show rk ⟨#[116, 121, 112, 101]⟩ = 1 by decide +kernel, if_neg (by decide), if_pos (by simp only [kOK]; rw [show tyB vint = true by decide +kernel]; rfl)]
theorem vint_b : rShape ⟨#[116, 121, 112]⟩ vint = 10 := by unfold rShape; rw [if_pos (by decide +kernel)]
theorem vint_c : rShape ⟨#[101, 110, 117, 109]⟩ vint = 11 := by
  unfold rShape; rw [show rk ⟨#[101, 110, 117, 109]⟩ = 2 by decide +kernel, if_neg (by decide), if_neg (by decide +kernel)]
end Lg
set_option maxRecDepth 20000
set_option maxHeartbeats 4000000
namespace Lg
open Go Go.Proofs Go.RowKit
variable [GLay] 
end Lg
set_option maxRecDepth 20000
set_option maxHeartbeats 4000000
namespace Lg
open Go Go.Proofs Go.RowKit
variable [GLay] 
theorem rsame_any (n : Nat) : ∀ (x y : JV) (σ : List AO), jsize x ≤ n → jb x → jb y → ACalls Tryd.prog 47 [.agg (vcells x), .agg (vcells y)] σ (Ret (.bool (pb (x = y))) σ) := by
 induction n with
 | zero => intro x y σ h; have := jsize_pos x; omega
 | succ n ih =>
 intro x y σ hn hjx hjy
 have hvs := jsize_eq x
 have hl := lsize_nn x.l
 have hm := msize_nn x.m
 obtain ⟨hb1, hb2, hb3, hb4, hb5, hb6⟩ := (jb_eq x).1 hjx
 obtain ⟨hc1, hc2, hc3, hc4, hc5, hc6⟩ := (jb_eq y).1 hjy
 have hxl := lcells_length x.l
 have hyl := lcells_length y.l
 have hxm := mcells_length x.m
 have hym := mcells_length y.m
 refine ACalls_body Tryd.func47 rfl Tryd.ntmps47 (res1 Tryd.results47) (Nat.le_of_ble_eq_true rfl) (fun hcl hal => ?_)
 rw [vcells_eq x, vcells_eq y]
 refine zw3 ?_
 refine AWp_seq ?_
 refine zu6 ?_
 refine zsp 14 rfl (fun h1 => ?_) fun h1 => ?_
 ·rw [h1]; replace h1 := zcl h1
  refine zg30 ?_
  refine zg8 ?_
  refine zon ?_
  refine AWp_condT rfl ?_
  refine zw1 ?_
  refine zrt ?_
  refine ResQ_1 rfl hcl trivial (Ret_of (bool_f ?_))
  rw [jv_ext]; intro hj; obtain ⟨j1, j2, ⟨j3, j4, j5⟩, j6, j7, j8⟩ := hj
  simp_all
 ·rw [h1]; replace h1 := zcl h1
  refine zg7 ?_
  refine zsp 21 rfl (fun h2 => ?_) fun h2 => ?_
  ·rw [h2]; replace h2 := zcl h2
   refine zg30 ?_
   refine zg1 ?_
   refine zon ?_
   refine AWp_condT rfl ?_
   refine zw1 ?_
   refine zrt ?_
   refine ResQ_1 rfl hcl trivial (Ret_of (bool_f ?_))
   rw [jv_ext]; intro hj; obtain ⟨j1, j2, ⟨j3, j4, j5⟩, j6, j7, j8⟩ := hj
   simp_all
  ·rw [h2]; replace h2 := zcl h2
   refine zg4 ?_
   refine ztG rfl rfl (op_neS rfl Tryd.underlying32 (by kernel_rfl) (by kernel_rfl) (.bool _ _ _ _ _ _ _ _ (by decide) rfl Tryd.underlying4 (.str _ _ _ _ _ _ _ _ (by decide) rfl Tryd.underlying9 (.int _ _ _ _ _ _ _ _ _ _ (by decide) rfl Tryd.underlying3 (.nil _)))) rfl rfl) ?_
   refine zg2 ?_
   refine zsp 28 rfl (fun h3 => ?_) fun h3 => ?_
   ·rw [h3]; replace h3 := zcl h3
    refine zg20 ?_
    refine zg4 ?_
    refine zon ?_
    refine AWp_condT rfl ?_
    refine zw1 ?_
    refine zrt ?_
    refine ResQ_1 rfl hcl trivial (Ret_of (bool_f ?_))
    rw [jv_ext]; intro hj; obtain ⟨j1, j2, ⟨j3, j4, j5⟩, j6, j7, j8⟩ := hj
    simp_all
   ·rw [h3]; replace h3 := zcl h3
    refine zg7 ?_
    refine zsp 35 rfl (fun h4 => ?_) fun h4 => ?_
    ·rw [h4]; replace h4 := zcl h4
     refine zg10 ?_
     refine zg7 ?_
     refine zon ?_
     refine AWp_condT rfl ?_
     refine zw1 ?_
     refine zrt ?_
     refine ResQ_1 rfl hcl trivial (Ret_of (bool_f ?_))
     rw [jv_ext]; intro hj; obtain ⟨j1, j2, ⟨j3, j4, j5⟩, j6, j7, j8⟩ := hj
     simp_all
    ·rw [h4]; replace h4 := zcl h4
     refine zg9 ?_
     refine zsp 44 rfl (fun h5 => ?_) fun h5 => ?_
     ·rw [h5]; replace h5 := zcl h5
      refine zv8 ?_
      refine AWp_condT rfl ?_
      refine zw1 ?_
      refine zrt ?_
      refine ResQ_1 rfl hcl trivial (Ret_of (bool_f ?_))
      rw [jv_ext]; intro hj; obtain ⟨j1, j2, ⟨j3, j4, j5⟩, j6, j7, j8⟩ := hj
      simp_all
     ·rw [h5]; replace h5 := zcl h5
      refine zv8 ?_
      refine AWp_cond rfl (fun h6 => ?_) (fun h6 => ?_)
      ·(try rw [h6]); replace h6 := zcl h6
       refine zw1 ?_
       refine zrt ?_
       refine ResQ_1 rfl hcl trivial (Ret_of (bool_f ?_))
       rw [jv_ext]; intro hj; obtain ⟨j1, j2, ⟨j3, j4, j5⟩, j6, j7, j8⟩ := hj
       simp_all
      ·(try rw [h6]); replace h6 := zcl h6
       have hlen1 : x.l.length = y.l.length := by omega
       have hlen2 : x.m.length = y.m.length := by omega
       refine AWp_skip ?_
       refine AWp_seq ?_
       refine zw1 ?_
       refine AWp_block ?_
       -- loop 0 LIVE 2:box 3:box 4:assign 5:assign
       refine AWp_loop (ι := Nat) (fun i => i ≤ x.l.length ∧ ∀ j : Nat, j < i → x.l[j]? = y.l[j]?) (fun i => ⟨[], [(2, .ptr (σ.length + 0) 0), (3, .ptr (σ.length + 1) 0), (5, .int .i64 (i : Int))]⟩) (fun i => σ ++ [_, _]) (fun i => x.l.length - i) (0) (⟨Nat.zero_le _, fun j hj => absurd hj (by omega)⟩) ?_ rfl (fun i hi => ?_)
       ·exact ⟨rfl, rfl, rfl, rfl, trivial⟩
       obtain ⟨hi1, hi2⟩ := hi
       refine AWp_seq ?_
       refine zw5 ?_
       refine AWp_cond rfl (fun h7 => ?_) (fun h7 => ?_)
       ·(try rw [h7]); replace h7 := zcl h7
        obtain ⟨u, hu⟩ : ∃ u, x.l[i]? = some u := ⟨_, List.getElem?_eq_getElem (show i < x.l.length by omega)⟩
        obtain ⟨w, hw⟩ : ∃ w, y.l[i]? = some w := ⟨_, List.getElem?_eq_getElem (show i < y.l.length by omega)⟩
        have hlm := lsize_mem hu
        refine AWp_skip ?_
        refine AWp_seq ?_
        refine AWp_block ?_
        refine AWp_seq ?_
        refine AWp_drawL #[0, 1, 0, 7, 15, 0, 32, 0, 224, 480, 1023, 2047] Tryd.mixed (by decide +kernel) (by decide +kernel) ?_
        refine zd1 ?_
        refine zp1 ?_
        refine zd1 ?_
        refine yA rfl rfl (fun _ => op_indexAddr rfl Tryd.underlying33 Tryd.sizeOf36 rfl rfl (by omega) (lcells_get hu)) ?_
        rw [vcells_eq u]
        refine zp1 ?_
        refine zd1 ?_
        refine zp1 ?_
        refine zd1 ?_
        refine yA rfl rfl (fun _ => op_indexAddr rfl Tryd.underlying33 Tryd.sizeOf36 rfl rfl (by omega) (lcells_get hw)) ?_
        rw [vcells_eq w]
        refine zp1 ?_
        refine yP rfl rfl (zc rfl (AC2 (vcells_eq u) (vcells_eq w) (ih u w _ (by omega) (lb_get hb5 hu) (lb_get hc5 hw)))) (trivial) ?_
        refine zd1 ?_
        refine RP.nil rfl ?_
        refine zw2 ?_
        refine AWp_cond rfl (fun h8 => ?_) (fun h8 => ?_)
        ·(try rw [h8]); replace h8 := zcl h8
         refine zw1 ?_
         refine zrt ?_
         refine ResQ_1 rfl hcl trivial (Ret_of (bool_f fun e => ?_))
         rw [e] at hu; rw [hu] at hw; cases hw; rw [pb_t rfl] at h8; cases h8
        ·(try rw [h8]); replace h8 := zcl h8
         refine AWp_skip ?_
         refine AWp_regL ?_
         refine zv3 ?_
         have huw := (pb_iff _).1 h8
         refine ⟨i + 1, σ.length + 2, ⟨by omega, fun j hj => ?_⟩, by omega, by simp, ⟨rfl, rfl, rfl, rfl, trivial⟩, closed_own 2 hcl ?_, ?_, take_own 2⟩
         ·by_cases e : j = i
          ·subst e; rw [hu, hw, huw]
          ·exact hi2 j (by omega)
         ·simp [ownLt, AO.cells, AV.ltL, AV.lt]
         ·simp [ltE, AV.lt]
       ·(try rw [h7]); replace h7 := zcl h7
        have hL : x.l = y.l := list_eq_of hlen1 fun j hj => hi2 j (by omega)
        clear hi2 hi1 h7
        refine AWp_exit ?_
        refine AWp_seq ?_
        refine zw1 ?_
        refine AWp_block ?_
        -- loop 1 LIVE 2:box 3:box 4:assign 7:assign
        refine AWp_loop (ι := Nat) (fun i => i ≤ x.m.length ∧ ∀ j : Nat, j < i → x.m[j]? = y.m[j]?) (fun i => ⟨[], [(2, .ptr (σ.length + 0) 0), (3, .ptr (σ.length + 1) 0), (7, .int .i64 (i : Int))]⟩) (fun i => σ ++ [_, _]) (fun i => x.m.length - i) (0) (⟨Nat.zero_le _, fun j hj => absurd hj (by omega)⟩) ?_ rfl (fun i hi => ?_)
        ·exact ⟨rfl, rfl, rfl, rfl, trivial⟩
        obtain ⟨hi3, hi4⟩ := hi
        refine AWp_seq ?_
        refine zw5 ?_
        refine AWp_cond rfl (fun h9 => ?_) (fun h9 => ?_)
        ·(try rw [h9]); replace h9 := zcl h9
         obtain ⟨u, hu⟩ : ∃ u, x.m[i]? = some u := ⟨_, List.getElem?_eq_getElem (show i < x.m.length by omega)⟩
         obtain ⟨w, hw⟩ : ∃ w, y.m[i]? = some w := ⟨_, List.getElem?_eq_getElem (show i < y.m.length by omega)⟩
         have hms := msize_mem hu
         refine AWp_skip ?_
         refine AWp_seq ?_
         refine AWp_block ?_
         refine AWp_seq ?_
         refine AWp_drawL #[0, 1, 0, 7, 15, 31, 0, 64, 0, 448, 960, 1984, 4095, 8191] Tryd.mixed (by decide +kernel) (by decide +kernel) ?_
         refine zd1 ?_
         refine zp1 ?_
         refine zd1 ?_
         refine yA rfl rfl (fun _ => op_indexAddr rfl Tryd.underlying34 Tryd.sizeOf47 rfl rfl (by omega) (mcells_get hu)) ?_
         refine zd1 ?_
         rw [vcells_eq u.2]
         refine zp1 ?_
         refine zd1 ?_
         refine zp1 ?_
         refine zd1 ?_
         refine yA rfl rfl (fun _ => op_indexAddr rfl Tryd.underlying34 Tryd.sizeOf47 rfl rfl (by omega) (mcells_get hw)) ?_
         refine zd1 ?_
         rw [vcells_eq w.2]
         refine zp1 ?_
         refine yP rfl rfl (zc rfl (AC2 (vcells_eq u.2) (vcells_eq w.2) (ih u.2 w.2 _ (by omega) (mb_get hb6 hu).2 (mb_get hc6 hw).2))) (trivial) ?_
         refine zd1 ?_
         refine RP.nil rfl ?_
         refine AWp_seq ?_
         refine AWp_drawL #[0, 1, 3, 7, 15, 7, 63, 127, 255, 7, 519, 7, 3591, 7687, 15879, 32767, 65535] Tryd.mixed (by decide +kernel) (by decide +kernel) ?_
         refine zd3 ?_
         refine zspr 95 rfl (fun h10 => ?_) fun h10 => ?_
         ·rw [h10]; replace h10 := zcl h10
          refine zd10 ?_
          refine zd4 ?_
          refine RP.nil rfl ?_
          refine AWp_condT rfl ?_
          refine zw1 ?_
          refine zrt ?_
          refine ResQ_1 rfl hcl trivial (Ret_of (bool_f fun e => ?_))
          rw [e] at hu; rw [hu] at hw; cases hw; rw [pb_t rfl] at h10; cases h10
         ·rw [h10]; replace h10 := zcl h10
          refine zd1 ?_
          refine zp1 ?_
          refine zd1 ?_
          refine yAG rfl rfl rfl (fun _ => op_indexAddr rfl Tryd.underlying34 Tryd.sizeOf47 rfl rfl (by omega) (mcells_get hu)) ?_
          refine zd1 ?_
          refine zp1 ?_
          refine zd1 ?_
          refine zp1 ?_
          refine zd1 ?_
          refine yAG rfl rfl rfl (fun _ => op_indexAddr rfl Tryd.underlying34 Tryd.sizeOf47 rfl rfl (by omega) (mcells_get hw)) ?_
          refine zd1 ?_
          refine zp1 ?_
          refine zd2 ?_
          refine RP.nil rfl ?_
          refine AWp_cond rfl (fun h11 => ?_) (fun h11 => ?_)
          ·(try rw [h11]); replace h11 := zcl h11
           refine zw1 ?_
           refine zrt ?_
           refine ResQ_1 rfl hcl trivial (Ret_of (bool_f fun e => ?_))
           rw [e] at hu; rw [hu] at hw; cases hw; exact h11 rfl
          ·(try rw [h11]); replace h11 := zcl h11
           refine AWp_skip ?_
           refine AWp_regL ?_
           refine zv3 ?_
           have huw := (pb_iff _).1 h10
           refine ⟨i + 1, σ.length + 2, ⟨by omega, fun j hj => ?_⟩, by omega, by simp, ⟨rfl, rfl, rfl, rfl, trivial⟩, closed_own 2 hcl ?_, ?_, take_own 2⟩
           ·by_cases e : j = i
            ·subst e; rw [hu, hw, Prod.ext h11 huw]
            ·exact hi4 j (by omega)
           ·simp [ownLt, AO.cells, AV.ltL, AV.lt]
           ·simp [ltE, AV.lt]
        ·(try rw [h9]); replace h9 := zcl h9
         have hM : x.m = y.m := list_eq_of hlen2 fun j hj => hi4 j (by omega)
         refine AWp_exit ?_
         refine zw1 ?_
         refine zrt ?_
         refine ResQ_1 rfl hcl trivial (Ret_of (bool_t ((jv_ext x y).2 ?_)))
         simp_all
end Lg
set_option maxRecDepth 20000
set_option maxHeartbeats 4000000
namespace Lg
open Go Go.Proofs Go.RowKit
variable [GLay] [S10]
theorem code_0 (σ : List AO) : ACalls Tryd.prog 19 [.nili] σ (Ret (.int .i64 0) σ) := by
 refine ACalls_body Tryd.func19 rfl Tryd.ntmps19 (res1 Tryd.results19) (Nat.le_of_ble_eq_true rfl) (fun hcl hal => ?_)
 refine zw1 ?_
 refine AWp_seq ?_
 refine zw2 ?_
 refine AWp_cond rfl (fun h1 => ?_) (fun h1 => ?_)
 ·(try rw [h1]); replace h1 := zcl h1
  refine zw1 ?_
  refine zrt ?_
  exact ResQ_10 rfl hcl trivial (Ret_of rfl)
 ·(try rw [h1]); replace h1 := zcl h1
  cases h1

theorem code_k (k : Int) (σ : List AO) (h0 : 1 ≤ k) (h14 : k ≤ 14) : ACalls Tryd.prog 19 [.iface 65 (.int .i64 k)] σ (Ret (.int .i64 k) σ) := by
 refine ACalls_body Tryd.func19 rfl Tryd.ntmps19 (res1 Tryd.results19) (Nat.le_of_ble_eq_true rfl) (fun hcl hal => ?_)
 refine zw1 ?_
 refine AWp_seq ?_
 refine zw2 ?_
 refine AWp_cond rfl (fun h1 => ?_) (fun h1 => ?_)
 ·(try rw [h1]); replace h1 := zcl h1
  cases h1
 ·(try rw [h1]); replace h1 := zcl h1
  refine AWp_skip ?_
  refine AWp_seq ?_
  refine zw1 ?_
  refine AWp_block ?_
  -- loop 0 LIVE 0:param 2:assign 3:assign
  refine AWp_loop (ι := Nat) (fun i => 1 ≤ i ∧ (i : Int) ≤ k) (fun i => ⟨[], [(0, .iface 65 (.int .i64 k)), (2, .int .i64 0), (3, .int .i64 (i : Int))]⟩) (fun i => σ) (fun i => 15 - i) (1) (⟨by omega, by omega⟩) ?_ rfl (fun i hi => ?_)
  ·exact ⟨rfl, rfl, rfl, rfl, trivial⟩
  obtain ⟨hi1, hi2⟩ := hi
  refine AWp_seq ?_
  refine zw2 ?_
  refine AWp_cond rfl (fun h2 => ?_) (fun h2 => ?_)
  ·(try rw [h2]); replace h2 := zcl h2
   refine AWp_skip ?_
   refine AWp_seq ?_
   refine AWp_block ?_
   refine zu3 ?_
   refine zt rfl (op_eqII rfl Tryd.underlying26 (by kernel_rfl) Tryd.underlying65 rfl rfl) ?_
   refine zon ?_
   refine AWp_cond rfl (fun h3 => ?_) (fun h3 => ?_)
   ·(try rw [h3]); replace h3 := zcl h3
    refine zw2 ?_
    refine zrt ?_
    refine ResQ_10 rfl hcl trivial (Ret_of ?_)
    congr 1; omega
   ·(try rw [h3]); replace h3 := zcl h3
    refine AWp_skip ?_
    refine AWp_regL ?_
    refine zv3 ?_
    refine ⟨i + 1, σ.length, ⟨by omega, by omega⟩, by omega, Nat.le_refl _, ⟨rfl, rfl, rfl, ?_, trivial⟩, hcl, ?_, List.take_length⟩
    ·rfl
    ·simp [ltE, AV.lt]
  ·(try rw [h2]); replace h2 := zcl h2
   refine AWp_exit ?_
   refine zw1 ?_
   refine zrt ?_
   exfalso; omega

theorem upA_c (σ : List AO) : ACalls Tryd.prog 20 [.str ⟨#[116, 121, 112, 101]⟩, .agg [.int .i64 3, .bool false, .bool false, .str ⟨#[]⟩, .int .i64 0, .str ⟨#[105, 110, 116, 101, 103, 101, 114]⟩, .nils, .nils]] σ (Ret (.nili) σ) := by
  have h := check_c ⟨#[116, 121, 112, 101]⟩ vint σ (by decide) (by decide) (fun _ => by decide)
  rw [vint_a] at h
  exact ACalls.conv (args' := [.str ⟨#[116, 121, 112, 101]⟩, .agg (vcells vint)]) ⟨AVle.refl _, AVle.agg (vle8 nilL nilM), trivial⟩ h
theorem upB_c (σ : List AO) : ACalls Tryd.prog 20 [.str ⟨#[116, 121, 112]⟩, .agg [.int .i64 3, .bool false, .bool false, .str ⟨#[]⟩, .int .i64 0, .str ⟨#[105, 110, 116, 101, 103, 101, 114]⟩, .nils, .nils]] σ (Ret (.iface 65 (.int .i64 10)) σ) := by
  have h := check_c ⟨#[116, 121, 112]⟩ vint σ (by decide) (by decide) (fun _ => by decide)
  rw [vint_b] at h
  exact ACalls.conv (args' := [.str ⟨#[116, 121, 112]⟩, .agg (vcells vint)]) ⟨AVle.refl _, AVle.agg (vle8 nilL nilM), trivial⟩ h
theorem upC_c (σ : List AO) : ACalls Tryd.prog 20 [.str ⟨#[101, 110, 117, 109]⟩, .agg [.int .i64 3, .bool false, .bool false, .str ⟨#[]⟩, .int .i64 0, .str ⟨#[105, 110, 116, 101, 103, 101, 114]⟩, .nils, .nils]] σ (Ret (.iface 65 (.int .i64 11)) σ) := by
  have h := check_c ⟨#[101, 110, 117, 109]⟩ vint σ (by decide) (by decide) (fun _ => by decide)
  rw [vint_c] at h
  exact ACalls.conv (args' := [.str ⟨#[101, 110, 117, 109]⟩, .agg (vcells vint)]) ⟨AVle.refl _, AVle.agg (vle8 nilL nilM), trivial⟩ h
theorem codev_c (k : Int) (σ : List AO) (h : k = 0 ∨ k = 10 ∨ k = 11) : ACalls Tryd.prog 19 [cerv k] σ (Ret (.int .i64 k) σ) := by
  rcases h with rfl | rfl | rfl
  · exact code_0 σ
  · exact code_k 10 σ (by decide) (by decide)
  · exact code_k 11 σ (by decide) (by decide)
theorem op_eqCerv {P : Program} {σ : List AO} {e : Env} {o : Oper} {T T' : TypeId} {x : Operand} {ms : Array (String × TypeId)} {k : Int} (ho : o.op = .binOp .eql T x (.const .nilIface) T') (hu : P.underlying T = some (.interface ms)) (hx : opO e x = some (cerv k)) : AOp P σ e o (.bool (decide (k = 0))) σ := by
  by_cases h : k = 0
  · rw [decide_eq_true h]; exact op_eqINil ho hu (by rw [hx]; unfold cerv; rw [if_pos h])
  · rw [decide_eq_false h]; exact op_eqIN ho hu (by rw [hx]; unfold cerv; rw [if_neg h])
theorem check_to (a b : ByteArray) (v : JV) (σ : List AO) (hl : v.l.length ≤ 1000000000) (hm : v.m.length ≤ 1000000000) (hw : v.kind = 2 → rWhole v.n = decide (0 ≤ v.n.exp)) (h : rShape b v = rShape a v) : ACalls Tryd.prog 20 [.str b, .agg (vcells v)] σ (Ret (cerv (rShape a v)) σ) := by
  rw [← h]; exact check_c b v σ hl hm hw
theorem check_const (v : JV) (σ : List AO) (hl : v.l.length ≤ 1000000000) (hm : v.m.length ≤ 1000000000) (hw : v.kind = 2 → rWhole v.n = decide (0 ≤ v.n.exp)) : ACalls Tryd.prog 20 [.str ⟨#[99, 111, 110, 115, 116]⟩, .agg (vcells v)] σ (Ret .nili σ) := by
  have h := check_c ⟨#[99, 111, 110, 115, 116]⟩ v σ hl hm hw
  rw [rShape_const] at h; exact h
theorem check_z (n : ByteArray) (v : JV) (σ : List AO) (hl : v.l.length ≤ 1000000000) (hm : v.m.length ≤ 1000000000) (hw : v.kind = 2 → rWhole v.n = decide (0 ≤ v.n.exp)) : ACalls Tryd.prog 20 [.str (⟨#[122]⟩ ++ n), .agg (vcells v)] σ (Ret (.iface 65 (.int .i64 10)) σ) := by
  have h := check_c (⟨#[122]⟩ ++ n) v σ hl hm hw
  rw [rShape_z] at h; exact h
theorem up10_c (σ : List AO) : ACalls Tryd.prog 17 [] σ (Ret (.bool true) σ) := by
 refine ACalls_body Tryd.func17 rfl Tryd.ntmps17 (res1 Tryd.results17) (Nat.le_of_ble_eq_true rfl) (fun hcl hal => ?_)
 refine zw1 ?_
 refine zw3 ?_
 refine zu1 ?_
 refine zt rfl (zc rfl (upA_c _)) ?_
 refine zg3 ?_
 refine ztG rfl rfl (zc rfl (upB_c _)) ?_
 refine ztG rfl rfl (zc rfl (code_k 10 _ (by decide) (by decide))) ?_
 refine ztG rfl rfl (op_eqlT rfl rfl rfl rfl) ?_
 refine zg3 ?_
 refine ztG rfl rfl (zc rfl (upC_c _)) ?_
 refine ztG rfl rfl (zc rfl (code_k 11 _ (by decide) (by decide))) ?_
 refine ztG rfl rfl (op_eqlT rfl rfl rfl rfl) ?_
 refine zg2 ?_
 refine ztG rfl rfl (zc rfl (single_c _ _)) ?_
 refine zv2 ?_
 refine zrt ?_
 exact ResQ_1 rfl hcl trivial (Ret_of (by first | (congr 1; done) | (congr 1; decide +kernel)))

theorem rsameT (x : JV) (σ : List AO) (h : jb x) : ACalls Tryd.prog 47 [.agg (vcells x), .agg (vcells x)] σ (Ret (.bool true) σ) := by
  have hs := rsame_any (jsize x).toNat x x σ (by have := jsize_pos x; omega) h h
  rwa [pb_t rfl] at hs
theorem same10_c (m : List (ByteArray × JV)) (σ : List AO) (hm : m.length ≤ 1000000000) (hj : ∀ (i : Nat) q, m[i]? = some q → jb q.2) : ACalls Tryd.prog 23 [.sl false 9 (mcells m), .sl false 9 (mcells m)] σ (Ret (.int .i64 1) σ) := by
 refine ACalls_body Tryd.func23 rfl Tryd.ntmps23 (res1 Tryd.results23) (Nat.le_of_ble_eq_true rfl) (fun hcl hal => ?_)
 have hml := mcells_length m
 refine zw1 ?_
 refine AWp_seq ?_
 refine zw5 ?_
 refine AWp_cond rfl (fun h1 => ?_) (fun h1 => ?_)
 ·(try rw [h1]); replace h1 := zcl h1
  exact absurd True.intro h1
 ·(try rw [h1]); replace h1 := zcl h1
  refine AWp_skip ?_
  refine AWp_seq ?_
  refine zw1 ?_
  refine AWp_block ?_
  -- loop 0 LIVE 0:param 1:param 4:assign 5:assign
  refine AWp_loop (ι := Nat) (fun i => i ≤ m.length) (fun i => ⟨[], [(0, .sl false 9 (mcells m)), (1, .sl false 9 (mcells m)), (5, .int .i64 (i : Int))]⟩) (fun i => σ) (fun i => m.length - i) (0) (Nat.zero_le _) ?_ rfl (fun i hi => ?_)
  ·exact ⟨rfl, rfl, rfl, rfl, trivial⟩
  refine AWp_seq ?_
  refine zw4 ?_
  refine AWp_cond rfl (fun h2 => ?_) (fun h2 => ?_)
  ·(try rw [h2]); replace h2 := zcl h2
   obtain ⟨q, hq⟩ : ∃ q, m[i]? = some q := ⟨_, List.getElem?_eq_getElem (show i < m.length by omega)⟩
   refine AWp_skip ?_
   refine AWp_seq ?_
   refine AWp_block ?_
   refine AWp_seq ?_
   refine AWp_drawL #[0, 0, 3, 7, 15, 0, 0, 96, 224, 480, 1023, 2047] Tryd.mixed (by decide +kernel) (by decide +kernel) ?_
   refine zd4 ?_
   rw [vcells_eq q.2]
   refine zp1 ?_
   refine zd4 ?_
   (try rw [vcells_eq q.2])
   refine zp1 ?_
   refine yP rfl rfl (zc rfl (vcells_eq q.2 ▸ rsameT q.2 _ (hj i q hq))) (trivial) ?_
   refine zd1 ?_
   refine RP.nil rfl ?_
   refine AWp_seq ?_
   refine AWp_drawL #[0, 1, 3, 7, 7, 31, 63, 127, 7, 7, 775, 1799, 3847, 8191, 16383] Tryd.mixed (by decide +kernel) (by decide +kernel) ?_
   refine zd7 ?_
   refine zp1 ?_
   refine zd4 ?_
   refine zp1 ?_
   refine zd2 ?_
   refine RP.nil rfl ?_
   refine AWp_cond rfl (fun h3 => ?_) (fun h3 => ?_)
   ·(try rw [h3]); replace h3 := zcl h3
    exact absurd True.intro h3
   ·(try rw [h3]); replace h3 := zcl h3
    refine AWp_skip ?_
    refine AWp_regL ?_
    refine zv3 ?_
    refine ⟨i + 1, σ.length, by omega, by omega, Nat.le_refl _, ⟨rfl, rfl, rfl, rfl, trivial⟩, hcl, ?_, List.take_length⟩
    simp [ltE, AV.lt]
  ·(try rw [h2]); replace h2 := zcl h2
   refine AWp_exit ?_
   refine zw1 ?_
   refine zrt ?_
   exact ResQ_10 rfl hcl trivial (Ret_of rfl)
end Lg
set_option maxRecDepth 20000
set_option maxHeartbeats 4000000
namespace Lg
open Go Go.Proofs Go.RowKit
variable [GLay] 
theorem peek_c (s : ByteArray) (at0 deep bad spot : Int) (p : Nat) (σ : List AO) (hσ : σ[p]? = some (.box [.str s, .int .i64 at0, .int .i64 deep, .int .i64 bad, .int .i64 spot])) (h0 : 0 ≤ at0) : ACalls Tryd.prog 82 [.ptr p 0] σ (Ret (.int .i64 (pkv s at0 bad)) σ) := by
 refine ACalls_body Tryd.func82 rfl Tryd.ntmps82 (res1 Tryd.results82) (Nat.le_of_ble_eq_true rfl) (fun hcl hal => ?_)
 have hbl := bat_lt s at0.toNat
 refine zw1 ?_
 refine AWp_seq ?_
 refine AWp_seq ?_
 refine AWp_drawL #[0, 1, 3, 7, 15, 31, 63, 127, 255, 511, 63, 1087, 3135, 7231, 15423, 32767, 65535] Tryd.mixed (by decide +kernel) (by decide +kernel) ?_
 refine zd3 ?_
 refine zp1 ?_
 refine zd2 ?_
 refine zspr 8 rfl (fun h1 => ?_) fun h1 => ?_
 ·rw [h1]; replace h1 := zcl h1
  refine zd10 ?_
  refine zd1 ?_
  refine RP.nil rfl ?_
  refine AWp_condT rfl ?_
  refine zw1 ?_
  refine zrt ?_
  refine ResQ_10 rfl hcl trivial (Ret_of ?_)
  congr 1; unfold pkv; first | (rw [if_pos (by omega)]; done) | (rw [if_neg (by omega)]; done)
 ·rw [h1]; replace h1 := zcl h1
  refine zd3 ?_
  refine zp1 ?_
  refine zd3 ?_
  refine zp1 ?_
  refine zd3 ?_
  refine RP.nil rfl ?_
  refine AWp_cond rfl (fun h2 => ?_) (fun h2 => ?_)
  ·(try rw [h2]); replace h2 := zcl h2
   refine zw1 ?_
   refine zrt ?_
   refine ResQ_10 rfl hcl trivial (Ret_of ?_)
   congr 1; unfold pkv; first | (rw [if_pos (by omega)]; done) | (rw [if_neg (by omega)]; done)
  ·(try rw [h2]); replace h2 := zcl h2
   refine AWp_skip ?_
   refine AWp_seq ?_
   refine AWp_drawL #[0, 1, 3, 7, 0, 16, 48, 112, 255, 511, 1023] Tryd.mixed (by decide +kernel) (by decide +kernel) ?_
   refine zd3 ?_
   refine zp1 ?_
   refine zd3 ?_
   refine zp1 ?_
   refine zd3 ?_
   refine RP.nil rfl ?_
   refine zrt ?_
   refine ResQ_10 rfl hcl trivial (Ret_of ?_)
   congr 1; unfold pkv; first | (rw [if_pos (by omega)]; done) | (rw [if_neg (by omega)]; done)
end Lg
set_option maxRecDepth 20000
set_option maxHeartbeats 4000000
namespace Lg
open Go Go.Proofs Go.RowKit
variable [GLay] 
theorem fail_c (s : ByteArray) (at0 deep bad spot : Int) (p : Nat) (σ : List AO) (hσ : σ[p]? = some (.box [.str s, .int .i64 at0, .int .i64 deep, .int .i64 bad, .int .i64 spot])) (a b : Int) : ACalls Tryd.prog 59 [.ptr p 0, .int .i64 a, .int .i64 b] σ (Ret (.tup []) (σ.set p (.box [.str s, .int .i64 at0, .int .i64 deep, .int .i64 (if bad = 0 then b else bad), .int .i64 (if bad = 0 then a else spot)]))) := by
 have hp : p < σ.length := (List.getElem?_eq_some_iff.1 hσ).1
 refine ACalls_body Tryd.func59 rfl Tryd.ntmps59 (res0 Tryd.results59) (Nat.le_of_ble_eq_true rfl) (fun hcl hal => ?_)
 refine AWp_heap (set_same hσ) ?_
 refine zw5 ?_
 refine AWp_cond rfl (fun h1 => ?_) (fun h1 => ?_)
 ·(try rw [h1]); replace h1 := zcl h1
  refine zw5 ?_
  refine AWp_regL ?_
  refine zv5 ?_
  (try simp only [blockQ, thenQ])
  rw [if_pos h1, if_pos h1]
  exact ResQ_N0 (x := .box [.str s, .int .i64 at0, .int .i64 deep, .int .i64 b, .int .i64 a]) hcl (by simp [AO.cells, AV.ltL, AV.lt]) ⟨rfl, rfl⟩
 ·(try rw [h1]); replace h1 := zcl h1
  refine AWp_skip ?_
  (try simp only [blockQ, thenQ])
  rw [if_neg h1, if_neg h1]
  exact ResQ_N0 hcl (by simp [AO.cells, AV.ltL, AV.lt]) ⟨rfl, rfl⟩
end Lg
