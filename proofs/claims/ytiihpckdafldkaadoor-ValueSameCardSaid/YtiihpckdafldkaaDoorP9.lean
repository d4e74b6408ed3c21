/- A part of the proof of ValueSame: Same is of one value with itself, both ways, and on from one to the next, and what follows of size, depth and members; for every input, with no condition: W18 Lg28 W19 W9 Lp7 W20. -/
import Derived.Test.YtiihpckdafldkaaDoorP6
import Derived.Test.YtiihpckdafldkaaDoorP8
import Derived.Test.YtiihpckdafldkaaDoorP5
import Derived.Test.YtiihpckdafldkaaDoorProg
set_option linter.unusedVariables false
set_option linter.unusedSimpArgs false
set_option linter.unusedSectionVars false
set_option maxRecDepth 20000
set_option maxHeartbeats 4000000
namespace Lg
open Go Go.Proofs Go.RowKit
variable [GLay] 


theorem fail_r (s : ByteArray) (r : RS) (p : Nat) (σ : List AO) (hσ : σ[p]? = some (rbox s r)) (a b : Int) : ACalls Tryd.prog 53 [.ptr p 0, .int .i64 a, .int .i64 b] σ (Ret (.tup []) (σ.set p (rbox s (rfail r a b)))) := fail_c s r.a r.deep r.bad r.spot p σ hσ a b
theorem peek_r (s : ByteArray) (r : RS) (p : Nat) (σ : List AO) (hσ : σ[p]? = some (rbox s r)) : ACalls Tryd.prog 59 [.ptr p 0] σ (Ret (.int .i64 (pkv s r.a r.bad)) σ) := peek_c s r.a r.deep r.bad r.spot p σ hσ (by omega)
theorem blank_r (s : ByteArray) (r : RS) (p : Nat) (σ : List AO) (hσ : σ[p]? = some (rbox s r)) (hs : s.size ≤ 100000) (h : ROK s r) : ACalls Tryd.prog 58 [.ptr p 0] σ (Ret (.tup []) (σ.set p (rbox s (rblank s r)))) := blank_c s r.a r.deep r.bad r.spot p σ hσ (by omega) (by have := h.a; omega)
theorem open_r (s : ByteArray) (r : RS) (p : Nat) (σ : List AO) (hσ : σ[p]? = some (rbox s r)) (hs : s.size ≤ 100000) (h : ROK s r) : ACalls Tryd.prog 71 [.ptr p 0] σ (Ret (.tup []) (σ.set p (rbox s (ropen s r)))) := open_c s r.a r.deep r.bad r.spot p σ hσ (by omega) (by have := h.a; omega) h.d0 (by have := h.d1; have := h.a; omega)
theorem want_c (lit : ByteArray) (s : ByteArray) (r : RS) (p : Nat) (σ : List AO) (hσ : σ[p]? = some (rbox s r)) (hs : s.size ≤ 100000) (hl : lit.size ≤ 1000) (h : ROK s r) : ACalls Tryd.prog 63 [.ptr p 0, .str lit] σ (Ret (.tup []) (σ.set p (rbox s (rwant s lit r)))) := by
  have hp : p < σ.length := (List.getElem?_eq_some_iff.1 hσ).1
  refine ACalls_body Tryd.func63 rfl Tryd.ntmps63 (res0 Tryd.results63) (Nat.le_of_ble_eq_true rfl) (fun hcl hal => ?_)
  refine AWp_heap (set_same hσ) ?_
  refine AWp_seq ?_
  -- region 0 ref.go:515
  refine AWp_regL ?_
  refine st rfl rfl rfl (op_assignO rfl rfl) ?_
  refine AOps_nil ?_
  refine AWp_block ?_
  -- loop 0 LIVE 0:param 1:param 4:assign
  refine AWp_loop (ι := Nat × RS) (fun q => wantF s lit q.1 q.2 = rwant s lit r ∧ ROK s q.2 ∧ q.1 ≤ lit.size) (fun q => ⟨[], [(0, .ptr p 0), (1, .str lit), (4, .int .i64 (q.1 : Int))]⟩) (fun q => σ.set p (rbox s q.2)) (fun q => lit.size - q.1) ((0, r)) (⟨rfl, h, Nat.zero_le _⟩) ?_ rfl (fun q hq => ?_)
  · exact ⟨rfl, rfl, rfl, rfl, trivial⟩
  obtain ⟨i, t⟩ := q
  obtain ⟨hq1, hq2, hq3⟩ := hq
  simp only at hq1 hq2 hq3 ⊢
  have ha := hq2.a
  refine AWp_seq ?_
  refine AWp_seq ?_
  -- region 1 ref.go:515
  refine AWp_regL ?_
  refine st rfl rfl rfl (op_moveO rfl rfl) ?_
  refine st rfl rfl rfl (op_moveO rfl rfl) ?_
  refine st rfl rfl rfl (op_lenStr rfl rfl Tryd.underlying9 rfl) ?_
  refine st rfl rfl rfl (op_lss rfl rfl rfl) ?_
  refine st rfl rfl rfl (op_moveO rfl rfl) ?_
  refine AOps_split 9 rfl (fun h1 => ?_) (fun h1 => ?_)
  · rw [h1]; (try simp only [decide_eq_true_eq, decide_eq_false_iff_not, Bool.not_eq_true', Bool.not_eq_false', Int.not_lt, Int.not_le, Bool.not_true, Bool.not_false, Int.toNat_natCast, tn1, tn2, tnn, bne_iff_ne, beq_iff_eq, beq_eq_false_iff_ne, ne_eq, Decidable.not_not] at h1)
    refine stG rfl rfl rfl rfl rfl rfl (op_moveO rfl rfl) ?_
    refine stG rfl rfl rfl rfl rfl rfl (op_nilCheck rfl rfl rfl) ?_
    refine stG rfl rfl rfl rfl rfl rfl (op_fieldAddrO (fo := 3) rfl Tryd.underlying93 rfl rfl Tryd.sizeOf3 (by decide) rfl trivial) ?_
    refine stG rfl rfl rfl rfl rfl rfl (op_load1 rfl Tryd.isAgg3 (by first | exact ldv_set hp rfl | exact ldv_setA hp rfl | exact ldv_ownS rfl rfl | exact ldv_pp rfl)) ?_
    refine stG rfl rfl rfl rfl rfl rfl (op_eql rfl rfl rfl) ?_
    refine st rfl rfl rfl (op_pickTO rfl rfl rfl) ?_
    refine AOps_nil ?_
    refine AWp_cond rfl (fun h2 => ?_) (fun h2 => ?_)
    · (try rw [h2]); (try simp only [decide_eq_true_eq, decide_eq_false_iff_not, Bool.not_eq_true', Bool.not_eq_false', Int.not_lt, Int.not_le, Bool.not_true, Bool.not_false, Int.toNat_natCast, tn1, tn2, tnn, bne_iff_ne, beq_iff_eq, beq_eq_false_iff_ne, ne_eq, Decidable.not_not] at h2)
      refine AWp_skip ?_
      refine AWp_seq ?_
      refine AWp_block ?_
      refine AWp_seq ?_
      refine AWp_seq ?_
      -- region 3 ref.go:516 DRAWN
      refine AWp_drawL #[0, 1, 0, 0, 12, 28, 63] Tryd.mixed (by decide +kernel) (by decide +kernel) ?_
      refine rA rfl rfl rfl rfl (fun _ => op_moveO rfl rfl) ?_
      refine rP rfl rfl rfl rfl (op_callF rfl rfl rfl Tryd.func59 rfl rfl (peek_r s t p _ (get_set hp))) (trivial) ?_
      refine rA rfl rfl rfl rfl (fun _ => op_moveO rfl rfl) ?_
      refine rA rfl rfl rfl rfl (fun _ => op_moveO rfl rfl) ?_
      refine rA rfl rfl rfl rfl (fun _ => op_index_strB rfl Tryd.underlying9 rfl rfl (by omega) (by omega)) ?_
      simp only [Int.toNat_natCast]
      have hbl := bat_lt lit i
      refine rA rfl rfl rfl rfl (fun _ => op_convIn rfl (by rw [Tryd.underlying5]; rfl) Tryd.underlying3 rfl (by first | rfl | exact wrap64_in (by omega) (by omega) | exact wrapu8_in (by omega) (by omega) | (simp only [IntKind.wrap]; omega))) ?_
      refine rA rfl rfl rfl rfl (fun _ => op_neq rfl rfl rfl) ?_
      refine RP.nil rfl ?_
      refine AWp_cond rfl (fun h3 => ?_) (fun h3 => ?_)
      · (try rw [h3]); (try simp only [decide_eq_true_eq, decide_eq_false_iff_not, Bool.not_eq_true', Bool.not_eq_false', Int.not_lt, Int.not_le, Bool.not_true, Bool.not_false, Int.toNat_natCast, tn1, tn2, tnn, bne_iff_ne, beq_iff_eq, beq_eq_false_iff_ne, ne_eq, Decidable.not_not] at h3)
        -- region 4 ref.go:517
        refine AWp_regL ?_
        refine st rfl rfl rfl (op_moveO rfl rfl) ?_
        refine st rfl rfl rfl (op_moveO rfl rfl) ?_
        refine st rfl rfl rfl (op_nilCheck rfl rfl rfl) ?_
        refine st rfl rfl rfl (op_fieldAddrO (fo := 1) rfl Tryd.underlying93 rfl rfl Tryd.sizeOf3 (by decide) rfl trivial) ?_
        refine st rfl rfl rfl (op_load1 rfl Tryd.isAgg3 (by first | exact ldv_set hp rfl | exact ldv_setA hp rfl | exact ldv_ownS rfl rfl | exact ldv_pp rfl)) ?_
        refine st rfl rfl rfl (op_callF rfl rfl rfl Tryd.func53 rfl rfl (callS (fail_r s t p _ (get_set hp) (t.a : Int) 1))) ?_
        have hra : (rfail t (t.a : Int) 1).a = t.a := rfl
        refine AOps_nil ?_
        -- region 5 ref.go:519
        refine AWp_regL ?_
        refine st rfl rfl rfl (op_moveO rfl rfl) ?_
        refine st rfl rfl rfl (op_nilCheck rfl rfl rfl) ?_
        refine st rfl rfl rfl (op_fieldAddrO (fo := 1) rfl Tryd.underlying93 rfl rfl Tryd.sizeOf3 (by decide) rfl trivial) ?_
        refine st rfl rfl rfl (op_load1 rfl Tryd.isAgg3 (by first | exact ldv_set hp rfl | exact ldv_setA hp rfl | exact ldv_ownS rfl rfl | exact ldv_pp rfl)) ?_
        refine st rfl rfl rfl (op_add64 rfl rfl rfl (by omega) (by omega)) ?_
        refine st rfl rfl rfl (op_nilCheck rfl rfl rfl) ?_
        refine st rfl rfl rfl (op_fieldAddrO (fo := 1) rfl Tryd.underlying93 rfl rfl Tryd.sizeOf3 (by decide) rfl trivial) ?_
        refine stN rfl rfl ((by first | exact op_storeS (r := [_, _, _, _, _]) rfl Tryd.sizeOf3 rfl rfl rfl hp rfl (by decide) | exact op_storeSA (r := [_, _, _, _, _]) rfl Tryd.sizeOf3 rfl rfl rfl hp rfl (by decide) | exact op_storeOS (r := [_, _, _, _, _]) rfl Tryd.sizeOf3 rfl rfl rfl rfl rfl (by decide))) ?_
        refine AOps_nil ?_
        -- region 2 ref.go:515
        refine AWp_regL ?_
        refine st rfl rfl rfl (op_moveO rfl rfl) ?_
        refine st rfl rfl rfl (op_add64 rfl rfl rfl (by omega) (by omega)) ?_
        refine st rfl rfl rfl (op_assignO rfl rfl) ?_
        refine AOps_nil ?_
        have hstep : wantF s lit i t = wantF s lit (i + 1) (wstep s (bat lit i) t) := by rw [wantF.eq_1 s lit i, if_pos ⟨by omega, by omega⟩]
        have hw : wstep s (bat lit i) t = rinc (rfail t (t.a : Int) 1) := by unfold wstep; rw [if_neg (by omega)]
        refine ⟨(i + 1, wstep s (bat lit i) t), σ.length, ⟨by rw [← hq1, hstep], (wstep_to hq2 (by omega)).1.ok, by simp only; omega⟩, by simp only; omega, by simp, ⟨rfl, rfl, rfl, rfl, trivial⟩, closed_set (x := rbox s (rinc (rfail t (t.a : Int) 1))) hcl (by simp [AO.cells, AV.ltL, AV.lt]), ?_, take_set ?_⟩
        · simp [ltE, AV.lt]; omega
        · rw [hw]; rfl
      · (try rw [h3]); (try simp only [decide_eq_true_eq, decide_eq_false_iff_not, Bool.not_eq_true', Bool.not_eq_false', Int.not_lt, Int.not_le, Bool.not_true, Bool.not_false, Int.toNat_natCast, tn1, tn2, tnn, bne_iff_ne, beq_iff_eq, beq_eq_false_iff_ne, ne_eq, Decidable.not_not] at h3)
        refine AWp_skip ?_
        -- region 5 ref.go:519
        refine AWp_regL ?_
        refine st rfl rfl rfl (op_moveO rfl rfl) ?_
        refine st rfl rfl rfl (op_nilCheck rfl rfl rfl) ?_
        refine st rfl rfl rfl (op_fieldAddrO (fo := 1) rfl Tryd.underlying93 rfl rfl Tryd.sizeOf3 (by decide) rfl trivial) ?_
        refine st rfl rfl rfl (op_load1 rfl Tryd.isAgg3 (by first | exact ldv_set hp rfl | exact ldv_setA hp rfl | exact ldv_ownS rfl rfl | exact ldv_pp rfl)) ?_
        refine st rfl rfl rfl (op_add64 rfl rfl rfl (by omega) (by omega)) ?_
        refine st rfl rfl rfl (op_nilCheck rfl rfl rfl) ?_
        refine st rfl rfl rfl (op_fieldAddrO (fo := 1) rfl Tryd.underlying93 rfl rfl Tryd.sizeOf3 (by decide) rfl trivial) ?_
        refine stN rfl rfl ((by first | exact op_storeS (r := [_, _, _, _, _]) rfl Tryd.sizeOf3 rfl rfl rfl hp rfl (by decide) | exact op_storeSA (r := [_, _, _, _, _]) rfl Tryd.sizeOf3 rfl rfl rfl hp rfl (by decide) | exact op_storeOS (r := [_, _, _, _, _]) rfl Tryd.sizeOf3 rfl rfl rfl rfl rfl (by decide))) ?_
        refine AOps_nil ?_
        -- region 2 ref.go:515
        refine AWp_regL ?_
        refine st rfl rfl rfl (op_moveO rfl rfl) ?_
        refine st rfl rfl rfl (op_add64 rfl rfl rfl (by omega) (by omega)) ?_
        refine st rfl rfl rfl (op_assignO rfl rfl) ?_
        refine AOps_nil ?_
        have hstep : wantF s lit i t = wantF s lit (i + 1) (wstep s (bat lit i) t) := by rw [wantF.eq_1 s lit i, if_pos ⟨by omega, by omega⟩]
        have hw : wstep s (bat lit i) t = rinc t := by unfold wstep; rw [if_pos (by omega)]
        refine ⟨(i + 1, wstep s (bat lit i) t), σ.length, ⟨by rw [← hq1, hstep], (wstep_to hq2 (by omega)).1.ok, by simp only; omega⟩, by simp only; omega, by simp, ⟨rfl, rfl, rfl, rfl, trivial⟩, closed_set (x := rbox s (rinc t)) hcl (by simp [AO.cells, AV.ltL, AV.lt]), ?_, take_set ?_⟩
        · simp [ltE, AV.lt]; omega
        · rw [hw]; rfl
    · (try rw [h2]); (try simp only [decide_eq_true_eq, decide_eq_false_iff_not, Bool.not_eq_true', Bool.not_eq_false', Int.not_lt, Int.not_le, Bool.not_true, Bool.not_false, Int.toNat_natCast, tn1, tn2, tnn, bne_iff_ne, beq_iff_eq, beq_eq_false_iff_ne, ne_eq, Decidable.not_not] at h2)
      refine AWp_exit ?_
      (try simp only [blockQ, thenQ])
      have hfin : t = rwant s lit r := by rw [← hq1, wantF, if_neg (by omega)]
      rw [← hfin]
      exact ResQ_N0 (x := rbox s t) hcl (by simp [AO.cells, AV.ltL, AV.lt]) ⟨rfl, rfl⟩
  · rw [h1]; (try simp only [decide_eq_true_eq, decide_eq_false_iff_not, Bool.not_eq_true', Bool.not_eq_false', Int.not_lt, Int.not_le, Bool.not_true, Bool.not_false, Int.toNat_natCast, tn1, tn2, tnn, bne_iff_ne, beq_iff_eq, beq_eq_false_iff_ne, ne_eq, Decidable.not_not] at h1)
    refine stS rfl rfl rfl (.inl rfl) rfl rfl ?_
    refine stS rfl rfl rfl (.inl rfl) rfl rfl ?_
    refine stS rfl rfl rfl (.inl rfl) rfl rfl ?_
    refine stS rfl rfl rfl (.inl rfl) rfl rfl ?_
    refine stS rfl rfl rfl (.inl rfl) rfl rfl ?_
    refine st rfl rfl rfl (op_pickFO rfl rfl rfl) ?_
    refine AOps_nil ?_
    refine AWp_condF rfl ?_
    refine AWp_exit ?_
    (try simp only [blockQ, thenQ])
    have hfin : t = rwant s lit r := by rw [← hq1, wantF, if_neg (by omega)]
    rw [← hfin]
    exact ResQ_N0 (x := rbox s t) hcl (by simp [AO.cells, AV.ltL, AV.lt]) ⟨rfl, rfl⟩

theorem text_r (s : ByteArray) (r : RS) (p : Nat) (σ : List AO) (hσ : σ[p]? = some (rbox s r)) (hs : s.size ≤ 100000) (h : ROK s r) : ACalls Tryd.prog 62 [.ptr p 0] σ (Ret (.str (rtext s r).1) (σ.set p (rbox s (rtext s r).2))) := by
  have hp : p < σ.length := (List.getElem?_eq_some_iff.1 hσ).1
  have hu := rUnq_ok s r.a
  have ha := h.a
  refine ACalls_body Tryd.func62 rfl Tryd.ntmps62 (res1 Tryd.results62) (Nat.le_of_ble_eq_true rfl) (fun hcl hal => ?_)
  refine AWp_heap (set_same hσ) ?_
  refine AWp_seq ?_
  -- region 0 ref.go:524
  refine AWp_regL ?_
  refine st rfl rfl rfl (op_assignO rfl rfl) ?_
  refine AOps_nil ?_
  refine AWp_seq ?_
  refine AWp_seq ?_
  -- region 1 ref.go:525
  refine AWp_regL ?_
  refine st rfl rfl rfl (op_moveO rfl rfl) ?_
  refine st rfl rfl rfl (op_nilCheck rfl rfl rfl) ?_
  refine st rfl rfl rfl (op_fieldAddrO (fo := 3) rfl Tryd.underlying93 rfl rfl Tryd.sizeOf3 (by decide) rfl trivial) ?_
  refine st rfl rfl rfl (op_load1 rfl Tryd.isAgg3 (by first | exact ldv_set hp rfl | exact ldv_setA hp rfl | exact ldv_ownS rfl rfl | exact ldv_pp rfl)) ?_
  refine st rfl rfl rfl (op_neq rfl rfl rfl) ?_
  refine AOps_nil ?_
  refine AWp_cond rfl (fun h1 => ?_) (fun h1 => ?_)
  · (try rw [h1]); (try simp only [decide_eq_true_eq, decide_eq_false_iff_not, Bool.not_eq_true', Bool.not_eq_false', Int.not_lt, Int.not_le, Bool.not_true, Bool.not_false, Int.toNat_natCast, bne_iff_ne, beq_iff_eq, beq_eq_false_iff_ne, ne_eq, Decidable.not_not] at h1)
    refine AWp_seq ?_
    -- region 2 ref.go:526
    refine AWp_regL ?_
    refine st rfl rfl rfl (op_assignO rfl rfl) ?_
    refine AOps_nil ?_
    refine AWp_ret ?_
    (try simp only [blockQ, thenQ])
    rw [show rtext s r = (e0, r) by unfold rtext; rw [if_neg h1]]
    exact ResQ_S0 rfl (x := rbox s r) hcl (by simp [AO.cells, AV.ltL, AV.lt]) trivial ⟨rfl, rfl⟩
  · (try rw [h1]); (try simp only [decide_eq_true_eq, decide_eq_false_iff_not, Bool.not_eq_true', Bool.not_eq_false', Int.not_lt, Int.not_le, Bool.not_true, Bool.not_false, Int.toNat_natCast, bne_iff_ne, beq_iff_eq, beq_eq_false_iff_ne, ne_eq, Decidable.not_not] at h1)
    have ht : rtext s r = ((rUnq s r.a).s, ⟨r.a + (rUnq s r.a).n.toNat, r.deep, (rUnq s r.a).bad, if (rUnq s r.a).bad = 0 then r.spot else (rUnq s r.a).at_⟩) := by unfold rtext; rw [if_pos h1]
    have hc : ((r.a + (rUnq s r.a).n.toNat : Nat) : Int) = (r.a : Int) + (rUnq s r.a).n := by rcases hu with hu | hu <;> omega
    have hsz : (rUnq s r.a).n ≤ 200000 := by rcases hu with hu | hu <;> omega
    have hsz0 : 0 ≤ (rUnq s r.a).n := by rcases hu with hu | hu <;> omega
    refine AWp_skip ?_
    refine AWp_seq ?_
    -- region 3 ref.go:528 DRAWN
    refine AWp_drawL #[0, 1, 3, 7, 0, 16, 48, 112, 255, 511, 1023, 1023, 1023, 1023, 2047, 20479, 57343, 131071] Tryd.mixed (by decide +kernel) (by decide +kernel) ?_
    refine rA rfl rfl rfl rfl (fun _ => op_moveO rfl rfl) ?_
    refine rA rfl rfl rfl rfl (fun _ => op_nilCheck rfl rfl rfl) ?_
    refine rA rfl rfl rfl rfl (fun _ => op_fieldAddrO (fo := 0) rfl Tryd.underlying93 rfl rfl Tryd.sizeOf9 (by decide) rfl trivial) ?_
    refine rP rfl rfl rfl rfl (op_load1 rfl Tryd.isAgg9 (by first | exact ldv_set hp rfl | exact ldv_setA hp rfl | exact ldv_ownS rfl rfl | exact ldv_pp rfl)) (trivial) ?_
    refine rA rfl rfl rfl rfl (fun _ => op_moveO rfl rfl) ?_
    refine rA rfl rfl rfl rfl (fun _ => op_nilCheck rfl rfl rfl) ?_
    refine rA rfl rfl rfl rfl (fun _ => op_fieldAddrO (fo := 1) rfl Tryd.underlying93 rfl rfl Tryd.sizeOf3 (by decide) rfl trivial) ?_
    refine rP rfl rfl rfl rfl (op_load1 rfl Tryd.isAgg3 (by first | exact ldv_set hp rfl | exact ldv_setA hp rfl | exact ldv_ownS rfl rfl | exact ldv_pp rfl)) (trivial) ?_
    refine rP rfl rfl rfl rfl (op_callF rfl rfl rfl Tryd.func22 rfl rfl (unq_c s (r.a : Int) _ (by omega))) (trivial) ?_
    refine rA rfl rfl rfl rfl (fun _ => op_moveO rfl rfl) ?_
    refine rA rfl rfl rfl rfl (fun _ => op_extract rfl rfl rfl) ?_
    refine rA rfl rfl rfl rfl (fun _ => op_extract rfl rfl rfl) ?_
    refine rA rfl rfl rfl rfl (fun _ => op_extract rfl rfl rfl) ?_
    refine rA rfl rfl rfl rfl (fun _ => op_extract rfl rfl rfl) ?_
    refine rA rfl rfl rfl rfl (fun _ => op_assignO rfl rfl) ?_
    refine rA rfl rfl rfl rfl (fun _ => op_assignO rfl rfl) ?_
    refine rA rfl rfl rfl rfl (fun _ => op_assignO rfl rfl) ?_
    refine rA rfl rfl rfl rfl (fun _ => op_assignO rfl rfl) ?_
    refine RP.nil rfl ?_
    refine AWp_seq ?_
    refine AWp_seq ?_
    -- region 4 ref.go:529
    refine AWp_regL ?_
    refine st rfl rfl rfl (op_moveO rfl rfl) ?_
    refine st rfl rfl rfl (op_neq rfl rfl rfl) ?_
    refine AOps_nil ?_
    refine AWp_cond rfl (fun h2 => ?_) (fun h2 => ?_)
    · (try rw [h2]); (try simp only [decide_eq_true_eq, decide_eq_false_iff_not, Bool.not_eq_true', Bool.not_eq_false', Int.not_lt, Int.not_le, Bool.not_true, Bool.not_false, Int.toNat_natCast, bne_iff_ne, beq_iff_eq, beq_eq_false_iff_ne, ne_eq, Decidable.not_not] at h2)
      have hf : rfail r (rUnq s r.a).at_ (rUnq s r.a).bad = ⟨r.a, r.deep, (rUnq s r.a).bad, (rUnq s r.a).at_⟩ := by simp [rfail, h1]
      -- region 5 ref.go:530
      refine AWp_regL ?_
      refine st rfl rfl rfl (op_moveO rfl rfl) ?_
      refine st rfl rfl rfl (op_moveO rfl rfl) ?_
      refine st rfl rfl rfl (op_moveO rfl rfl) ?_
      refine st rfl rfl rfl (op_callF rfl rfl rfl Tryd.func53 rfl rfl (callS (fail_r s r p _ (get_set hp) (rUnq s r.a).at_ (rUnq s r.a).bad))) ?_
      rw [hf]
      have hra : (RS.mk r.a r.deep (rUnq s r.a).bad (rUnq s r.a).at_).a = r.a := rfl
      refine AOps_nil ?_
      refine AWp_seq ?_
      -- region 6 ref.go:532
      refine AWp_regL ?_
      refine st rfl rfl rfl (op_moveO rfl rfl) ?_
      refine st rfl rfl rfl (op_moveO rfl rfl) ?_
      refine st rfl rfl rfl (op_nilCheck rfl rfl rfl) ?_
      refine st rfl rfl rfl (op_fieldAddrO (fo := 1) rfl Tryd.underlying93 rfl rfl Tryd.sizeOf3 (by decide) rfl trivial) ?_
      refine st rfl rfl rfl (op_load1 rfl Tryd.isAgg3 (by first | exact ldv_set hp rfl | exact ldv_setA hp rfl | exact ldv_ownS rfl rfl | exact ldv_pp rfl)) ?_
      refine st rfl rfl rfl (op_moveO rfl rfl) ?_
      refine st rfl rfl rfl (op_add64 rfl rfl rfl (by omega) (by omega)) ?_
      refine st rfl rfl rfl (op_nilCheck rfl rfl rfl) ?_
      refine st rfl rfl rfl (op_fieldAddrO (fo := 1) rfl Tryd.underlying93 rfl rfl Tryd.sizeOf3 (by decide) rfl trivial) ?_
      refine stN rfl rfl ((by first | exact op_storeS (r := [_, _, _, _, _]) rfl Tryd.sizeOf3 rfl rfl rfl hp rfl (by decide) | exact op_storeSA (r := [_, _, _, _, _]) rfl Tryd.sizeOf3 rfl rfl rfl hp rfl (by decide) | exact op_storeOS (r := [_, _, _, _, _]) rfl Tryd.sizeOf3 rfl rfl rfl rfl rfl (by decide))) ?_
      refine AOps_nil ?_
      refine AWp_seq ?_
      -- region 7 ref.go:533
      refine AWp_regL ?_
      refine st rfl rfl rfl (op_moveO rfl rfl) ?_
      refine st rfl rfl rfl (op_assignO rfl rfl) ?_
      refine AOps_nil ?_
      refine AWp_ret ?_
      (try simp only [blockQ, thenQ])
      rw [ht]; simp only [rbox, hc, if_neg h2]
      exact ResQ_S0 rfl (x := .box [.str s, .int .i64 ((r.a : Int) + (rUnq s r.a).n), .int .i64 r.deep, .int .i64 (rUnq s r.a).bad, .int .i64 (rUnq s r.a).at_]) hcl (by simp [AO.cells, AV.ltL, AV.lt]) trivial ⟨rfl, rfl⟩
    · (try rw [h2]); (try simp only [decide_eq_true_eq, decide_eq_false_iff_not, Bool.not_eq_true', Bool.not_eq_false', Int.not_lt, Int.not_le, Bool.not_true, Bool.not_false, Int.toNat_natCast, bne_iff_ne, beq_iff_eq, beq_eq_false_iff_ne, ne_eq, Decidable.not_not] at h2)
      refine AWp_skip ?_
      refine AWp_seq ?_
      -- region 6 ref.go:532
      refine AWp_regL ?_
      refine st rfl rfl rfl (op_moveO rfl rfl) ?_
      refine st rfl rfl rfl (op_moveO rfl rfl) ?_
      refine st rfl rfl rfl (op_nilCheck rfl rfl rfl) ?_
      refine st rfl rfl rfl (op_fieldAddrO (fo := 1) rfl Tryd.underlying93 rfl rfl Tryd.sizeOf3 (by decide) rfl trivial) ?_
      refine st rfl rfl rfl (op_load1 rfl Tryd.isAgg3 (by first | exact ldv_set hp rfl | exact ldv_setA hp rfl | exact ldv_ownS rfl rfl | exact ldv_pp rfl)) ?_
      refine st rfl rfl rfl (op_moveO rfl rfl) ?_
      refine st rfl rfl rfl (op_add64 rfl rfl rfl (by omega) (by omega)) ?_
      refine st rfl rfl rfl (op_nilCheck rfl rfl rfl) ?_
      refine st rfl rfl rfl (op_fieldAddrO (fo := 1) rfl Tryd.underlying93 rfl rfl Tryd.sizeOf3 (by decide) rfl trivial) ?_
      refine stN rfl rfl ((by first | exact op_storeS (r := [_, _, _, _, _]) rfl Tryd.sizeOf3 rfl rfl rfl hp rfl (by decide) | exact op_storeSA (r := [_, _, _, _, _]) rfl Tryd.sizeOf3 rfl rfl rfl hp rfl (by decide) | exact op_storeOS (r := [_, _, _, _, _]) rfl Tryd.sizeOf3 rfl rfl rfl rfl rfl (by decide))) ?_
      refine AOps_nil ?_
      refine AWp_seq ?_
      -- region 7 ref.go:533
      refine AWp_regL ?_
      refine st rfl rfl rfl (op_moveO rfl rfl) ?_
      refine st rfl rfl rfl (op_assignO rfl rfl) ?_
      refine AOps_nil ?_
      refine AWp_ret ?_
      (try simp only [blockQ, thenQ])
      rw [ht]; simp only [rbox, hc, if_pos h2]
      have hb0 : (rUnq s r.a).bad = r.bad := by omega
      rw [hb0]
      exact ResQ_S0 rfl (x := .box [.str s, .int .i64 ((r.a : Int) + (rUnq s r.a).n), .int .i64 r.deep, .int .i64 r.bad, .int .i64 r.spot]) hcl (by simp [AO.cells, AV.ltL, AV.lt]) trivial ⟨rfl, rfl⟩

end Lg
namespace Lg
open Go Go.RowKit
variable [GLay]
variable {P : Program} {N : Nat} {σ l τ : List AO} {e : Env} {Q : QA} {p : Nat} {x : AO} {o : Oper}
theorem get_ownT {n : Nat} (h : τ.length = n) (k : Nat) : (τ ++ l)[n + k]? = l[k]? := by
  subst h
  rw [List.getElem?_append_right (by omega)]; congr 1; omega
theorem set_ownT {n : Nat} (h : τ.length = n) (k : Nat) (y : AO) : (τ ++ l).set (n + k) y = τ ++ l.set k y := by
  subst h
  rw [List.set_append_right _ _ (by omega)]; congr 2; omega
/-- append to an array of the call's own, objects ahead of it. -/
theorem op_appendArrT {n0 : Nat} (hτ : τ.length = n0) (k : Nat) {a b : Operand} {t u E : TypeId} {i : TypeInfo} {z : Value} {d : TypeDesc} {sz m gg len : Nat} {cs cs0 : List AV} (ho : o.op = .call { callee := .builtin .append, args := #[a, b], argTypes := #[t, u] })
    (hd : d = .string ∨ ∃ E', d = .slice E') (ht : P.underlying t = some (.slice E)) (hu : P.underlying u = some d) (hi : P.info? E = some i) (hz : i.zero = some z) (hsz : i.size = sz) (hzs : z.cells.size = sz) (hpos : sz ≠ 0)
    (hx : opv e a = .arr (n0 + k) gg sz 0 len) (hk : l[k]? = some (.arr sz gg cs0)) (hend : len * sz = cs0.length) (hy : srcv (τ ++ l) (opv e b) = some (cs, m)) (hys : szv (opv e b) sz) (h1 : ones cs = true)
    (hby : (len + m) * i.bytes ≤ 140737488355328) (h63 : len + m ≤ 9223372036854775807) (hlen : cs.length = m * sz) :
    AOp P (τ ++ l) e o (.arr (n0 + k) (gg + 1) sz 0 (len + m)) (τ ++ l.set k (.arr sz (gg + 1) (cs0 ++ cs))) := by
  have := op_appendArr (P := P) (σ := τ ++ l) ho hd ht hu hi hz hsz hzs hpos hx (by rw [get_ownT hτ]; exact hk) (by rw [Nat.zero_add]; exact hend) hy hys h1 hby h63 hlen
  rw [Nat.zero_mul, List.drop_zero, set_ownT hτ] at this
  exact this
/-- append to nothing, objects ahead. -/
theorem op_appendNewT {n0 n : Nat} (hτ : τ.length = n0) (hn : l.length = n) {a b : Operand} {t u E : TypeId} {i : TypeInfo} {z : Value} {d : TypeDesc} {sz m : Nat} {cs : List AV} (ho : o.op = .call { callee := .builtin .append, args := #[a, b], argTypes := #[t, u] })
    (hd : d = .string ∨ ∃ E', d = .slice E') (ht : P.underlying t = some (.slice E)) (hu : P.underlying u = some d) (hi : P.info? E = some i) (hz : i.zero = some z) (hsz : i.size = sz) (hzs : z.cells.size = sz) (hpos : sz ≠ 0)
    (hx : opv e a = .nils ∨ opv e a = .sl true sz []) (hy : srcv (τ ++ l) (opv e b) = some (cs, m)) (hys : szv (opv e b) sz) (h1 : ones cs = true) (hby : m * i.bytes ≤ 140737488355328) (h63 : m ≤ 9223372036854775807) (hlen : cs.length = m * sz) :
    AOp P (τ ++ l) e o (.arr (n0 + n) 0 sz 0 m) (τ ++ (l ++ [.arr sz 0 cs])) := by
  have := op_appendNew (P := P) (σ := τ ++ l) ho hd ht hu hi hz hsz hzs hpos hx hy hys h1 hby h63 hlen
  rw [List.length_append, hτ, hn, List.append_assoc] at this
  exact this
theorem op_buildSliceArrT {n0 n : Nat} (hτ : τ.length = n0) (hn : l.length = n) {T : TypeId} {len sz : Nat} {parts : Array (Nat × Operand)} {cs : List AV} (ho : o.op = .buildSlice T len parts) (h : AOp P (τ ++ l) e o (.arr (τ ++ l).length 0 sz 0 len) ((τ ++ l) ++ [.arr sz 0 cs])) :
    AOp P (τ ++ l) e o (.arr (n0 + n) 0 sz 0 len) (τ ++ (l ++ [.arr sz 0 cs])) := by
  rw [List.length_append, hτ, hn, List.append_assoc] at h
  exact h
/-- An empty composite literal. -/
theorem op_buildSlice0 {T E : TypeId} {sz : Nat} (ho : o.op = .buildSlice T 0 #[]) (hu : P.underlying T = some (.slice E)) (hsz : ∀ w, (Go.sizeOf E).run P w = Result.ok sz w) : AOp P σ e o (.sl true sz []) σ := by
  intro s a hs g hv K Q hk _
  subst hs
  obtain ⟨s', e1, e2, g', x', hok⟩ := g.row [] E
  refine wp_value (w' := s'.w) ?_ (hk _ (.slice (some ⟨s.w.heap.size, 0, none⟩) 0 0) s' ⟨rfl, e1⟩ g' x' (.sl0 true sz _))
  rw [e2]
  simp only [execOp, ho, Instr.buildSlice, Sem.run_bind, run_underlying hu, hsz, Result.andThen_ok, Sem.run_ite, Nat.zero_mul, if_true, Sem.run_pure]
  rw [if_neg (by omega)]
  simp [newRow, newObj, Sem.run, Instr.fill]
  congr 2
  exact Array.eq_empty_of_size_eq_zero (by simp)
theorem srcv_arrT {n0 : Nat} (hτ : τ.length = n0) (k : Nat) {g sz len : Nat} {cs : List AV} (hk : l[k]? = some (.arr sz g cs)) (hl : cs.length = len * sz) : srcv (τ ++ l) (.arr (n0 + k) g sz 0 len) = some (cs, len) := by
  have h1 : ∀ (n : Nat) (c : List AV), c.length = n → tk n c = some c := by
    intro n
    induction n with
    | zero => intro c hc; have : c = [] := List.eq_nil_of_length_eq_zero hc; subst this; rfl
    | succ n ih => intro c hc; cases c with
      | nil => simp at hc
      | cons x c => simp only [tk, ih c (by simpa using hc), Option.map_some]
  simp only [srcv, get_ownT hτ, hk, if_true, Nat.zero_mul, List.drop_zero, h1 _ cs hl, Option.map_some]
theorem ones_append (a b : List AV) : ones (a ++ b) = (ones a && ones b) := by
  induction a with
  | nil => rfl
  | cons x a ih => simp only [List.cons_append, ones, ih, Bool.and_assoc]
theorem blockQ_exit {id : Nat} (h : Q .normal e σ) : blockQ id Q (.exit id) e σ := by
  unfold blockQ; simpa using h
theorem callO {f : FuncId} {args : List AV} {v : AV} {y : AO} (k : Nat) (h : ACalls P f args (σ ++ l) (Ret v ((σ ++ l).set (σ.length + k) y))) : ACalls P f args (σ ++ l) (Ret v (σ ++ l.set k y)) := by
  rwa [set_ownT rfl] at h
theorem AWp_boxLeO {c : Code} (k : Nat) {bs bs' : List AV} (hq : l[k]? = some (.box bs)) (hle : AVleL bs bs') (h : AWp P N c e (σ ++ l.set k (.box bs')) Q) : AWp P N c e (σ ++ l) Q :=
  AWp_boxLe (σ.length + k) (by rw [get_ownT rfl]; exact hq) hle (by rw [set_ownT rfl]; exact h)
theorem len_set : (σ.set p x).length = σ.length := List.length_set
theorem take_ownS (k : Nat) : (σ.set p x ++ l).take (σ.length + k) = σ.set p x ++ l.take k := by
  have := take_own (σ := σ.set p x) (l := l) k
  rwa [List.length_set] at this
theorem closed_ownS (k : Nat) (h : closed σ.length σ) (hx : AV.ltL σ.length x.cells) (hl : ownLt (σ.length + k) (l.take k)) : closed (σ.length + k) (σ.set p x ++ l) := by
  have := closed_own (σ := σ.set p x) (l := l) k (by rw [List.length_set]; exact closed_set h hx) (by rw [List.length_set]; exact hl)
  rwa [List.length_set] at this
end Lg
set_option maxRecDepth 20000
set_option maxHeartbeats 4000000
namespace Lg
open Go Go.Proofs Go.RowKit
variable [GLay] 


theorem array_r (s : ByteArray) (n : Nat) (ih : ∀ (t : RS) (p : Nat) (τ : List AO), τ[p]? = some (rbox s t) → ROK s t → s.size + 1 < n + t.a → ACalls Tryd.prog 52 [.ptr p 0] τ (Ret (.agg (vcells (rval n s t).1)) (τ.set p (rbox s (rval n s t).2)))) (r : RS) (p : Nat) (σ : List AO) (hσ : σ[p]? = some (rbox s r)) (hs : s.size ≤ 100000) (h : ROK s r) (hb : r.bad = 0) (ha : r.a < s.size) (hn : s.size + 1 < n + r.a + 1) : ACalls Tryd.prog 61 [.ptr p 0] σ (Ret (.agg (vcells (rarr (rval n s) s r).1)) (σ.set p (rbox s (rarr (rval n s) s r).2))) := by
  have hp : p < σ.length := (List.getElem?_eq_some_iff.1 hσ).1
  have ho := ropen_to h hb ha
  have hd0 := h.d0
  have hd1 := h.d1
  refine ACalls_bodyC Tryd.func61 rfl Tryd.ntmps61 (by rw [Tryd.results61]; exact (.ck Tryd.isAgg28 Tryd.sizeOf28 .nil)) (Nat.le_of_ble_eq_true rfl) (fun hcl hal => ?_)
  refine AWp_heap (set_same hσ) ?_
  refine AWp_seq ?_
  -- region 0 ref.go:547
  refine AWp_regL ?_
  refine st rfl rfl rfl (op_allocS0 (cs := [_, _, _, _, _, _, _, _]) rfl Tryd.zeroValue28 rfl) ?_
  refine AOps_nil ?_
  refine AWp_seq ?_
  -- region 1 ref.go:548
  refine AWp_regL ?_
  refine st rfl rfl rfl (op_buildP (cs := [_, _, _, _, _, _, _, _]) [(0, 1), (1, 1), (2, 3), (5, 1), (6, 1), (7, 1)] rfl Tryd.underlying28 Tryd.zeroValue28 ⟨rfl, Tryd.sizeOf3, ⟨rfl, Tryd.sizeOf4, ⟨rfl, Tryd.sizeOf23, ⟨rfl, Tryd.sizeOf9, ⟨rfl, Tryd.sizeOf25, ⟨rfl, Tryd.sizeOf26, trivial⟩⟩⟩⟩⟩⟩ rfl rfl) ?_
  refine st rfl rfl rfl (op_allocS (cs := [_, _, _, _, _, _, _, _]) 1 rfl rfl Tryd.zeroValue28 rfl) ?_
  refine stN rfl rfl ((by first | exact op_storeS (r := [_, _, _, _, _, _, _, _]) rfl Tryd.sizeOf28 rfl rfl rfl hp rfl (by decide) | exact op_storeSA (r := [_, _, _, _, _, _, _, _]) rfl Tryd.sizeOf28 rfl rfl rfl hp rfl (by decide) | exact op_storeOS (r := [_, _, _, _, _, _, _, _]) rfl Tryd.sizeOf28 rfl rfl rfl rfl rfl (by decide))) ?_
  refine AOps_nil ?_
  refine AWp_seq ?_
  -- region 2 ref.go:549
  refine AWp_boxLeS 1 (bs' := [.int .i64 4, .bool false, .bool false, .str e0, .int .i64 0, .str e0, .nils, .sl false 9 (mcells [])]) rfl ⟨AVle.refl _, AVle.refl _, AVle.refl _, AVle.refl _, AVle.refl _, AVle.refl _, AVle.refl _, nilM, trivial⟩ ?_
  refine AWp_ghostInS 1 6 8 2 rfl rfl rfl ?_
  refine AWp_regL ?_
  refine st rfl rfl rfl (op_moveO rfl rfl) ?_
  refine st rfl rfl rfl (op_callF rfl rfl rfl Tryd.func71 rfl rfl (callSA hp (open_r s r p _ (get_setA hp) hs h))) ?_
  refine AOps_nil ?_
  refine AWp_joinB (ι := List JV × RS × Nat) (fun z => rarrF (rval n s) s (s.size + 2) [] (ropen s r) = (z.1, z.2.1) ∧ ROK s z.2.1 ∧ r.a + 1 ≤ z.2.1.a) (fun z => ⟨[], [(0, .ptr p 0), (2, .ptr (σ.length + 0) 0), (3, .ptr (σ.length + 1) 0)]⟩) (fun z => σ.set p (rbox s z.2.1) ++ [.box [.int .i64 0, .bool false, .bool false, .str e0, .int .i64 0, .str e0, .nils, .nils], .box [.int .i64 4, .bool false, .bool false, .str e0, .int .i64 0, .str e0, .arr (σ.length + 2) z.2.2 8 0 z.1.length, .sl false 9 (mcells [])], .arr 8 z.2.2 (lcells z.1).flatten]) ?_ (fun z hz => ?_)
  · skip
    -- loop 0 LIVE 0:param 2:alloc 3:alloc
    refine AWp_loop (ι := Nat × List JV × RS × Nat) (fun q => rarrF (rval n s) s q.1 q.2.1 q.2.2.1 = rarrF (rval n s) s (s.size + 2) [] (ropen s r) ∧ ROK s q.2.2.1 ∧ lsize q.2.1 ≤ q.2.2.1.a ∧ s.size + 2 ≤ q.1 + q.2.2.1.a ∧ r.a + 1 ≤ q.2.2.1.a) (fun q => ⟨[], [(0, .ptr p 0), (2, .ptr (σ.length + 0) 0), (3, .ptr (σ.length + 1) 0)]⟩) (fun q => σ.set p (rbox s q.2.2.1) ++ [.box [.int .i64 0, .bool false, .bool false, .str e0, .int .i64 0, .str e0, .nils, .nils], .box [.int .i64 4, .bool false, .bool false, .str e0, .int .i64 0, .str e0, .arr (σ.length + 2) q.2.2.2 8 0 q.2.1.length, .sl false 9 (mcells [])], .arr 8 q.2.2.2 (lcells q.2.1).flatten]) (fun q => q.1) ((s.size + 2, [], ropen s r, 0)) (⟨rfl, ho.1.ok, by simp only [lsize]; omega, by simp only; omega, ho.2.1⟩) ?_ rfl (fun q hq => ?_)
    · exact ⟨rfl, rfl, rfl, rfl, trivial⟩
    obtain ⟨k, l, t, g⟩ := q
    obtain ⟨hq1, hq2, hq3, hq4, hq5⟩ := hq
    simp only at hq1 hq2 hq3 hq4 hq5 ⊢
    have hta := hq2.a
    have hll := llen_le l
    have hlc := lcells_length l
    obtain ⟨k, rfl⟩ : ∃ k', k = k' + 1 := ⟨k - 1, by omega⟩
    refine AWp_seq ?_
    refine AWp_seq ?_
    -- region 3 ref.go:550
    refine AWp_regL ?_
    refine st rfl rfl rfl (op_moveO rfl rfl) ?_
    refine st rfl rfl rfl (op_nilCheck rfl rfl rfl) ?_
    refine st rfl rfl rfl (op_fieldAddrO (fo := 3) rfl Tryd.underlying93 rfl rfl Tryd.sizeOf3 (by decide) rfl trivial) ?_
    refine st rfl rfl rfl (op_load1 rfl Tryd.isAgg3 (by first | exact ldv_set hp rfl | exact ldv_setA hp rfl | exact ldv_ownS rfl rfl | exact ldv_pp rfl)) ?_
    refine st rfl rfl rfl (op_eql rfl rfl rfl) ?_
    refine st rfl rfl rfl (op_moveO rfl rfl) ?_
    refine AOps_split 12 rfl (fun h1 => ?_) (fun h1 => ?_)
    · rw [h1]; (try simp only [decide_eq_true_eq, decide_eq_false_iff_not, Bool.not_eq_true', Bool.not_eq_false', Int.not_lt, Int.not_le, Bool.not_true, Bool.not_false, Int.toNat_natCast, tn1, tn2, tnn, bne_iff_ne, beq_iff_eq, beq_eq_false_iff_ne, ne_eq, Decidable.not_not] at h1)
      refine stG rfl rfl rfl rfl rfl rfl (op_moveO rfl rfl) ?_
      refine stG rfl rfl rfl rfl rfl rfl (op_callF rfl rfl rfl Tryd.func59 rfl rfl (peek_r s t p _ (get_setA hp))) ?_
      refine stG rfl rfl rfl rfl rfl rfl (op_neq rfl rfl rfl) ?_
      refine stG rfl rfl rfl rfl rfl rfl (op_moveO rfl rfl) ?_
      refine AOps_split 16 rfl (fun h2 => ?_) (fun h2 => ?_)
      · rw [h2]; (try simp only [decide_eq_true_eq, decide_eq_false_iff_not, Bool.not_eq_true', Bool.not_eq_false', Int.not_lt, Int.not_le, Bool.not_true, Bool.not_false, Int.toNat_natCast, tn1, tn2, tnn, bne_iff_ne, beq_iff_eq, beq_eq_false_iff_ne, ne_eq, Decidable.not_not] at h2)
        refine stS rfl rfl rfl (.inl rfl) rfl rfl ?_
        refine stS rfl rfl rfl (.inl rfl) rfl rfl ?_
        refine stS rfl rfl rfl (.inl rfl) rfl rfl ?_
        refine stS rfl rfl rfl (.inl rfl) rfl rfl ?_
        refine stG rfl rfl rfl rfl rfl rfl (op_pickTO rfl rfl rfl) ?_
        refine st rfl rfl rfl (op_pickTO rfl rfl rfl) ?_
        refine AOps_nil ?_
        refine AWp_condT rfl ?_
        refine AWp_skip ?_
        refine AWp_block ?_
        refine AWp_seq ?_
        -- region 4 ref.go:551 DRAWN
        refine AWp_drawL #[0, 1, 0, 4, 12, 31, 63, 127] Tryd.mixed (by decide +kernel) (by decide +kernel) ?_
        refine rA rfl rfl rfl rfl (fun _ => op_fieldAddrO (fo := 6) rfl Tryd.underlying28 rfl rfl Tryd.sizeOf25 (by decide) rfl trivial) ?_
        refine rP rfl rfl rfl rfl (op_load1 rfl Tryd.isAgg25 (by first | exact ldv_set hp rfl | exact ldv_setA hp rfl | exact ldv_ownS rfl rfl | exact ldv_pp rfl)) (trivial) ?_
        refine rA rfl rfl rfl rfl (fun _ => op_moveO rfl rfl) ?_
        refine rE rfl rfl rfl rfl (op_callF rfl rfl rfl Tryd.func52 rfl rfl (callSA hp (ih t p _ (get_setA hp) hq2 (by omega)))) (⟨.inr (op_load1 rfl Tryd.isAgg25 (ldv_ownS rfl rfl)), trivial⟩) (trivial) ?_
        have hv := rval_ok hs n t hq2
        have hva := hv.fwd.a
        have hvk := hv.fwd.ok
        have hua := hv.fwd.ok.a
        have hvs := hv.size
        clear hv
        generalize hx1 : (rval n s t).1 = v at hvs ⊢
        generalize hx2 : (rval n s t).2 = u at hva hvk hua hvs ⊢
        have hl5 := lsize_snoc l v
        rw [vcells_eq v]
        refine rA rfl rfl rfl rfl (fun _ => op_buildSlice [[_, _, _, _, _, _, _, _]] rfl Tryd.underlying25 Tryd.sizeOf28 Tryd.zeroValue28 rfl (by decide) (by decide) rfl rfl rfl rfl rfl) ?_
        refine rE rfl rfl rfl rfl (op_appendArrT len_set 2 (sz := 8) (m := 1) (len := l.length) (cs := _) rfl (.inr ⟨_, rfl⟩) Tryd.underlying25 Tryd.underlying25 Tryd.type28 rfl rfl rfl (by decide) rfl rfl (lflat_len l).symm rfl rfl rfl (by show (l.length + 1) * 112 ≤ _; omega) (by omega) rfl) (⟨.inl rfl, trivial⟩) (⟨rfl, trivial⟩) ?_
        refine rA rfl rfl rfl rfl (fun _ => op_fieldAddrO (fo := 6) rfl Tryd.underlying28 rfl rfl Tryd.sizeOf25 (by decide) rfl trivial) ?_
        refine rEN rfl rfl rfl (op_storeOS (r := [.int .i64 4, .bool false, .bool false, .str e0, .int .i64 0, .str e0, .arr (σ.length + 2) (g + 1) 8 0 (l.length + 1), .sl false 9 (mcells [])]) rfl Tryd.sizeOf25 rfl rfl rfl rfl rfl (by decide)) (⟨.inl rfl, trivial⟩) (⟨rfl, ⟨rfl, trivial⟩⟩) ?_
        refine RP.nil rfl ?_
        refine AWp_seq ?_
        refine AWp_seq ?_
        -- region 5 ref.go:552
        refine AWp_regL ?_
        refine st rfl rfl rfl (op_moveO rfl rfl) ?_
        refine st rfl rfl rfl (op_callF rfl rfl rfl Tryd.func59 rfl rfl (peek_r s u p _ (get_setA hp))) ?_
        refine st rfl rfl rfl (op_neq rfl rfl rfl) ?_
        refine AOps_nil ?_
        refine AWp_cond rfl (fun h3 => ?_) (fun h3 => ?_)
        · (try rw [h3]); (try simp only [decide_eq_true_eq, decide_eq_false_iff_not, Bool.not_eq_true', Bool.not_eq_false', Int.not_lt, Int.not_le, Bool.not_true, Bool.not_false, Int.toNat_natCast, tn1, tn2, tnn, bne_iff_ne, beq_iff_eq, beq_eq_false_iff_ne, ne_eq, Decidable.not_not] at h3)
          refine AWp_exit ?_
          show ∃ z : List JV × RS × Nat, _ ∧ _ ∧ _
          first | exact ⟨(l, t, g), ⟨by rw [← hq1, rarrF, if_neg (by omega)], hq2, hq5⟩, ⟨rfl, rfl, rfl, rfl, trivial⟩, rfl⟩ | exact ⟨(l ++ [v], u, g + 1), ⟨by rw [← hq1, rarrF, if_pos ⟨by omega, by omega⟩, hx1, hx2, if_neg (by omega)], hvk, by simp only; omega⟩, ⟨rfl, rfl, rfl, rfl, trivial⟩, by rw [lcells_snoc, List.length_append, vcells_eq v]; rfl⟩
        · (try rw [h3]); (try simp only [decide_eq_true_eq, decide_eq_false_iff_not, Bool.not_eq_true', Bool.not_eq_false', Int.not_lt, Int.not_le, Bool.not_true, Bool.not_false, Int.toNat_natCast, tn1, tn2, tnn, bne_iff_ne, beq_iff_eq, beq_eq_false_iff_ne, ne_eq, Decidable.not_not] at h3)
          refine AWp_skip ?_
          -- region 6 ref.go:555
          refine AWp_regL ?_
          refine st rfl rfl rfl (op_moveO rfl rfl) ?_
          refine st rfl rfl rfl (op_nilCheck rfl rfl rfl) ?_
          refine st rfl rfl rfl (op_fieldAddrO (fo := 1) rfl Tryd.underlying93 rfl rfl Tryd.sizeOf3 (by decide) rfl trivial) ?_
          refine st rfl rfl rfl (op_load1 rfl Tryd.isAgg3 (by first | exact ldv_set hp rfl | exact ldv_setA hp rfl | exact ldv_ownS rfl rfl | exact ldv_pp rfl)) ?_
          refine st rfl rfl rfl (op_add64 rfl rfl rfl (by omega) (by omega)) ?_
          refine st rfl rfl rfl (op_nilCheck rfl rfl rfl) ?_
          refine st rfl rfl rfl (op_fieldAddrO (fo := 1) rfl Tryd.underlying93 rfl rfl Tryd.sizeOf3 (by decide) rfl trivial) ?_
          refine stN rfl rfl ((by first | exact op_storeS (r := [_, _, _, _, _]) rfl Tryd.sizeOf3 rfl rfl rfl hp rfl (by decide) | exact op_storeSA (r := [_, _, _, _, _]) rfl Tryd.sizeOf3 rfl rfl rfl hp rfl (by decide) | exact op_storeOS (r := [_, _, _, _, _]) rfl Tryd.sizeOf3 rfl rfl rfl rfl rfl (by decide))) ?_
          refine AOps_nil ?_
          have hstep : rarrF (rval n s) s (k + 1) l t = rarrF (rval n s) s k (l ++ [v]) (rinc u) := by rw [rarrF, if_pos ⟨by omega, by omega⟩, hx1, hx2, if_pos (by omega)]
          refine ⟨(k, l ++ [v], rinc u, g + 1), σ.length + 3, ⟨by rw [← hq1, hstep], (rinc_to hvk (by omega)).ok, by simp only [rinc]; omega, by simp only [rinc]; omega, by simp only [rinc]; omega⟩, by simp only; omega, by simp, ⟨rfl, rfl, rfl, rfl, trivial⟩, closed_ownS (x := rbox s (rinc u)) 3 hcl (by simp [AO.cells, AV.ltL, AV.lt]) ?_, ?_, ?_⟩
          · simp [ownLt, AO.cells, AV.ltL, AV.lt, ofConst1, ltL_append, lflat_lt]
          · simp [ltE, AV.lt]; omega
          · rw [lcells_snoc, List.length_append, vcells_eq v]; exact take_ownS 3
      · rw [h2]; (try simp only [decide_eq_true_eq, decide_eq_false_iff_not, Bool.not_eq_true', Bool.not_eq_false', Int.not_lt, Int.not_le, Bool.not_true, Bool.not_false, Int.toNat_natCast, tn1, tn2, tnn, bne_iff_ne, beq_iff_eq, beq_eq_false_iff_ne, ne_eq, Decidable.not_not] at h2)
        refine stG rfl rfl rfl rfl rfl rfl (op_fieldAddrO (fo := 6) rfl Tryd.underlying28 rfl rfl Tryd.sizeOf25 (by decide) rfl trivial) ?_
        refine stG rfl rfl rfl rfl rfl rfl (op_load1 rfl Tryd.isAgg25 (by first | exact ldv_set hp rfl | exact ldv_setA hp rfl | exact ldv_ownS rfl rfl | exact ldv_pp rfl)) ?_
        refine stG rfl rfl rfl rfl rfl rfl (op_lenS rfl rfl Tryd.underlying25 rfl rfl ⟨8, _, get_ownS 2⟩) ?_
        refine stG rfl rfl rfl rfl rfl rfl (op_gtr rfl rfl rfl) ?_
        refine stG rfl rfl rfl rfl rfl rfl (op_pickFO rfl rfl rfl) ?_
        refine st rfl rfl rfl (op_pickTO rfl rfl rfl) ?_
        refine AOps_nil ?_
        refine AWp_cond rfl (fun h4 => ?_) (fun h4 => ?_)
        · (try rw [h4]); (try simp only [decide_eq_true_eq, decide_eq_false_iff_not, Bool.not_eq_true', Bool.not_eq_false', Int.not_lt, Int.not_le, Bool.not_true, Bool.not_false, Int.toNat_natCast, tn1, tn2, tnn, bne_iff_ne, beq_iff_eq, beq_eq_false_iff_ne, ne_eq, Decidable.not_not] at h4)
          refine AWp_skip ?_
          refine AWp_block ?_
          refine AWp_seq ?_
          -- region 4 ref.go:551 DRAWN
          refine AWp_drawL #[0, 1, 0, 4, 12, 31, 63, 127] Tryd.mixed (by decide +kernel) (by decide +kernel) ?_
          refine rA rfl rfl rfl rfl (fun _ => op_fieldAddrO (fo := 6) rfl Tryd.underlying28 rfl rfl Tryd.sizeOf25 (by decide) rfl trivial) ?_
          refine rP rfl rfl rfl rfl (op_load1 rfl Tryd.isAgg25 (by first | exact ldv_set hp rfl | exact ldv_setA hp rfl | exact ldv_ownS rfl rfl | exact ldv_pp rfl)) (trivial) ?_
          refine rA rfl rfl rfl rfl (fun _ => op_moveO rfl rfl) ?_
          refine rE rfl rfl rfl rfl (op_callF rfl rfl rfl Tryd.func52 rfl rfl (callSA hp (ih t p _ (get_setA hp) hq2 (by omega)))) (⟨.inr (op_load1 rfl Tryd.isAgg25 (ldv_ownS rfl rfl)), trivial⟩) (trivial) ?_
          have hv := rval_ok hs n t hq2
          have hva := hv.fwd.a
          have hvk := hv.fwd.ok
          have hua := hv.fwd.ok.a
          have hvs := hv.size
          clear hv
          generalize hx1 : (rval n s t).1 = v at hvs ⊢
          generalize hx2 : (rval n s t).2 = u at hva hvk hua hvs ⊢
          have hl5 := lsize_snoc l v
          rw [vcells_eq v]
          refine rA rfl rfl rfl rfl (fun _ => op_buildSlice [[_, _, _, _, _, _, _, _]] rfl Tryd.underlying25 Tryd.sizeOf28 Tryd.zeroValue28 rfl (by decide) (by decide) rfl rfl rfl rfl rfl) ?_
          refine rE rfl rfl rfl rfl (op_appendArrT len_set 2 (sz := 8) (m := 1) (len := l.length) (cs := _) rfl (.inr ⟨_, rfl⟩) Tryd.underlying25 Tryd.underlying25 Tryd.type28 rfl rfl rfl (by decide) rfl rfl (lflat_len l).symm rfl rfl rfl (by show (l.length + 1) * 112 ≤ _; omega) (by omega) rfl) (⟨.inl rfl, trivial⟩) (⟨rfl, trivial⟩) ?_
          refine rA rfl rfl rfl rfl (fun _ => op_fieldAddrO (fo := 6) rfl Tryd.underlying28 rfl rfl Tryd.sizeOf25 (by decide) rfl trivial) ?_
          refine rEN rfl rfl rfl (op_storeOS (r := [.int .i64 4, .bool false, .bool false, .str e0, .int .i64 0, .str e0, .arr (σ.length + 2) (g + 1) 8 0 (l.length + 1), .sl false 9 (mcells [])]) rfl Tryd.sizeOf25 rfl rfl rfl rfl rfl (by decide)) (⟨.inl rfl, trivial⟩) (⟨rfl, ⟨rfl, trivial⟩⟩) ?_
          refine RP.nil rfl ?_
          refine AWp_seq ?_
          refine AWp_seq ?_
          -- region 5 ref.go:552
          refine AWp_regL ?_
          refine st rfl rfl rfl (op_moveO rfl rfl) ?_
          refine st rfl rfl rfl (op_callF rfl rfl rfl Tryd.func59 rfl rfl (peek_r s u p _ (get_setA hp))) ?_
          refine st rfl rfl rfl (op_neq rfl rfl rfl) ?_
          refine AOps_nil ?_
          refine AWp_cond rfl (fun h5 => ?_) (fun h5 => ?_)
          · (try rw [h5]); (try simp only [decide_eq_true_eq, decide_eq_false_iff_not, Bool.not_eq_true', Bool.not_eq_false', Int.not_lt, Int.not_le, Bool.not_true, Bool.not_false, Int.toNat_natCast, tn1, tn2, tnn, bne_iff_ne, beq_iff_eq, beq_eq_false_iff_ne, ne_eq, Decidable.not_not] at h5)
            refine AWp_exit ?_
            show ∃ z : List JV × RS × Nat, _ ∧ _ ∧ _
            first | exact ⟨(l, t, g), ⟨by rw [← hq1, rarrF, if_neg (by omega)], hq2, hq5⟩, ⟨rfl, rfl, rfl, rfl, trivial⟩, rfl⟩ | exact ⟨(l ++ [v], u, g + 1), ⟨by rw [← hq1, rarrF, if_pos ⟨by omega, by omega⟩, hx1, hx2, if_neg (by omega)], hvk, by simp only; omega⟩, ⟨rfl, rfl, rfl, rfl, trivial⟩, by rw [lcells_snoc, List.length_append, vcells_eq v]; rfl⟩
          · (try rw [h5]); (try simp only [decide_eq_true_eq, decide_eq_false_iff_not, Bool.not_eq_true', Bool.not_eq_false', Int.not_lt, Int.not_le, Bool.not_true, Bool.not_false, Int.toNat_natCast, tn1, tn2, tnn, bne_iff_ne, beq_iff_eq, beq_eq_false_iff_ne, ne_eq, Decidable.not_not] at h5)
            refine AWp_skip ?_
            -- region 6 ref.go:555
            refine AWp_regL ?_
            refine st rfl rfl rfl (op_moveO rfl rfl) ?_
            refine st rfl rfl rfl (op_nilCheck rfl rfl rfl) ?_
            refine st rfl rfl rfl (op_fieldAddrO (fo := 1) rfl Tryd.underlying93 rfl rfl Tryd.sizeOf3 (by decide) rfl trivial) ?_
            refine st rfl rfl rfl (op_load1 rfl Tryd.isAgg3 (by first | exact ldv_set hp rfl | exact ldv_setA hp rfl | exact ldv_ownS rfl rfl | exact ldv_pp rfl)) ?_
            refine st rfl rfl rfl (op_add64 rfl rfl rfl (by omega) (by omega)) ?_
            refine st rfl rfl rfl (op_nilCheck rfl rfl rfl) ?_
            refine st rfl rfl rfl (op_fieldAddrO (fo := 1) rfl Tryd.underlying93 rfl rfl Tryd.sizeOf3 (by decide) rfl trivial) ?_
            refine stN rfl rfl ((by first | exact op_storeS (r := [_, _, _, _, _]) rfl Tryd.sizeOf3 rfl rfl rfl hp rfl (by decide) | exact op_storeSA (r := [_, _, _, _, _]) rfl Tryd.sizeOf3 rfl rfl rfl hp rfl (by decide) | exact op_storeOS (r := [_, _, _, _, _]) rfl Tryd.sizeOf3 rfl rfl rfl rfl rfl (by decide))) ?_
            refine AOps_nil ?_
            have hstep : rarrF (rval n s) s (k + 1) l t = rarrF (rval n s) s k (l ++ [v]) (rinc u) := by rw [rarrF, if_pos ⟨by omega, by omega⟩, hx1, hx2, if_pos (by omega)]
            refine ⟨(k, l ++ [v], rinc u, g + 1), σ.length + 3, ⟨by rw [← hq1, hstep], (rinc_to hvk (by omega)).ok, by simp only [rinc]; omega, by simp only [rinc]; omega, by simp only [rinc]; omega⟩, by simp only; omega, by simp, ⟨rfl, rfl, rfl, rfl, trivial⟩, closed_ownS (x := rbox s (rinc u)) 3 hcl (by simp [AO.cells, AV.ltL, AV.lt]) ?_, ?_, ?_⟩
            · simp [ownLt, AO.cells, AV.ltL, AV.lt, ofConst1, ltL_append, lflat_lt]
            · simp [ltE, AV.lt]; omega
            · rw [lcells_snoc, List.length_append, vcells_eq v]; exact take_ownS 3
        · (try rw [h4]); (try simp only [decide_eq_true_eq, decide_eq_false_iff_not, Bool.not_eq_true', Bool.not_eq_false', Int.not_lt, Int.not_le, Bool.not_true, Bool.not_false, Int.toNat_natCast, tn1, tn2, tnn, bne_iff_ne, beq_iff_eq, beq_eq_false_iff_ne, ne_eq, Decidable.not_not] at h4)
          refine AWp_exit ?_
          show ∃ z : List JV × RS × Nat, _ ∧ _ ∧ _
          first | exact ⟨(l, t, g), ⟨by rw [← hq1, rarrF, if_neg (by omega)], hq2, hq5⟩, ⟨rfl, rfl, rfl, rfl, trivial⟩, rfl⟩ | exact ⟨(l ++ [v], u, g + 1), ⟨by rw [← hq1, rarrF, if_pos ⟨by omega, by omega⟩, hx1, hx2, if_neg (by omega)], hvk, by simp only; omega⟩, ⟨rfl, rfl, rfl, rfl, trivial⟩, by rw [lcells_snoc, List.length_append, vcells_eq v]; rfl⟩
    · rw [h1]; (try simp only [decide_eq_true_eq, decide_eq_false_iff_not, Bool.not_eq_true', Bool.not_eq_false', Int.not_lt, Int.not_le, Bool.not_true, Bool.not_false, Int.toNat_natCast, tn1, tn2, tnn, bne_iff_ne, beq_iff_eq, beq_eq_false_iff_ne, ne_eq, Decidable.not_not] at h1)
      refine stS rfl rfl rfl (.inl rfl) rfl rfl ?_
      refine stS rfl rfl rfl (.inl rfl) rfl rfl ?_
      refine stS rfl rfl rfl (.inl rfl) rfl rfl ?_
      refine stS rfl rfl rfl (.inl rfl) rfl rfl ?_
      refine stS rfl rfl rfl (.inr rfl) rfl rfl ?_
      refine stS rfl rfl rfl (.inr rfl) rfl rfl ?_
      refine stS rfl rfl rfl (.inr rfl) rfl rfl ?_
      refine stS rfl rfl rfl (.inr rfl) rfl rfl ?_
      refine stS rfl rfl rfl (.inl rfl) rfl rfl ?_
      refine st rfl rfl rfl (op_pickFO rfl rfl rfl) ?_
      refine AOps_nil ?_
      refine AWp_condF rfl ?_
      refine AWp_exit ?_
      show ∃ z : List JV × RS × Nat, _ ∧ _ ∧ _
      first | exact ⟨(l, t, g), ⟨by rw [← hq1, rarrF, if_neg (by omega)], hq2, hq5⟩, ⟨rfl, rfl, rfl, rfl, trivial⟩, rfl⟩ | exact ⟨(l ++ [v], u, g + 1), ⟨by rw [← hq1, rarrF, if_pos ⟨by omega, by omega⟩, hx1, hx2, if_neg (by omega)], hvk, by simp only; omega⟩, ⟨rfl, rfl, rfl, rfl, trivial⟩, by rw [lcells_snoc, List.length_append, vcells_eq v]; rfl⟩
  · skip
    obtain ⟨l, t, g⟩ := z
    obtain ⟨hz1, hz2, hz3⟩ := hz
    simp only at hz1 hz2 hz3 ⊢
    have hres : rarr (rval n s) s r = (.mk 4 false {} e0 l [], rdec (rwant s rb1 t)) := by unfold rarr; rw [hz1]
    refine AWp_seq ?_
    -- region 7 ref.go:557
    refine AWp_regL ?_
    refine st rfl rfl rfl (op_moveO rfl rfl) ?_
    refine st rfl rfl rfl (op_callF rfl rfl rfl Tryd.func63 rfl rfl (callSA hp (want_c rb1 s t p _ (get_setA hp) hs (by decide) hz2))) ?_
    refine AOps_nil ?_
    refine AWp_seq ?_
    -- region 8 ref.go:558
    have hw := rwant_to (s := s) (lit := rb1) hz2
    have hw1 := hw.1.ok.d0
    have hw2 := hw.1.ok.d1
    have hw3 := hw.1.ok.a
    refine AWp_regL ?_
    refine st rfl rfl rfl (op_moveO rfl rfl) ?_
    refine st rfl rfl rfl (op_nilCheck rfl rfl rfl) ?_
    refine st rfl rfl rfl (op_fieldAddrO (fo := 2) rfl Tryd.underlying93 rfl rfl Tryd.sizeOf3 (by decide) rfl trivial) ?_
    refine st rfl rfl rfl (op_load1 rfl Tryd.isAgg3 (by first | exact ldv_set hp rfl | exact ldv_setA hp rfl | exact ldv_ownS rfl rfl | exact ldv_pp rfl)) ?_
    refine st rfl rfl rfl (op_sub64 rfl rfl rfl (by omega) (by omega)) ?_
    refine st rfl rfl rfl (op_nilCheck rfl rfl rfl) ?_
    refine st rfl rfl rfl (op_fieldAddrO (fo := 2) rfl Tryd.underlying93 rfl rfl Tryd.sizeOf3 (by decide) rfl trivial) ?_
    refine stN rfl rfl ((by first | exact op_storeS (r := [_, _, _, _, _]) rfl Tryd.sizeOf3 rfl rfl rfl hp rfl (by decide) | exact op_storeSA (r := [_, _, _, _, _]) rfl Tryd.sizeOf3 rfl rfl rfl hp rfl (by decide) | exact op_storeOS (r := [_, _, _, _, _]) rfl Tryd.sizeOf3 rfl rfl rfl rfl rfl (by decide))) ?_
    refine AOps_nil ?_
    refine AWp_seq ?_
    -- region 9 ref.go:559
    refine AWp_freezeInS 1 6 2 g 8 0 l.length rfl rfl rfl (lcells l) (by rw [Nat.zero_mul, List.drop_zero, ← lflat_len, List.take_length]) (lrow_len l) (lcells_length l) (by decide) (by rw [lflat_len]; omega) ?_
    refine AWp_regL ?_
    refine st rfl rfl rfl (op_loadK (cs := [_, _, _, _, _, _, _, _]) rfl Tryd.isAgg28 Tryd.sizeOf28 (by first | exact ldv_set hp rfl | exact ldv_setA hp rfl | exact ldv_ownS rfl rfl | exact ldv_pp rfl)) ?_
    refine stN rfl rfl ((by first | exact op_storeS (r := [_, _, _, _, _, _, _, _]) rfl Tryd.sizeOf28 rfl rfl rfl hp rfl (by decide) | exact op_storeSA (r := [_, _, _, _, _, _, _, _]) rfl Tryd.sizeOf28 rfl rfl rfl hp rfl (by decide) | exact op_storeOS (r := [_, _, _, _, _, _, _, _]) rfl Tryd.sizeOf28 rfl rfl rfl rfl rfl (by decide))) ?_
    refine AOps_nil ?_
    refine AWp_ret ?_
    (try simp only [blockQ, thenQ])
    rw [hres, vcells_eq]
    exact RQ_retS (rkvs_cons (rkv_ckS rfl rfl rfl) rfl) (x := rbox s (rdec (rwant s rb1 t))) hcl (by simp [AO.cells, AV.ltL, AV.lt]) (by simp [rks, AV.lt, AV.ltL]) ⟨rfl, rfl⟩

end Lg
set_option maxRecDepth 20000
set_option maxHeartbeats 4000000
namespace Lg
open Go Go.Proofs Go.RowKit
variable [GLay] 


theorem find_c (v : JV) (key : ByteArray) (σ : List AO) (hb : v.m.length ≤ 1000000) : ACalls Tryd.prog 12 [.agg (vcells v), .str key] σ (FindR v key σ) := by
  refine ACalls_bodyC Tryd.func12 rfl Tryd.ntmps12 (by rw [Tryd.results12]; exact (.ck Tryd.isAgg28 Tryd.sizeOf28 (.t .nil))) (Nat.le_of_ble_eq_true rfl) (fun hcl hal => ?_)
  rw [vcells_eq v]
  refine AWp_seq ?_
  -- region 0 value.go:79
  refine AWp_regL ?_
  refine st rfl rfl rfl (op_box0 (cs := [_, _, _, _, _, _, _, _]) rfl rfl rfl) ?_
  refine st rfl rfl rfl (op_allocO (cs := [_, _, _, _, _, _, _, _]) 1 rfl rfl Tryd.zeroValue28 rfl) ?_
  refine st rfl rfl rfl (op_assignO rfl rfl) ?_
  refine AOps_nil ?_
  refine AWp_seq ?_
  refine AWp_seq ?_
  -- region 1 value.go:80
  refine AWp_regL ?_
  refine st rfl rfl rfl (op_fieldAddrO (fo := 0) rfl Tryd.underlying28 rfl rfl Tryd.sizeOf3 (by decide) rfl trivial) ?_
  refine st rfl rfl rfl (op_load1 rfl Tryd.isAgg3 (by first | exact ldv_own rfl rfl | exact ldv_pp rfl | exact ldv_old (by assumption) rfl | exact ldv_ptr (by assumption) rfl)) ?_
  refine st rfl rfl rfl (op_neq rfl rfl rfl) ?_
  refine AOps_nil ?_
  refine AWp_cond rfl (fun h1 => ?_) (fun h1 => ?_)
  · (try rw [h1]); (try simp only [decide_eq_true_eq, decide_eq_false_iff_not, Bool.not_eq_true', Bool.not_eq_false', Int.not_lt, Int.not_le, Bool.not_true, Bool.not_false, Int.toNat_natCast, bne_iff_ne, beq_iff_eq, beq_eq_false_iff_ne, ne_eq, Decidable.not_not] at h1)
    refine AWp_seq ?_
    -- region 2 value.go:81
    refine AWp_regL ?_
    refine st rfl rfl rfl (op_buildP (cs := [_, _, _, _, _, _, _, _]) [(0, 1), (1, 1), (2, 3), (5, 1), (6, 1), (7, 1)] rfl Tryd.underlying28 Tryd.zeroValue28 ⟨rfl, Tryd.sizeOf3, ⟨rfl, Tryd.sizeOf4, ⟨rfl, Tryd.sizeOf23, ⟨rfl, Tryd.sizeOf9, ⟨rfl, Tryd.sizeOf25, ⟨rfl, Tryd.sizeOf26, trivial⟩⟩⟩⟩⟩⟩ rfl rfl) ?_
    refine stN rfl rfl ((by first | exact op_storeO (r := [_, _, _, _, _, _, _, _]) rfl Tryd.sizeOf28 rfl rfl rfl rfl rfl (by decide) | exact op_storeP (r := [_, _, _, _, _, _, _, _]) rfl Tryd.sizeOf28 rfl rfl rfl (by assumption) rfl (by decide))) ?_
    refine st rfl rfl rfl (op_assignO rfl rfl) ?_
    refine AOps_nil ?_
    refine AWp_ret ?_
    (try simp only [blockQ, thenQ])
    have hf : jfind v key = none := by simp [jfind, h1]
    refine RQ_ret (rkvs_cons (rkv_ck rfl rfl rfl) (rkvs_cons (rkv_t rfl) rfl)) hcl ?_ ⟨rfl, _, _, rfl, ?_, ?_⟩
    · simp [rks, AV.lt, AV.ltL, ofConst1]
    · rw [hf]; exact vle8 nilL nilM
    · rw [hf]; rfl
  · (try rw [h1]); (try simp only [decide_eq_true_eq, decide_eq_false_iff_not, Bool.not_eq_true', Bool.not_eq_false', Int.not_lt, Int.not_le, Bool.not_true, Bool.not_false, Int.toNat_natCast, bne_iff_ne, beq_iff_eq, beq_eq_false_iff_ne, ne_eq, Decidable.not_not] at h1)
    refine AWp_skip ?_
    refine AWp_seq ?_
    refine AWp_seq ?_
    -- region 3 value.go:83
    refine AWp_regL ?_
    refine st rfl rfl rfl (op_fieldAddrO (fo := 7) rfl Tryd.underlying28 rfl rfl Tryd.sizeOf26 (by decide) rfl trivial) ?_
    refine st rfl rfl rfl (op_load1 rfl Tryd.isAgg26 (by first | exact ldv_own rfl rfl | exact ldv_pp rfl | exact ldv_old (by assumption) rfl | exact ldv_ptr (by assumption) rfl)) ?_
    refine st rfl rfl rfl (op_lenS rfl rfl Tryd.underlying26 rfl rfl trivial) ?_
    refine st rfl rfl rfl (op_moveO rfl rfl) ?_
    refine AOps_nil ?_
    refine AWp_block ?_
    -- loop 0 LIVE 1:param 4:alloc 5:assign 13:load 14:call 15:move
    refine AWp_loop (ι := Nat) (fun i => i ≤ v.m.length ∧ ∀ (j : Nat) q, j < i → v.m[j]? = some q → ¬ q.1 = key) (fun i => ⟨[], [(1, .str key), (2, .ptr (σ.length + 0) 0), (4, .ptr (σ.length + 1) 0), (13, .sl false 9 (mcells v.m)), (14, .int .i64 (v.m.length : Int)), (15, .int .i64 (i : Int))]⟩) (fun i => σ ++ [_, _]) (fun i => v.m.length - i) (0) (⟨Nat.zero_le _, fun j q hj => absurd hj (by omega)⟩) ?_ rfl (fun i hi => ?_)
    · refine ⟨rfl, rfl, rfl, rfl, rfl, ?_, rfl, trivial⟩
      rw [← mcells_length]; rfl
    obtain ⟨hi1, hi2⟩ := hi
    refine AWp_seq ?_
    -- region 4 value.go:83
    refine AWp_regL ?_
    refine st rfl rfl rfl (op_lss rfl rfl rfl) ?_
    refine AOps_nil ?_
    refine AWp_seq ?_
    refine AWp_cond rfl (fun h2 => ?_) (fun h2 => ?_)
    · (try rw [h2]); (try simp only [decide_eq_true_eq, decide_eq_false_iff_not, Bool.not_eq_true', Bool.not_eq_false', Int.not_lt, Int.not_le, Bool.not_true, Bool.not_false, Int.toNat_natCast, bne_iff_ne, beq_iff_eq, beq_eq_false_iff_ne, ne_eq, Decidable.not_not] at h2)
      obtain ⟨q, hq⟩ : ∃ q, v.m[i]? = some q := ⟨_, List.getElem?_eq_getElem (show i < v.m.length by omega)⟩
      refine AWp_skip ?_
      refine AWp_seq ?_
      refine AWp_block ?_
      refine AWp_seq ?_
      -- region 5 value.go:83
      refine AWp_regL ?_
      refine st rfl rfl rfl ((by first | exact op_indexAddr rfl Tryd.underlying26 Tryd.sizeOf30 rfl rfl (by omega) (by first | exact lcells_get (by assumption) | exact mcells_get (by assumption) | exact brows_at (by omega) | assumption) | fail)) ?_
      rw [vcells_eq q.2]
      refine st rfl rfl rfl (op_loadK (cs := [_, _, _, _, _, _, _, _, _]) rfl Tryd.isAgg30 Tryd.sizeOf30 (by first | exact ldv_own rfl rfl | exact ldv_pp rfl | exact ldv_old (by assumption) rfl | exact ldv_ptr (by assumption) rfl)) ?_
      refine st rfl rfl rfl (op_allocO (cs := [_, _, _, _, _, _, _, _, _]) 2 rfl rfl Tryd.zeroValue30 rfl) ?_
      refine stN rfl rfl ((by first | exact op_storeO (r := [_, _, _, _, _, _, _, _, _]) rfl Tryd.sizeOf30 rfl rfl rfl rfl rfl (by decide) | exact op_storeP (r := [_, _, _, _, _, _, _, _, _]) rfl Tryd.sizeOf30 rfl rfl rfl (by assumption) rfl (by decide))) ?_
      refine AOps_nil ?_
      refine AWp_seq ?_
      -- region 6 value.go:84
      refine AWp_regL ?_
      refine st rfl rfl rfl (op_fieldAddrO (fo := 0) rfl Tryd.underlying30 rfl rfl Tryd.sizeOf9 (by decide) rfl trivial) ?_
      refine st rfl rfl rfl (op_load1 rfl Tryd.isAgg9 (by first | exact ldv_own rfl rfl | exact ldv_pp rfl | exact ldv_old (by assumption) rfl | exact ldv_ptr (by assumption) rfl)) ?_
      refine st rfl rfl rfl (op_moveO rfl rfl) ?_
      refine st rfl rfl rfl (op_seql rfl rfl rfl) ?_
      refine AOps_nil ?_
      refine AWp_cond rfl (fun h3 => ?_) (fun h3 => ?_)
      · (try rw [h3]); (try simp only [decide_eq_true_eq, decide_eq_false_iff_not, Bool.not_eq_true', Bool.not_eq_false', Int.not_lt, Int.not_le, Bool.not_true, Bool.not_false, Int.toNat_natCast, bne_iff_ne, beq_iff_eq, beq_eq_false_iff_ne, ne_eq, Decidable.not_not] at h3)
        refine AWp_seq ?_
        -- region 7 value.go:85
        refine AWp_regL ?_
        refine st rfl rfl rfl (op_fieldAddrO (fo := 1) rfl Tryd.underlying30 rfl rfl Tryd.sizeOf28 (by decide) rfl trivial) ?_
        refine st rfl rfl rfl (op_loadK (cs := [_, _, _, _, _, _, _, _]) rfl Tryd.isAgg28 Tryd.sizeOf28 (by first | exact ldv_own rfl rfl | exact ldv_pp rfl | exact ldv_old (by assumption) rfl | exact ldv_ptr (by assumption) rfl)) ?_
        refine stN rfl rfl ((by first | exact op_storeO (r := [_, _, _, _, _, _, _, _]) rfl Tryd.sizeOf28 rfl rfl rfl rfl rfl (by decide) | exact op_storeP (r := [_, _, _, _, _, _, _, _]) rfl Tryd.sizeOf28 rfl rfl rfl (by assumption) rfl (by decide))) ?_
        refine st rfl rfl rfl (op_assignO rfl rfl) ?_
        refine AOps_nil ?_
        refine AWp_ret ?_
        (try simp only [blockQ, thenQ])
        have hf : jfind v key = some q.2 := by rw [jfind, if_pos h1, find_some (fun j y hj hy => by simpa using hi2 j y hj hy) hq (by simpa using h3)]; rfl
        refine RQ_ret (rkvs_cons (rkv_ck rfl rfl rfl) (rkvs_cons (rkv_t rfl) rfl)) hcl ?_ ⟨rfl, _, _, rfl, ?_, ?_⟩
        · simp [rks, AV.lt, AV.ltL, ofConst1]
        · rw [hf]; show AVleL _ (vcells q.2); rw [vcells_eq]; exact AVleL.refl _
        · rw [hf]; rfl
      · (try rw [h3]); (try simp only [decide_eq_true_eq, decide_eq_false_iff_not, Bool.not_eq_true', Bool.not_eq_false', Int.not_lt, Int.not_le, Bool.not_true, Bool.not_false, Int.toNat_natCast, bne_iff_ne, beq_iff_eq, beq_eq_false_iff_ne, ne_eq, Decidable.not_not] at h3)
        refine AWp_skip ?_
        -- region 8 value.go:83
        refine AWp_regL ?_
        refine st rfl rfl rfl (op_add64 rfl rfl rfl (by omega) (by omega)) ?_
        refine st rfl rfl rfl (op_moveO rfl rfl) ?_
        refine AOps_nil ?_
        refine ⟨i + 1, σ.length + 2, ⟨by omega, fun j y hj hy => ?_⟩, by omega, by simp, ⟨rfl, rfl, rfl, rfl, rfl, rfl, rfl, trivial⟩, closed_own 2 hcl ?_, ?_, take_own 2⟩
        · by_cases e : j = i
          · subst e; rw [hq] at hy; cases hy; exact h3
          · exact hi2 j y (by omega) hy
        · simp [ownLt, AO.cells, AV.ltL, AV.lt, ofConst1]
        · simp [ltE, AV.lt]
    · (try rw [h2]); (try simp only [decide_eq_true_eq, decide_eq_false_iff_not, Bool.not_eq_true', Bool.not_eq_false', Int.not_lt, Int.not_le, Bool.not_true, Bool.not_false, Int.toNat_natCast, bne_iff_ne, beq_iff_eq, beq_eq_false_iff_ne, ne_eq, Decidable.not_not] at h2)
      refine AWp_exit ?_
      refine AWp_seq ?_
      -- region 9 value.go:88
      refine AWp_regL ?_
      refine st rfl rfl rfl (op_buildP (cs := [_, _, _, _, _, _, _, _]) [(0, 1), (1, 1), (2, 3), (5, 1), (6, 1), (7, 1)] rfl Tryd.underlying28 Tryd.zeroValue28 ⟨rfl, Tryd.sizeOf3, ⟨rfl, Tryd.sizeOf4, ⟨rfl, Tryd.sizeOf23, ⟨rfl, Tryd.sizeOf9, ⟨rfl, Tryd.sizeOf25, ⟨rfl, Tryd.sizeOf26, trivial⟩⟩⟩⟩⟩⟩ rfl rfl) ?_
      refine stN rfl rfl ((by first | exact op_storeO (r := [_, _, _, _, _, _, _, _]) rfl Tryd.sizeOf28 rfl rfl rfl rfl rfl (by decide) | exact op_storeP (r := [_, _, _, _, _, _, _, _]) rfl Tryd.sizeOf28 rfl rfl rfl (by assumption) rfl (by decide))) ?_
      refine st rfl rfl rfl (op_assignO rfl rfl) ?_
      refine AOps_nil ?_
      refine AWp_ret ?_
      (try simp only [blockQ, thenQ])
      have hf : jfind v key = none := by rw [jfind, if_pos h1, find_none (fun j y hy => by simpa using hi2 j y (by have := (List.getElem?_eq_some_iff.1 hy).1; omega) hy)]; rfl
      refine RQ_ret (rkvs_cons (rkv_ck rfl rfl rfl) (rkvs_cons (rkv_t rfl) rfl)) hcl ?_ ⟨rfl, _, _, rfl, ?_, ?_⟩
      · simp [rks, AV.lt, AV.ltL, ofConst1]
      · rw [hf]; exact vle8 nilL nilM
      · rw [hf]; rfl

theorem rfind_c (v : JV) (key : ByteArray) (σ : List AO) (hb : v.m.length ≤ 1000000) : ACalls Tryd.prog 13 [.agg (vcells v), .str key] σ (FindR v key σ) := by
  refine ACalls_bodyC Tryd.func13 rfl Tryd.ntmps13 (by rw [Tryd.results13]; exact (.ck Tryd.isAgg28 Tryd.sizeOf28 (.t .nil))) (Nat.le_of_ble_eq_true rfl) (fun hcl hal => ?_)
  have hmc := mcells_length v.m
  rw [vcells_eq v]
  refine AWp_seq ?_
  -- region 0 ref.go:472
  refine AWp_regL ?_
  refine st rfl rfl rfl (op_box0 (cs := [_, _, _, _, _, _, _, _]) rfl rfl rfl) ?_
  refine st rfl rfl rfl (op_allocO (cs := [_, _, _, _, _, _, _, _]) 1 rfl rfl Tryd.zeroValue28 rfl) ?_
  refine st rfl rfl rfl (op_assignO rfl rfl) ?_
  refine AOps_nil ?_
  refine AWp_seq ?_
  refine AWp_seq ?_
  -- region 1 ref.go:473
  refine AWp_regL ?_
  refine st rfl rfl rfl (op_assignO rfl rfl) ?_
  refine AOps_nil ?_
  refine AWp_block ?_
  -- loop 0 LIVE 1:param 2:box 4:alloc 5:assign 6:assign
  refine AWp_loop (ι := Nat) (fun i => i ≤ v.m.length ∧ ∀ (j : Nat) q, j < i → v.m[j]? = some q → ¬ (v.kind = 5 ∧ q.1 = key)) (fun i => ⟨[], [(1, .str key), (2, .ptr (σ.length + 0) 0), (4, .ptr (σ.length + 1) 0), (6, .int .i64 (i : Int))]⟩) (fun i => σ ++ [_, _]) (fun i => v.m.length - i) (0) (⟨Nat.zero_le _, fun j q hj => absurd hj (by omega)⟩) ?_ rfl (fun i hi => ?_)
  · exact ⟨rfl, rfl, rfl, rfl, rfl, trivial⟩
  obtain ⟨hi1, hi2⟩ := hi
  refine AWp_seq ?_
  refine AWp_seq ?_
  -- region 2 ref.go:473
  refine AWp_regL ?_
  refine st rfl rfl rfl (op_moveO rfl rfl) ?_
  refine st rfl rfl rfl (op_fieldAddrO (fo := 7) rfl Tryd.underlying28 rfl rfl Tryd.sizeOf26 (by decide) rfl trivial) ?_
  refine st rfl rfl rfl (op_load1 rfl Tryd.isAgg26 (by first | exact ldv_own rfl rfl | exact ldv_pp rfl | exact ldv_old (by assumption) rfl | exact ldv_ptr (by assumption) rfl)) ?_
  refine st rfl rfl rfl (op_lenS rfl rfl Tryd.underlying26 rfl rfl trivial) ?_
  refine st rfl rfl rfl (op_lss rfl rfl rfl) ?_
  refine AOps_nil ?_
  refine AWp_cond rfl (fun h1 => ?_) (fun h1 => ?_)
  · (try rw [h1]); (try simp only [decide_eq_true_eq, decide_eq_false_iff_not, Bool.not_eq_true', Bool.not_eq_false', Int.not_lt, Int.not_le, Bool.not_true, Bool.not_false, Int.toNat_natCast, bne_iff_ne, beq_iff_eq, beq_eq_false_iff_ne, ne_eq, Decidable.not_not] at h1)
    obtain ⟨q, hq⟩ : ∃ q, v.m[i]? = some q := ⟨_, List.getElem?_eq_getElem (show i < v.m.length by omega)⟩
    refine AWp_skip ?_
    refine AWp_seq ?_
    refine AWp_block ?_
    refine AWp_seq ?_
    -- region 4 ref.go:474
    refine AWp_regL ?_
    refine st rfl rfl rfl (op_fieldAddrO (fo := 0) rfl Tryd.underlying28 rfl rfl Tryd.sizeOf3 (by decide) rfl trivial) ?_
    refine st rfl rfl rfl (op_load1 rfl Tryd.isAgg3 (by first | exact ldv_own rfl rfl | exact ldv_pp rfl | exact ldv_old (by assumption) rfl | exact ldv_ptr (by assumption) rfl)) ?_
    refine st rfl rfl rfl (op_eql rfl rfl rfl) ?_
    refine st rfl rfl rfl (op_moveO rfl rfl) ?_
    refine AOps_split 17 rfl (fun h2 => ?_) (fun h2 => ?_)
    · rw [h2]; (try simp only [decide_eq_true_eq, decide_eq_false_iff_not, Bool.not_eq_true', Bool.not_eq_false', Int.not_lt, Int.not_le, Bool.not_true, Bool.not_false, Int.toNat_natCast, bne_iff_ne, beq_iff_eq, beq_eq_false_iff_ne, ne_eq, Decidable.not_not] at h2)
      refine stG rfl rfl rfl rfl rfl rfl (op_fieldAddrO (fo := 7) rfl Tryd.underlying28 rfl rfl Tryd.sizeOf26 (by decide) rfl trivial) ?_
      refine stG rfl rfl rfl rfl rfl rfl (op_load1 rfl Tryd.isAgg26 (by first | exact ldv_own rfl rfl | exact ldv_pp rfl | exact ldv_old (by assumption) rfl | exact ldv_ptr (by assumption) rfl)) ?_
      refine stG rfl rfl rfl rfl rfl rfl (op_moveO rfl rfl) ?_
      refine stG rfl rfl rfl rfl rfl rfl ((by first | exact op_indexAddr rfl Tryd.underlying26 Tryd.sizeOf30 rfl rfl (by omega) (by first | exact lcells_get (by assumption) | exact mcells_get (by assumption) | exact brows_at (by omega) | assumption) | fail)) ?_
      refine stG rfl rfl rfl rfl rfl rfl (op_fieldAddrO (fo := 0) rfl Tryd.underlying30 rfl rfl Tryd.sizeOf9 (by decide) rfl trivial) ?_
      refine stG rfl rfl rfl rfl rfl rfl (op_load1 rfl Tryd.isAgg9 (by first | exact ldv_own rfl rfl | exact ldv_pp rfl | exact ldv_old (by assumption) rfl | exact ldv_ptr (by assumption) rfl)) ?_
      refine stG rfl rfl rfl rfl rfl rfl (op_moveO rfl rfl) ?_
      refine stG rfl rfl rfl rfl rfl rfl (op_seql rfl rfl rfl) ?_
      refine st rfl rfl rfl (op_pickTO rfl rfl rfl) ?_
      refine AOps_nil ?_
      refine AWp_cond rfl (fun h3 => ?_) (fun h3 => ?_)
      · (try rw [h3]); (try simp only [decide_eq_true_eq, decide_eq_false_iff_not, Bool.not_eq_true', Bool.not_eq_false', Int.not_lt, Int.not_le, Bool.not_true, Bool.not_false, Int.toNat_natCast, bne_iff_ne, beq_iff_eq, beq_eq_false_iff_ne, ne_eq, Decidable.not_not] at h3)
        refine AWp_seq ?_
        -- region 5 ref.go:475
        refine AWp_regL ?_
        refine st rfl rfl rfl (op_fieldAddrO (fo := 7) rfl Tryd.underlying28 rfl rfl Tryd.sizeOf26 (by decide) rfl trivial) ?_
        refine st rfl rfl rfl (op_load1 rfl Tryd.isAgg26 (by first | exact ldv_own rfl rfl | exact ldv_pp rfl | exact ldv_old (by assumption) rfl | exact ldv_ptr (by assumption) rfl)) ?_
        refine st rfl rfl rfl (op_moveO rfl rfl) ?_
        refine st rfl rfl rfl ((by first | exact op_indexAddr rfl Tryd.underlying26 Tryd.sizeOf30 rfl rfl (by omega) (by first | exact lcells_get (by assumption) | exact mcells_get (by assumption) | exact brows_at (by omega) | assumption) | fail)) ?_
        refine st rfl rfl rfl (op_fieldAddrO (fo := 1) rfl Tryd.underlying30 rfl rfl Tryd.sizeOf28 (by decide) rfl trivial) ?_
        rw [vcells_eq q.2]
        refine st rfl rfl rfl (op_loadK (cs := [_, _, _, _, _, _, _, _]) rfl Tryd.isAgg28 Tryd.sizeOf28 (by first | exact ldv_own rfl rfl | exact ldv_pp rfl | exact ldv_old (by assumption) rfl | exact ldv_ptr (by assumption) rfl)) ?_
        refine stN rfl rfl ((by first | exact op_storeO (r := [_, _, _, _, _, _, _, _]) rfl Tryd.sizeOf28 rfl rfl rfl rfl rfl (by decide) | exact op_storeP (r := [_, _, _, _, _, _, _, _]) rfl Tryd.sizeOf28 rfl rfl rfl (by assumption) rfl (by decide))) ?_
        refine st rfl rfl rfl (op_assignO rfl rfl) ?_
        refine AOps_nil ?_
        refine AWp_ret ?_
        (try simp only [blockQ, thenQ])
        have hf : jfind v key = some q.2 := by rw [jfind, if_pos h2, find_some (fun j y hj hy => by have := hi2 j y hj hy; simpa [h2] using this) hq (by simpa using h3)]; rfl
        refine RQ_ret (rkvs_cons (rkv_ck rfl rfl rfl) (rkvs_cons (rkv_t rfl) rfl)) hcl ?_ ⟨rfl, _, _, rfl, ?_, ?_⟩
        · simp [rks, AV.lt, AV.ltL, ofConst1]
        · rw [hf]; show AVleL _ (vcells q.2); rw [vcells_eq]; exact AVleL.refl _
        · rw [hf]; rfl
      · (try rw [h3]); (try simp only [decide_eq_true_eq, decide_eq_false_iff_not, Bool.not_eq_true', Bool.not_eq_false', Int.not_lt, Int.not_le, Bool.not_true, Bool.not_false, Int.toNat_natCast, bne_iff_ne, beq_iff_eq, beq_eq_false_iff_ne, ne_eq, Decidable.not_not] at h3)
        refine AWp_skip ?_
        -- region 3 ref.go:473
        refine AWp_regL ?_
        refine st rfl rfl rfl (op_moveO rfl rfl) ?_
        refine st rfl rfl rfl (op_add64 rfl rfl rfl (by omega) (by omega)) ?_
        refine st rfl rfl rfl (op_assignO rfl rfl) ?_
        refine AOps_nil ?_
        refine ⟨i + 1, σ.length + 2, ⟨by omega, fun j y hj hy => ?_⟩, by omega, by simp, ⟨rfl, rfl, rfl, rfl, rfl, trivial⟩, closed_own 2 hcl ?_, ?_, take_own 2⟩
        · by_cases e : j = i
          · subst e; rw [hq] at hy; cases hy; exact fun h => h3 h.2
          · exact hi2 j y (by omega) hy
        · simp [ownLt, AO.cells, AV.ltL, AV.lt, ofConst1]
        · simp [ltE, AV.lt]
    · rw [h2]; (try simp only [decide_eq_true_eq, decide_eq_false_iff_not, Bool.not_eq_true', Bool.not_eq_false', Int.not_lt, Int.not_le, Bool.not_true, Bool.not_false, Int.toNat_natCast, bne_iff_ne, beq_iff_eq, beq_eq_false_iff_ne, ne_eq, Decidable.not_not] at h2)
      refine stS rfl rfl rfl (.inl rfl) rfl rfl ?_
      refine stS rfl rfl rfl (.inl rfl) rfl rfl ?_
      refine stS rfl rfl rfl (.inl rfl) rfl rfl ?_
      refine stS rfl rfl rfl (.inl rfl) rfl rfl ?_
      refine stS rfl rfl rfl (.inl rfl) rfl rfl ?_
      refine stS rfl rfl rfl (.inl rfl) rfl rfl ?_
      refine stS rfl rfl rfl (.inl rfl) rfl rfl ?_
      refine stS rfl rfl rfl (.inl rfl) rfl rfl ?_
      refine st rfl rfl rfl (op_pickFO rfl rfl rfl) ?_
      refine AOps_nil ?_
      refine AWp_condF rfl ?_
      refine AWp_skip ?_
      -- region 3 ref.go:473
      refine AWp_regL ?_
      refine st rfl rfl rfl (op_moveO rfl rfl) ?_
      refine st rfl rfl rfl (op_add64 rfl rfl rfl (by omega) (by omega)) ?_
      refine st rfl rfl rfl (op_assignO rfl rfl) ?_
      refine AOps_nil ?_
      refine ⟨i + 1, σ.length + 2, ⟨by omega, fun j y hj hy => ?_⟩, by omega, by simp, ⟨rfl, rfl, rfl, rfl, rfl, trivial⟩, closed_own 2 hcl ?_, ?_, take_own 2⟩
      · by_cases e : j = i
        · subst e; rw [hq] at hy; cases hy; exact fun h => h2 h.1
        · exact hi2 j y (by omega) hy
      · simp [ownLt, AO.cells, AV.ltL, AV.lt, ofConst1]
      · simp [ltE, AV.lt]
  · (try rw [h1]); (try simp only [decide_eq_true_eq, decide_eq_false_iff_not, Bool.not_eq_true', Bool.not_eq_false', Int.not_lt, Int.not_le, Bool.not_true, Bool.not_false, Int.toNat_natCast, bne_iff_ne, beq_iff_eq, beq_eq_false_iff_ne, ne_eq, Decidable.not_not] at h1)
    refine AWp_exit ?_
    refine AWp_seq ?_
    -- region 6 ref.go:478
    refine AWp_regL ?_
    refine st rfl rfl rfl (op_buildP (cs := [_, _, _, _, _, _, _, _]) [(0, 1), (1, 1), (2, 3), (5, 1), (6, 1), (7, 1)] rfl Tryd.underlying28 Tryd.zeroValue28 ⟨rfl, Tryd.sizeOf3, ⟨rfl, Tryd.sizeOf4, ⟨rfl, Tryd.sizeOf23, ⟨rfl, Tryd.sizeOf9, ⟨rfl, Tryd.sizeOf25, ⟨rfl, Tryd.sizeOf26, trivial⟩⟩⟩⟩⟩⟩ rfl rfl) ?_
    refine stN rfl rfl ((by first | exact op_storeO (r := [_, _, _, _, _, _, _, _]) rfl Tryd.sizeOf28 rfl rfl rfl rfl rfl (by decide) | exact op_storeP (r := [_, _, _, _, _, _, _, _]) rfl Tryd.sizeOf28 rfl rfl rfl (by assumption) rfl (by decide))) ?_
    refine st rfl rfl rfl (op_assignO rfl rfl) ?_
    refine AOps_nil ?_
    refine AWp_ret ?_
    (try simp only [blockQ, thenQ])
    have hf : jfind v key = none := by
      by_cases hk : v.kind = 5
      · rw [jfind, if_pos hk, find_none (fun j y hy => by have := hi2 j y (by have := (List.getElem?_eq_some_iff.1 hy).1; omega) hy; simpa [hk] using this)]; rfl
      · simp [jfind, hk]
    refine RQ_ret (rkvs_cons (rkv_ck rfl rfl rfl) (rkvs_cons (rkv_t rfl) rfl)) hcl ?_ ⟨rfl, _, _, rfl, ?_, ?_⟩
    · simp [rks, AV.lt, AV.ltL, ofConst1]
    · rw [hf]; exact vle8 nilL nilM
    · rw [hf]; rfl

end Lg
namespace Lg
open Go
variable [GLay]
/-! ### Members as cells -/
def mrow (q : ByteArray × JV) : List AV := .str q.1 :: vcells q.2
theorem mcells_map (m : List (ByteArray × JV)) : mcells m = m.map mrow := mcells_eq m
theorem mrow_len (q : ByteArray × JV) : (mrow q).length = 9 := by simp [mrow, vlen]
theorem mrows_len (m : List (ByteArray × JV)) : ∀ r ∈ mcells m, r.length = 9 := fun r hr => by
  rw [mcells_map] at hr
  obtain ⟨v, _, rfl⟩ := List.mem_map.1 hr
  exact mrow_len v
theorem mflat_len (m : List (ByteArray × JV)) : (mcells m).flatten.length = m.length * 9 := by
  induction m with
  | nil => simp [mcells]
  | cons a m ih => obtain ⟨k, v⟩ := a; simp only [mcells, List.flatten_cons, List.length_append, ih, List.length_cons, vlen]; omega
theorem vones (v : JV) : ones (vcells v) = true := by rw [vcells_eq]; rfl
theorem mones (m : List (ByteArray × JV)) : ones (mcells m).flatten = true := by
  induction m with
  | nil => simp [mcells, ones]
  | cons a m ih =>
    obtain ⟨k, v⟩ := a
    simp only [mcells, List.flatten_cons, ones_append, ih, Bool.and_true, ones, vones]; rfl
theorem mflat_lt (n : Nat) (m : List (ByteArray × JV)) : AV.ltL n (mcells m).flatten := by
  induction m with
  | nil => simp [mcells, AV.ltL]
  | cons a m ih => obtain ⟨k, v⟩ := a; simp only [mcells, List.flatten_cons, ltL_append, AV.ltL, AV.lt, true_and]; exact ⟨vcells_lt n v, ih⟩
theorem mslice_lo (m : List (ByteArray × JV)) (j : Nat) (b : Int) (hb : b = m.length) : ((mcells m).drop j).take (b.toNat - j) = mcells (m.drop j) := by
  subst hb
  rw [Int.toNat_natCast, List.take_of_length_le (by simp [mcells_length]), mcells_map, mcells_map, List.map_drop]
theorem mslice_lo' (m : List (ByteArray × JV)) (j : Nat) : ((mcells m).drop j).take ((mcells m).length - j) = mcells (m.drop j) := by
  rw [List.take_of_length_le (by simp), mcells_map, mcells_map, List.map_drop]
theorem mslice_hi (m : List (ByteArray × JV)) (j : Nat) : ((mcells m).drop (0 : Int).toNat).take (j - (0 : Int).toNat) = mcells (m.take j) := by
  show ((mcells m).drop 0).take (j - 0) = _
  rw [List.drop_zero, Nat.sub_zero, mcells_map, mcells_map, List.map_take]
theorem mflat_ins (m : List (ByteArray × JV)) (key : ByteArray) (v : JV) : (mcells (rins m key v)).flatten = (mcells (m.take (rinsK m key))).flatten ++ (mrow (key, v) ++ (mcells (m.drop (rinsK m key))).flatten) := by
  unfold rins
  rw [mcells_map, mcells_map, mcells_map]; simp
theorem rinsK_le (m : List (ByteArray × JV)) (key : ByteArray) : rinsK m key ≤ m.length := by
  unfold rinsK
  exact (List.takeWhile_sublist _).length_le
theorem rins_len (m : List (ByteArray × JV)) (key : ByteArray) (v : JV) : (rins m key v).length = m.length + 1 := by
  have := rinsK_le m key
  unfold rins; simp; omega
theorem rinsK_yes {m : List (ByteArray × JV)} {key : ByteArray} {j : Nat} {q : ByteArray × JV} (hq : m[j]? = some q) (h : blt q.1 key = true) : rinsK (m.drop j) key = 1 + rinsK (m.drop (j + 1)) key := by
  obtain ⟨hj, rfl⟩ := List.getElem?_eq_some_iff.1 hq
  rw [List.drop_eq_getElem_cons hj]
  unfold rinsK
  simp only [List.takeWhile_cons, h, if_true, List.length_cons]; omega
theorem rinsK_no {m : List (ByteArray × JV)} {key : ByteArray} {j : Nat} {q : ByteArray × JV} (hq : m[j]? = some q) (h : blt q.1 key = false) : rinsK (m.drop j) key = 0 := by
  obtain ⟨hj, rfl⟩ := List.getElem?_eq_some_iff.1 hq
  rw [List.drop_eq_getElem_cons hj]
  unfold rinsK
  simp only [List.takeWhile_cons, h, Bool.false_eq_true, if_false, List.length_nil]
theorem rinsK_end {m : List (ByteArray × JV)} {key : ByteArray} {j : Nat} (h : m.length ≤ j) : rinsK (m.drop j) key = 0 := by
  rw [List.drop_eq_nil_of_le h]; rfl
end Lg
set_option maxRecDepth 20000
set_option maxHeartbeats 4000000
namespace Lg
open Go Go.Proofs Go.RowKit
variable [GLay] 


theorem object_r (s : ByteArray) (n : Nat) (ih : ∀ (t : RS) (p : Nat) (τ : List AO), τ[p]? = some (rbox s t) → ROK s t → s.size + 1 < n + t.a → ACalls Tryd.prog 52 [.ptr p 0] τ (Ret (.agg (vcells (rval n s t).1)) (τ.set p (rbox s (rval n s t).2)))) (r : RS) (p : Nat) (σ : List AO) (hσ : σ[p]? = some (rbox s r)) (hs : s.size ≤ 100000) (h : ROK s r) (hb : r.bad = 0) (ha : r.a < s.size) (hn : s.size + 1 < n + r.a + 1) : ACalls Tryd.prog 60 [.ptr p 0] σ (Ret (.agg (vcells (robj (rval n s) s r).1)) (σ.set p (rbox s (robj (rval n s) s r).2))) := by
  have hp : p < σ.length := (List.getElem?_eq_some_iff.1 hσ).1
  have ho := ropen_to h hb ha
  have hd0 := h.d0
  have hd1 := h.d1
  refine ACalls_bodyC Tryd.func60 rfl Tryd.ntmps60 (by rw [Tryd.results60]; exact (.ck Tryd.isAgg28 Tryd.sizeOf28 .nil)) (Nat.le_of_ble_eq_true rfl) (fun hcl hal => ?_)
  refine AWp_heap (set_same hσ) ?_
  refine AWp_seq ?_
  -- region 0 ref.go:563
  refine AWp_regL ?_
  refine st rfl rfl rfl (op_allocS0 (cs := [_, _, _, _, _, _, _, _]) rfl Tryd.zeroValue28 rfl) ?_
  refine AOps_nil ?_
  refine AWp_seq ?_
  -- region 1 ref.go:564
  refine AWp_regL ?_
  refine st rfl rfl rfl (op_buildP (cs := [_, _, _, _, _, _, _, _]) [(0, 1), (1, 1), (2, 3), (5, 1), (6, 1), (7, 1)] rfl Tryd.underlying28 Tryd.zeroValue28 ⟨rfl, Tryd.sizeOf3, ⟨rfl, Tryd.sizeOf4, ⟨rfl, Tryd.sizeOf23, ⟨rfl, Tryd.sizeOf9, ⟨rfl, Tryd.sizeOf25, ⟨rfl, Tryd.sizeOf26, trivial⟩⟩⟩⟩⟩⟩ rfl rfl) ?_
  refine st rfl rfl rfl (op_allocS (cs := [_, _, _, _, _, _, _, _]) 1 rfl rfl Tryd.zeroValue28 rfl) ?_
  refine stN rfl rfl ((by first | exact op_storeS (r := [_, _, _, _, _, _, _, _]) rfl Tryd.sizeOf28 rfl rfl rfl hp rfl (by decide) | exact op_storeSA (r := [_, _, _, _, _, _, _, _]) rfl Tryd.sizeOf28 rfl rfl rfl hp rfl (by decide) | exact op_storeOS (r := [_, _, _, _, _, _, _, _]) rfl Tryd.sizeOf28 rfl rfl rfl rfl rfl (by decide))) ?_
  refine AOps_nil ?_
  refine AWp_seq ?_
  -- region 2 ref.go:565
  refine AWp_boxLeS 1 (bs' := [.int .i64 5, .bool false, .bool false, .str e0, .int .i64 0, .str e0, .sl false 8 (lcells []), .sl false 9 (mcells [])]) rfl ⟨AVle.refl _, AVle.refl _, AVle.refl _, AVle.refl _, AVle.refl _, AVle.refl _, nilL, nilM, trivial⟩ ?_
  refine AWp_regL ?_
  refine st rfl rfl rfl (op_moveO rfl rfl) ?_
  refine st rfl rfl rfl (op_callF rfl rfl rfl Tryd.func71 rfl rfl (callSA hp (open_r s r p _ (get_setA hp) hs h))) ?_
  refine AOps_nil ?_
  refine AWp_joinB (ι := List (ByteArray × JV) × RS × List AO) (fun z => robjF (rval n s) s (s.size + 2) [] (ropen s r) = (z.1, z.2.1) ∧ ROK s z.2.1 ∧ r.a + 1 ≤ z.2.1.a) (fun z => ⟨[], [(0, .ptr p 0), (2, .ptr (σ.length + 0) 0), (3, .ptr (σ.length + 1) 0)]⟩) (fun z => σ.set p (rbox s z.2.1) ++ ([.box [.int .i64 0, .bool false, .bool false, .str e0, .int .i64 0, .str e0, .nils, .nils], .box [.int .i64 5, .bool false, .bool false, .str e0, .int .i64 0, .str e0, .sl false 8 (lcells []), .sl false 9 (mcells z.1)]] ++ z.2.2)) ?_ (fun z hz => ?_)
  · skip
    -- loop 0 LIVE 0:param 2:alloc 3:alloc
    refine AWp_loop (ι := Nat × List (ByteArray × JV) × RS) (fun q => robjF (rval n s) s q.1 q.2.1 q.2.2 = robjF (rval n s) s (s.size + 2) [] (ropen s r) ∧ ROK s q.2.2 ∧ msize q.2.1 ≤ q.2.2.a ∧ s.size + 2 ≤ q.1 + q.2.2.a ∧ r.a + 1 ≤ q.2.2.a) (fun q => ⟨[], [(0, .ptr p 0), (2, .ptr (σ.length + 0) 0), (3, .ptr (σ.length + 1) 0)]⟩) (fun q => σ.set p (rbox s q.2.2) ++ [.box [.int .i64 0, .bool false, .bool false, .str e0, .int .i64 0, .str e0, .nils, .nils], .box [.int .i64 5, .bool false, .bool false, .str e0, .int .i64 0, .str e0, .sl false 8 (lcells []), .sl false 9 (mcells q.2.1)]]) (fun q => q.1) ((s.size + 2, [], ropen s r)) (⟨rfl, ho.1.ok, by simp only [msize]; omega, by simp only; omega, ho.2.1⟩) ?_ rfl (fun q hq => ?_)
    · exact ⟨rfl, rfl, rfl, rfl, trivial⟩
    obtain ⟨k, m, t⟩ := q
    obtain ⟨hq1, hq2, hq3, hq4, hq5⟩ := hq
    simp only at hq1 hq2 hq3 hq4 hq5 ⊢
    have hta := hq2.a
    have hll := mlen_le m
    have hlc := mcells_length m
    obtain ⟨k, rfl⟩ : ∃ k', k = k' + 1 := ⟨k - 1, by omega⟩
    refine AWp_join (ι := Unit) (fun b => t.bad = 0 ∧ (¬ pkv s t.a t.bad = 125 ∨ 0 < m.length)) (fun b => ⟨[], [(0, .ptr p 0), (2, .ptr (σ.length + 0) 0), (3, .ptr (σ.length + 1) 0)]⟩) (fun b => σ.set p (rbox s t) ++ [.box [.int .i64 0, .bool false, .bool false, .str e0, .int .i64 0, .str e0, .nils, .nils], .box [.int .i64 5, .bool false, .bool false, .str e0, .int .i64 0, .str e0, .sl false 8 (lcells []), .sl false 9 (mcells m)]]) ?_ (fun b hj => ?_)
    · skip
      refine AWp_seq ?_
      -- region 3 ref.go:566
      refine AWp_regL ?_
      refine st rfl rfl rfl (op_moveO rfl rfl) ?_
      refine st rfl rfl rfl (op_nilCheck rfl rfl rfl) ?_
      refine st rfl rfl rfl (op_fieldAddrO (fo := 3) rfl Tryd.underlying93 rfl rfl Tryd.sizeOf3 (by decide) rfl trivial) ?_
      refine st rfl rfl rfl (op_load1 rfl Tryd.isAgg3 (by first | exact ldv_set hp rfl | exact ldv_setA hp rfl | exact ldv_ownS rfl rfl | exact ldv_pp rfl)) ?_
      refine st rfl rfl rfl (op_eql rfl rfl rfl) ?_
      refine st rfl rfl rfl (op_moveO rfl rfl) ?_
      refine AOps_split 19 rfl (fun h1 => ?_) (fun h1 => ?_)
      · rw [h1]; (try simp only [decide_eq_true_eq, decide_eq_false_iff_not, Bool.not_eq_true', Bool.not_eq_false', Int.not_lt, Int.not_le, Bool.not_true, Bool.not_false, Int.toNat_natCast, tn1, tn2, tnn, bne_iff_ne, beq_iff_eq, beq_eq_false_iff_ne, ne_eq, Decidable.not_not] at h1)
        refine stG rfl rfl rfl rfl rfl rfl (op_moveO rfl rfl) ?_
        refine stG rfl rfl rfl rfl rfl rfl (op_callF rfl rfl rfl Tryd.func59 rfl rfl (peek_r s t p _ (get_setA hp))) ?_
        refine stG rfl rfl rfl rfl rfl rfl (op_neq rfl rfl rfl) ?_
        refine stG rfl rfl rfl rfl rfl rfl (op_moveO rfl rfl) ?_
        refine AOps_split 23 rfl (fun h2 => ?_) (fun h2 => ?_)
        · rw [h2]; (try simp only [decide_eq_true_eq, decide_eq_false_iff_not, Bool.not_eq_true', Bool.not_eq_false', Int.not_lt, Int.not_le, Bool.not_true, Bool.not_false, Int.toNat_natCast, tn1, tn2, tnn, bne_iff_ne, beq_iff_eq, beq_eq_false_iff_ne, ne_eq, Decidable.not_not] at h2)
          refine stS rfl rfl rfl (.inl rfl) rfl rfl ?_
          refine stS rfl rfl rfl (.inl rfl) rfl rfl ?_
          refine stS rfl rfl rfl (.inl rfl) rfl rfl ?_
          refine stS rfl rfl rfl (.inl rfl) rfl rfl ?_
          refine stG rfl rfl rfl rfl rfl rfl (op_pickTO rfl rfl rfl) ?_
          refine st rfl rfl rfl (op_pickTO rfl rfl rfl) ?_
          refine AOps_nil ?_
          refine AWp_condT rfl ?_
          refine AWp_skip ?_
          exact ⟨(), ⟨by omega, by omega⟩, ⟨rfl, rfl, rfl, rfl, trivial⟩, rfl⟩
        · rw [h2]; (try simp only [decide_eq_true_eq, decide_eq_false_iff_not, Bool.not_eq_true', Bool.not_eq_false', Int.not_lt, Int.not_le, Bool.not_true, Bool.not_false, Int.toNat_natCast, tn1, tn2, tnn, bne_iff_ne, beq_iff_eq, beq_eq_false_iff_ne, ne_eq, Decidable.not_not] at h2)
          refine stG rfl rfl rfl rfl rfl rfl (op_fieldAddrO (fo := 7) rfl Tryd.underlying28 rfl rfl Tryd.sizeOf26 (by decide) rfl trivial) ?_
          refine stG rfl rfl rfl rfl rfl rfl (op_load1 rfl Tryd.isAgg26 (by first | exact ldv_set hp rfl | exact ldv_setA hp rfl | exact ldv_ownS rfl rfl | exact ldv_pp rfl)) ?_
          refine stG rfl rfl rfl rfl rfl rfl (op_lenS rfl rfl Tryd.underlying26 rfl rfl trivial) ?_
          refine stG rfl rfl rfl rfl rfl rfl (op_gtr rfl rfl rfl) ?_
          refine stG rfl rfl rfl rfl rfl rfl (op_pickFO rfl rfl rfl) ?_
          refine st rfl rfl rfl (op_pickTO rfl rfl rfl) ?_
          refine AOps_nil ?_
          refine AWp_cond rfl (fun h3 => ?_) (fun h3 => ?_)
          · (try rw [h3]); (try simp only [decide_eq_true_eq, decide_eq_false_iff_not, Bool.not_eq_true', Bool.not_eq_false', Int.not_lt, Int.not_le, Bool.not_true, Bool.not_false, Int.toNat_natCast, tn1, tn2, tnn, bne_iff_ne, beq_iff_eq, beq_eq_false_iff_ne, ne_eq, Decidable.not_not] at h3)
            refine AWp_skip ?_
            exact ⟨(), ⟨by omega, by omega⟩, ⟨rfl, rfl, rfl, rfl, trivial⟩, rfl⟩
          · (try rw [h3]); (try simp only [decide_eq_true_eq, decide_eq_false_iff_not, Bool.not_eq_true', Bool.not_eq_false', Int.not_lt, Int.not_le, Bool.not_true, Bool.not_false, Int.toNat_natCast, tn1, tn2, tnn, bne_iff_ne, beq_iff_eq, beq_eq_false_iff_ne, ne_eq, Decidable.not_not] at h3)
            refine AWp_exit ?_
            show ∃ z : List (ByteArray × JV) × RS × List AO, _ ∧ _ ∧ _
            first | exact ⟨(m, t, []), ⟨by rw [← hq1, robjF, if_neg (by omega)], hq2, hq5⟩, ⟨rfl, rfl, rfl, rfl, trivial⟩, rfl⟩ | exact ⟨(rins m (rtext s (rblank s t)).1 v, u, _), ⟨by rw [← hq1, robjF, if_pos ⟨htb, htp⟩, hx1, hx2, if_neg (by omega)]; rfl, hvk, by simp only; omega⟩, ⟨rfl, rfl, rfl, rfl, trivial⟩, rfl⟩
      · rw [h1]; (try simp only [decide_eq_true_eq, decide_eq_false_iff_not, Bool.not_eq_true', Bool.not_eq_false', Int.not_lt, Int.not_le, Bool.not_true, Bool.not_false, Int.toNat_natCast, tn1, tn2, tnn, bne_iff_ne, beq_iff_eq, beq_eq_false_iff_ne, ne_eq, Decidable.not_not] at h1)
        refine stS rfl rfl rfl (.inl rfl) rfl rfl ?_
        refine stS rfl rfl rfl (.inl rfl) rfl rfl ?_
        refine stS rfl rfl rfl (.inl rfl) rfl rfl ?_
        refine stS rfl rfl rfl (.inl rfl) rfl rfl ?_
        refine stS rfl rfl rfl (.inr rfl) rfl rfl ?_
        refine stS rfl rfl rfl (.inr rfl) rfl rfl ?_
        refine stS rfl rfl rfl (.inr rfl) rfl rfl ?_
        refine stS rfl rfl rfl (.inr rfl) rfl rfl ?_
        refine stS rfl rfl rfl (.inl rfl) rfl rfl ?_
        refine st rfl rfl rfl (op_pickFO rfl rfl rfl) ?_
        refine AOps_nil ?_
        refine AWp_condF rfl ?_
        refine AWp_exit ?_
        show ∃ z : List (ByteArray × JV) × RS × List AO, _ ∧ _ ∧ _
        first | exact ⟨(m, t, []), ⟨by rw [← hq1, robjF, if_neg (by omega)], hq2, hq5⟩, ⟨rfl, rfl, rfl, rfl, trivial⟩, rfl⟩ | exact ⟨(rins m (rtext s (rblank s t)).1 v, u, _), ⟨by rw [← hq1, robjF, if_pos ⟨htb, htp⟩, hx1, hx2, if_neg (by omega)]; rfl, hvk, by simp only; omega⟩, ⟨rfl, rfl, rfl, rfl, trivial⟩, rfl⟩
    · skip
      obtain ⟨htb, htp⟩ := hj
      refine AWp_block ?_
      refine AWp_seq ?_
      -- region 4 ref.go:567
      have hb1 := rblank_to hq2
      have ht1 := rtext_to hb1.ok
      have hk2 := rk2_ok (m := m) hq2
      have hb2 := rblank_to hk2.1.ok
      have hk3 := rkey_ok (rv := rval n s) (fun r h => rval_ok hs n r h) (m := m) hq2
      have hka := hk3.1.a
      have hku := hk3.1.ok.a
      have hkd := hk3.2.2.1
      refine AWp_regL ?_
      refine st rfl rfl rfl (op_moveO rfl rfl) ?_
      refine st rfl rfl rfl (op_callF rfl rfl rfl Tryd.func58 rfl rfl (callSA hp (blank_r s t p _ (get_setA hp) hs hq2))) ?_
      refine AOps_nil ?_
      refine AWp_seq ?_
      -- region 5 ref.go:568
      refine AWp_regL ?_
      refine st rfl rfl rfl (op_moveO rfl rfl) ?_
      refine st rfl rfl rfl (op_nilCheck rfl rfl rfl) ?_
      refine st rfl rfl rfl (op_fieldAddrO (fo := 1) rfl Tryd.underlying93 rfl rfl Tryd.sizeOf3 (by decide) rfl trivial) ?_
      refine st rfl rfl rfl (op_load1 rfl Tryd.isAgg3 (by first | exact ldv_set hp rfl | exact ldv_setA hp rfl | exact ldv_ownS rfl rfl | exact ldv_pp rfl)) ?_
      refine st rfl rfl rfl (op_assignO rfl rfl) ?_
      refine AOps_nil ?_
      refine AWp_seq ?_
      -- region 6 ref.go:569
      refine AWp_regL ?_
      refine st rfl rfl rfl (op_moveO rfl rfl) ?_
      refine st rfl rfl rfl (op_callF rfl rfl rfl Tryd.func62 rfl rfl (callSA hp (text_r s (rblank s t) p _ (get_setA hp) hs hb1.ok))) ?_
      refine st rfl rfl rfl (op_assignO rfl rfl) ?_
      refine AOps_nil ?_
      refine AWp_seq ?_
      -- region 7 ref.go:570
      refine AWp_regL ?_
      refine st rfl rfl rfl (op_loadK (cs := [_, _, _, _, _, _, _, _]) rfl Tryd.isAgg28 Tryd.sizeOf28 (by first | exact ldv_set hp rfl | exact ldv_setA hp rfl | exact ldv_ownS rfl rfl | exact ldv_pp rfl)) ?_
      refine st rfl rfl rfl (op_moveO rfl rfl) ?_
      refine st rfl rfl rfl (op_callF rfl rfl rfl Tryd.func13 rfl rfl ((by have hfd := FindR.ret (rfind_c (mkO m) (rtext s (rblank s t)).1 (σ.set p (rbox s (rtext s (rblank s t)).2) ++ [.box [.int .i64 0, .bool false, .bool false, .str e0, .int .i64 0, .str e0, .nils, .nils], .box [.int .i64 5, .bool false, .bool false, .str e0, .int .i64 0, .str e0, .sl false 8 (lcells []), .sl false 9 (mcells m)]]) (by show m.length ≤ _; omega)); rw [vcells_eq (mkO m)] at hfd; exact hfd))) ?_
      rw [vcells_eq ((jfind (mkO m) (rtext s (rblank s t)).1).getD vz)]
      refine st rfl rfl rfl (op_moveO rfl rfl) ?_
      refine st rfl rfl rfl (op_extract rfl rfl rfl) ?_
      refine st rfl rfl rfl (op_extract rfl rfl rfl) ?_
      refine st rfl rfl rfl (op_allocS (cs := [_, _, _, _, _, _, _, _]) 2 rfl rfl Tryd.zeroValue28 rfl) ?_
      refine stN rfl rfl ((by first | exact op_storeS (r := [_, _, _, _, _, _, _, _]) rfl Tryd.sizeOf28 rfl rfl rfl hp rfl (by decide) | exact op_storeSA (r := [_, _, _, _, _, _, _, _]) rfl Tryd.sizeOf28 rfl rfl rfl hp rfl (by decide) | exact op_storeOS (r := [_, _, _, _, _, _, _, _]) rfl Tryd.sizeOf28 rfl rfl rfl rfl rfl (by decide))) ?_
      refine st rfl rfl rfl (op_assignO rfl rfl) ?_
      refine AOps_nil ?_
      refine AWp_join (ι := Unit) (fun b => True) (fun b => ⟨[], [(0, .ptr p 0), (2, .ptr (σ.length + 0) 0), (3, .ptr (σ.length + 1) 0), (5, .str (rtext s (rblank s t)).1)]⟩) (fun b => σ.set p (rbox s (rk2 s m t)) ++ [.box [.int .i64 0, .bool false, .bool false, .str e0, .int .i64 0, .str e0, .nils, .nils], .box [.int .i64 5, .bool false, .bool false, .str e0, .int .i64 0, .str e0, .sl false 8 (lcells []), .sl false 9 (mcells m)], .box [.int .i64 ((jfind (mkO m) (rtext s (rblank s t)).1).getD vz).kind, .bool ((jfind (mkO m) (rtext s (rblank s t)).1).getD vz).b, .bool ((jfind (mkO m) (rtext s (rblank s t)).1).getD vz).n.neg, .str ((jfind (mkO m) (rtext s (rblank s t)).1).getD vz).n.digits, .int .i64 ((jfind (mkO m) (rtext s (rblank s t)).1).getD vz).n.exp, .str ((jfind (mkO m) (rtext s (rblank s t)).1).getD vz).s, .sl false 8 (lcells ((jfind (mkO m) (rtext s (rblank s t)).1).getD vz).l), .sl false 9 (mcells ((jfind (mkO m) (rtext s (rblank s t)).1).getD vz).m)]]) ?_ (fun b hj => ?_)
      · skip
        refine AWp_seq ?_
        -- region 8 ref.go:571
        refine AWp_regL ?_
        refine st rfl rfl rfl (op_moveO rfl rfl) ?_
        refine AOps_nil ?_
        refine AWp_cond rfl (fun h4 => ?_) (fun h4 => ?_)
        · (try rw [h4]); (try simp only [decide_eq_true_eq, decide_eq_false_iff_not, Bool.not_eq_true', Bool.not_eq_false', Int.not_lt, Int.not_le, Bool.not_true, Bool.not_false, Int.toNat_natCast, tn1, tn2, tnn, bne_iff_ne, beq_iff_eq, beq_eq_false_iff_ne, ne_eq, Decidable.not_not] at h4)
          -- region 9 ref.go:572
          refine AWp_regL ?_
          refine st rfl rfl rfl (op_moveO rfl rfl) ?_
          refine st rfl rfl rfl (op_moveO rfl rfl) ?_
          refine st rfl rfl rfl (op_callF rfl rfl rfl Tryd.func53 rfl rfl (callSA hp (fail_r s (rtext s (rblank s t)).2 p _ (get_setA hp) ((rblank s t).a : Int) 4))) ?_
          refine AOps_nil ?_
          refine ⟨(), trivial, ⟨rfl, rfl, rfl, rfl, rfl, trivial⟩, ?_⟩
          unfold rk2; first | (rw [if_pos (by assumption)]; rfl) | (rw [if_neg (by simp only [Bool.not_eq_true]; assumption)]; rfl) | rfl
        · (try rw [h4]); (try simp only [decide_eq_true_eq, decide_eq_false_iff_not, Bool.not_eq_true', Bool.not_eq_false', Int.not_lt, Int.not_le, Bool.not_true, Bool.not_false, Int.toNat_natCast, tn1, tn2, tnn, bne_iff_ne, beq_iff_eq, beq_eq_false_iff_ne, ne_eq, Decidable.not_not] at h4)
          refine AWp_skip ?_
          refine ⟨(), trivial, ⟨rfl, rfl, rfl, rfl, rfl, trivial⟩, ?_⟩
          unfold rk2; first | (rw [if_pos (by assumption)]; rfl) | (rw [if_neg (by simp only [Bool.not_eq_true]; assumption)]; rfl) | rfl
      · skip
        refine AWp_seq ?_
        -- region 10 ref.go:574
        refine AWp_regL ?_
        refine st rfl rfl rfl (op_moveO rfl rfl) ?_
        refine st rfl rfl rfl (op_callF rfl rfl rfl Tryd.func58 rfl rfl (callSA hp (blank_r s (rk2 s m t) p _ (get_setA hp) hs hk2.1.ok))) ?_
        refine AOps_nil ?_
        refine AWp_seq ?_
        -- region 11 ref.go:575
        refine AWp_regL ?_
        refine st rfl rfl rfl (op_moveO rfl rfl) ?_
        refine st rfl rfl rfl (op_callF rfl rfl rfl Tryd.func63 rfl rfl (callSA hp (want_c rb3 s (rblank s (rk2 s m t)) p _ (get_setA hp) hs (by decide) hb2.ok))) ?_
        refine AOps_nil ?_
        refine AWp_seq ?_
        -- region 12 ref.go:576
        refine AWp_regL ?_
        refine st rfl rfl rfl (op_moveO rfl rfl) ?_
        refine st rfl rfl rfl (op_callF rfl rfl rfl Tryd.func52 rfl rfl (callSA hp (ih (rkey s m t).2 p _ (get_setA hp) hk3.1.ok (by omega)))) ?_
        have hv := rval_ok hs n (rkey s m t).2 hk3.1.ok
        have hva := hv.fwd.a
        have hvk := hv.fwd.ok
        have hua := hv.fwd.ok.a
        have hvs := hv.size
        clear hv
        generalize hx1 : (rval n s (rkey s m t).2).1 = v at hvs ⊢
        generalize hx2 : (rval n s (rkey s m t).2).2 = u at hva hvk hua hvs ⊢
        have hl5 := msize_ins m (rkey s m t).1 v
        rw [vcells_eq v]
        refine st rfl rfl rfl (op_allocS (cs := [_, _, _, _, _, _, _, _]) 3 rfl rfl Tryd.zeroValue28 rfl) ?_
        refine stN rfl rfl ((by first | exact op_storeS (r := [_, _, _, _, _, _, _, _]) rfl Tryd.sizeOf28 rfl rfl rfl hp rfl (by decide) | exact op_storeSA (r := [_, _, _, _, _, _, _, _]) rfl Tryd.sizeOf28 rfl rfl rfl hp rfl (by decide) | exact op_storeOS (r := [_, _, _, _, _, _, _, _]) rfl Tryd.sizeOf28 rfl rfl rfl rfl rfl (by decide))) ?_
        refine AOps_nil ?_
        refine AWp_seq ?_
        -- region 13 ref.go:577
        refine AWp_regL ?_
        refine st rfl rfl rfl (op_assignO rfl rfl) ?_
        refine AOps_nil ?_
        refine AWp_joinB (ι := Nat) (fun j => rinsK m (rtext s (rblank s t)).1 = j ∧ j ≤ m.length) (fun j => ⟨[], [(0, .ptr p 0), (2, .ptr (σ.length + 0) 0), (3, .ptr (σ.length + 1) 0), (5, .str (rtext s (rblank s t)).1), (8, .ptr (σ.length + 3) 0), (9, .int .i64 (j : Int))]⟩) (fun j => σ.set p (rbox s u) ++ [.box [.int .i64 0, .bool false, .bool false, .str e0, .int .i64 0, .str e0, .nils, .nils], .box [.int .i64 5, .bool false, .bool false, .str e0, .int .i64 0, .str e0, .sl false 8 (lcells []), .sl false 9 (mcells m)], .box [.int .i64 ((jfind (mkO m) (rtext s (rblank s t)).1).getD vz).kind, .bool ((jfind (mkO m) (rtext s (rblank s t)).1).getD vz).b, .bool ((jfind (mkO m) (rtext s (rblank s t)).1).getD vz).n.neg, .str ((jfind (mkO m) (rtext s (rblank s t)).1).getD vz).n.digits, .int .i64 ((jfind (mkO m) (rtext s (rblank s t)).1).getD vz).n.exp, .str ((jfind (mkO m) (rtext s (rblank s t)).1).getD vz).s, .sl false 8 (lcells ((jfind (mkO m) (rtext s (rblank s t)).1).getD vz).l), .sl false 9 (mcells ((jfind (mkO m) (rtext s (rblank s t)).1).getD vz).m)], .box [.int .i64 v.kind, .bool v.b, .bool v.n.neg, .str v.n.digits, .int .i64 v.n.exp, .str v.s, .sl false 8 (lcells v.l), .sl false 9 (mcells v.m)]]) ?_ (fun j hz => ?_)
        · skip
          -- loop 1 LIVE 0:param 2:alloc 3:alloc 5:assign 8:alloc 9:assign
          refine AWp_loop (ι := Nat) (fun j => j ≤ m.length ∧ rinsK m (rtext s (rblank s t)).1 = j + rinsK (m.drop j) (rtext s (rblank s t)).1) (fun j => ⟨[], [(0, .ptr p 0), (2, .ptr (σ.length + 0) 0), (3, .ptr (σ.length + 1) 0), (5, .str (rtext s (rblank s t)).1), (8, .ptr (σ.length + 3) 0), (9, .int .i64 (j : Int))]⟩) (fun j => σ.set p (rbox s u) ++ [.box [.int .i64 0, .bool false, .bool false, .str e0, .int .i64 0, .str e0, .nils, .nils], .box [.int .i64 5, .bool false, .bool false, .str e0, .int .i64 0, .str e0, .sl false 8 (lcells []), .sl false 9 (mcells m)], .box [.int .i64 ((jfind (mkO m) (rtext s (rblank s t)).1).getD vz).kind, .bool ((jfind (mkO m) (rtext s (rblank s t)).1).getD vz).b, .bool ((jfind (mkO m) (rtext s (rblank s t)).1).getD vz).n.neg, .str ((jfind (mkO m) (rtext s (rblank s t)).1).getD vz).n.digits, .int .i64 ((jfind (mkO m) (rtext s (rblank s t)).1).getD vz).n.exp, .str ((jfind (mkO m) (rtext s (rblank s t)).1).getD vz).s, .sl false 8 (lcells ((jfind (mkO m) (rtext s (rblank s t)).1).getD vz).l), .sl false 9 (mcells ((jfind (mkO m) (rtext s (rblank s t)).1).getD vz).m)], .box [.int .i64 v.kind, .bool v.b, .bool v.n.neg, .str v.n.digits, .int .i64 v.n.exp, .str v.s, .sl false 8 (lcells v.l), .sl false 9 (mcells v.m)]]) (fun j => m.length - j) (0) (⟨Nat.zero_le _, by simp⟩) ?_ rfl (fun j hj => ?_)
          · exact ⟨rfl, rfl, rfl, rfl, rfl, rfl, rfl, trivial⟩
          obtain ⟨hj1, hj2⟩ := hj
          refine AWp_seq ?_
          refine AWp_seq ?_
          -- region 14 ref.go:578
          refine AWp_regL ?_
          refine st rfl rfl rfl (op_moveO rfl rfl) ?_
          refine st rfl rfl rfl (op_fieldAddrO (fo := 7) rfl Tryd.underlying28 rfl rfl Tryd.sizeOf26 (by decide) rfl trivial) ?_
          refine st rfl rfl rfl (op_load1 rfl Tryd.isAgg26 (by first | exact ldv_set hp rfl | exact ldv_setA hp rfl | exact ldv_ownS rfl rfl | exact ldv_pp rfl)) ?_
          refine st rfl rfl rfl (op_lenS rfl rfl Tryd.underlying26 rfl rfl trivial) ?_
          refine st rfl rfl rfl (op_lss rfl rfl rfl) ?_
          refine st rfl rfl rfl (op_moveO rfl rfl) ?_
          refine AOps_split 59 rfl (fun h5 => ?_) (fun h5 => ?_)
          · rw [h5]; (try simp only [decide_eq_true_eq, decide_eq_false_iff_not, Bool.not_eq_true', Bool.not_eq_false', Int.not_lt, Int.not_le, Bool.not_true, Bool.not_false, Int.toNat_natCast, tn1, tn2, tnn, bne_iff_ne, beq_iff_eq, beq_eq_false_iff_ne, ne_eq, Decidable.not_not] at h5)
            obtain ⟨q, hq⟩ : ∃ q, m[j]? = some q := ⟨_, List.getElem?_eq_getElem (show j < m.length by omega)⟩
            refine stG rfl rfl rfl rfl rfl rfl (op_fieldAddrO (fo := 7) rfl Tryd.underlying28 rfl rfl Tryd.sizeOf26 (by decide) rfl trivial) ?_
            refine stG rfl rfl rfl rfl rfl rfl (op_load1 rfl Tryd.isAgg26 (by first | exact ldv_set hp rfl | exact ldv_setA hp rfl | exact ldv_ownS rfl rfl | exact ldv_pp rfl)) ?_
            refine stG rfl rfl rfl rfl rfl rfl (op_moveO rfl rfl) ?_
            refine stG rfl rfl rfl rfl rfl rfl ((by first | exact op_indexAddr rfl Tryd.underlying26 Tryd.sizeOf30 rfl rfl (by omega) (by first | exact lcells_get (by assumption) | exact mcells_get (by assumption) | exact brows_at (by omega) | assumption) | fail)) ?_
            refine stG rfl rfl rfl rfl rfl rfl (op_fieldAddrO (fo := 0) rfl Tryd.underlying30 rfl rfl Tryd.sizeOf9 (by decide) rfl trivial) ?_
            refine stG rfl rfl rfl rfl rfl rfl (op_load1 rfl Tryd.isAgg9 (by first | exact ldv_set hp rfl | exact ldv_setA hp rfl | exact ldv_ownS rfl rfl | exact ldv_pp rfl)) ?_
            refine stG rfl rfl rfl rfl rfl rfl (op_moveO rfl rfl) ?_
            refine stG rfl rfl rfl rfl rfl rfl (op_slss rfl rfl rfl) ?_
            refine st rfl rfl rfl (op_pickTO rfl rfl rfl) ?_
            refine AOps_nil ?_
            refine AWp_cond rfl (fun h6 => ?_) (fun h6 => ?_)
            · (try rw [h6]); (try simp only [decide_eq_true_eq, decide_eq_false_iff_not, Bool.not_eq_true', Bool.not_eq_false', Int.not_lt, Int.not_le, Bool.not_true, Bool.not_false, Int.toNat_natCast, tn1, tn2, tnn, bne_iff_ne, beq_iff_eq, beq_eq_false_iff_ne, ne_eq, Decidable.not_not] at h6)
              refine AWp_skip ?_
              refine AWp_block ?_
              -- region 15 ref.go:579
              refine AWp_regL ?_
              refine st rfl rfl rfl (op_moveO rfl rfl) ?_
              refine st rfl rfl rfl (op_add64 rfl rfl rfl (by omega) (by omega)) ?_
              refine st rfl rfl rfl (op_assignO rfl rfl) ?_
              refine AOps_nil ?_
              refine ⟨j + 1, σ.length + 4, ⟨by omega, by rw [hj2, rinsK_yes hq h6]; omega⟩, by omega, by simp, ⟨rfl, rfl, rfl, rfl, rfl, rfl, rfl, trivial⟩, closed_ownS (x := rbox s u) 4 hcl (by simp [AO.cells, AV.ltL, AV.lt]) ?_, ?_, take_ownS 4⟩
              · simp [ownLt, AO.cells, AV.ltL, AV.lt]
              · simp [ltE, AV.lt]; omega
            · (try rw [h6]); (try simp only [decide_eq_true_eq, decide_eq_false_iff_not, Bool.not_eq_true', Bool.not_eq_false', Int.not_lt, Int.not_le, Bool.not_true, Bool.not_false, Int.toNat_natCast, tn1, tn2, tnn, bne_iff_ne, beq_iff_eq, beq_eq_false_iff_ne, ne_eq, Decidable.not_not] at h6)
              refine AWp_exit ?_
              show ∃ z : Nat, _ ∧ _ ∧ _
              first | exact ⟨j, ⟨by rw [hj2, rinsK_no hq (by assumption)]; rfl, hj1⟩, ⟨rfl, rfl, rfl, rfl, rfl, rfl, rfl, trivial⟩, rfl⟩ | exact ⟨j, ⟨by rw [hj2, rinsK_end (by omega)]; rfl, hj1⟩, ⟨rfl, rfl, rfl, rfl, rfl, rfl, rfl, trivial⟩, rfl⟩
          · rw [h5]; (try simp only [decide_eq_true_eq, decide_eq_false_iff_not, Bool.not_eq_true', Bool.not_eq_false', Int.not_lt, Int.not_le, Bool.not_true, Bool.not_false, Int.toNat_natCast, tn1, tn2, tnn, bne_iff_ne, beq_iff_eq, beq_eq_false_iff_ne, ne_eq, Decidable.not_not] at h5)
            refine stS rfl rfl rfl (.inl rfl) rfl rfl ?_
            refine stS rfl rfl rfl (.inl rfl) rfl rfl ?_
            refine stS rfl rfl rfl (.inl rfl) rfl rfl ?_
            refine stS rfl rfl rfl (.inl rfl) rfl rfl ?_
            refine stS rfl rfl rfl (.inl rfl) rfl rfl ?_
            refine stS rfl rfl rfl (.inl rfl) rfl rfl ?_
            refine stS rfl rfl rfl (.inl rfl) rfl rfl ?_
            refine stS rfl rfl rfl (.inl rfl) rfl rfl ?_
            refine st rfl rfl rfl (op_pickFO rfl rfl rfl) ?_
            refine AOps_nil ?_
            refine AWp_condF rfl ?_
            refine AWp_exit ?_
            show ∃ z : Nat, _ ∧ _ ∧ _
            first | exact ⟨j, ⟨by rw [hj2, rinsK_no hq (by assumption)]; rfl, hj1⟩, ⟨rfl, rfl, rfl, rfl, rfl, rfl, rfl, trivial⟩, rfl⟩ | exact ⟨j, ⟨by rw [hj2, rinsK_end (by omega)]; rfl, hj1⟩, ⟨rfl, rfl, rfl, rfl, rfl, rfl, rfl, trivial⟩, rfl⟩
        · skip
          obtain ⟨hkk, hj1⟩ := hz
          have htl : (m.take j).length = j := by rw [List.length_take]; omega
          have hdl : (m.drop j).length = m.length - j := List.length_drop ..
          have hrow : mrow ((rtext s (rblank s t)).1, v) = [.str (rtext s (rblank s t)).1, .int .i64 v.kind, .bool v.b, .bool v.n.neg, .str v.n.digits, .int .i64 v.n.exp, .str v.s, .sl false 8 (lcells v.l), .sl false 9 (mcells v.m)] := by rw [mrow, vcells_eq]
          refine AWp_seq ?_
          -- region 16 ref.go:581 DRAWN
          refine AWp_drawL #[0, 0, 3, 7, 0, 16, 0, 112, 255, 511] Tryd.mixed (by decide +kernel) (by decide +kernel) ?_
          refine rA rfl rfl rfl rfl (fun _ => op_moveO rfl rfl) ?_
          refine rP rfl rfl rfl rfl (op_loadK (cs := [_, _, _, _, _, _, _, _]) rfl Tryd.isAgg28 Tryd.sizeOf28 (by first | exact ldv_set hp rfl | exact ldv_setA hp rfl | exact ldv_ownS rfl rfl | exact ldv_pp rfl)) (trivial) ?_
          refine rA rfl rfl rfl rfl (fun _ => op_buildP (cs := [_, _, _, _, _, _, _, _, _]) [(0, 1), (1, 8)] rfl Tryd.underlying30 Tryd.zeroValue30 ⟨rfl, Tryd.sizeOf9, ⟨rfl, Tryd.sizeOf28, trivial⟩⟩ rfl rfl) ?_
          refine rE rfl rfl rfl rfl (op_buildSliceArrT len_set (n := 4) (cs := [.str (rtext s (rblank s t)).1, .int .i64 v.kind, .bool v.b, .bool v.n.neg, .str v.n.digits, .int .i64 v.n.exp, .str v.s, .sl false 8 (lcells v.l), .sl false 9 (mcells v.m)]) rfl rfl (op_buildSliceArr rfl Tryd.underlying26 Tryd.sizeOf30 Tryd.zeroValue30 rfl (by decide) (by decide) rfl rfl rfl)) (⟨.inl rfl, trivial⟩) (trivial) ?_
          refine rA rfl rfl rfl rfl (fun _ => op_fieldAddrO (fo := 7) rfl Tryd.underlying28 rfl rfl Tryd.sizeOf26 (by decide) rfl trivial) ?_
          refine rP rfl rfl rfl rfl (op_load1 rfl Tryd.isAgg26 (by first | exact ldv_set hp rfl | exact ldv_setA hp rfl | exact ldv_ownS rfl rfl | exact ldv_pp rfl)) (⟨.inr (op_load1 rfl Tryd.isAgg26 (ldv_ownS rfl rfl)), trivial⟩) ?_
          refine rA rfl rfl rfl rfl (fun _ => op_moveO rfl rfl) ?_
          refine rA rfl rfl rfl rfl (fun _ => (by first | exact op_sliceSl _ _ rfl Tryd.underlying26 Tryd.sizeOf30 rfl (by first | exact ⟨_, rfl⟩ | rfl) (by first | exact ⟨_, rfl⟩ | rfl) (by omega) (by omega) (by omega) | exact op_sliceArr _ _ rfl Tryd.underlying26 Tryd.sizeOf30 rfl GET (by first | exact ⟨_, rfl⟩ | rfl) (by first | exact ⟨_, rfl⟩ | rfl) (by omega) (by omega) (by omega))) ?_
          simp only [Int.toNat_natCast, mslice_lo']
          refine rE rfl rfl rfl rfl (op_appendArrT len_set 4 (sz := 9) (m := (m.drop j).length) (len := 1) (cs := (mcells (m.drop j)).flatten) rfl (.inr ⟨_, rfl⟩) Tryd.underlying26 Tryd.underlying26 Tryd.type30 rfl rfl rfl (by decide) rfl rfl rfl (by rw [← mcells_length (m.drop j)]; rfl) rfl (mones _) (by show (1 + (m.drop j).length) * 128 ≤ _; omega) (by omega) (mflat_len _)) (⟨.inl rfl, ⟨.inl rfl, trivial⟩⟩) (⟨rfl, trivial⟩) ?_
          refine rA rfl rfl rfl rfl (fun _ => op_assignO rfl rfl) ?_
          refine RP.nil rfl ?_
          refine AWp_seq ?_
          -- region 17 ref.go:582
          refine AWp_regL ?_
          refine st rfl rfl rfl (op_buildSlice0 rfl Tryd.underlying26 Tryd.sizeOf30) ?_
          refine st rfl rfl rfl (op_fieldAddrO (fo := 7) rfl Tryd.underlying28 rfl rfl Tryd.sizeOf26 (by decide) rfl trivial) ?_
          refine st rfl rfl rfl (op_load1 rfl Tryd.isAgg26 (by first | exact ldv_set hp rfl | exact ldv_setA hp rfl | exact ldv_ownS rfl rfl | exact ldv_pp rfl)) ?_
          refine st rfl rfl rfl (op_moveO rfl rfl) ?_
          refine st rfl rfl rfl ((by first | exact op_sliceSl _ _ rfl Tryd.underlying26 Tryd.sizeOf30 rfl (by first | exact ⟨_, rfl⟩ | rfl) (by first | exact ⟨_, rfl⟩ | rfl) (by omega) (by omega) (by omega) | exact op_sliceArr _ _ rfl Tryd.underlying26 Tryd.sizeOf30 rfl GET (by first | exact ⟨_, rfl⟩ | rfl) (by first | exact ⟨_, rfl⟩ | rfl) (by omega) (by omega) (by omega))) ?_
          simp only [Int.toNat_natCast]
          rw [mslice_hi]
          refine st rfl rfl rfl (op_appendNewT len_set (n := 5) rfl (sz := 9) (m := (m.take j).length) (cs := (mcells (m.take j)).flatten) rfl (.inr ⟨_, rfl⟩) Tryd.underlying26 Tryd.underlying26 Tryd.type30 rfl rfl rfl (by decide) (.inr rfl) (by rw [← mcells_length (m.take j)]; rfl) rfl (mones _) (by show (m.take j).length * 128 ≤ _; omega) (by omega) (mflat_len _)) ?_
          refine st rfl rfl rfl (op_moveO rfl rfl) ?_
          refine st rfl rfl rfl (op_appendArrT len_set 5 (sz := 9) (m := 1 + (m.drop j).length) (len := (m.take j).length) (cs := [.str (rtext s (rblank s t)).1, .int .i64 v.kind, .bool v.b, .bool v.n.neg, .str v.n.digits, .int .i64 v.n.exp, .str v.s, .sl false 8 (lcells v.l), .sl false 9 (mcells v.m)] ++ (mcells (m.drop j)).flatten) rfl (.inr ⟨_, rfl⟩) Tryd.underlying26 Tryd.underlying26 Tryd.type30 rfl rfl rfl (by decide) rfl rfl (mflat_len _).symm (srcv_arrT len_set 4 rfl (by rw [List.length_append, mflat_len]; simp only [List.length_cons, List.length_nil]; omega)) rfl (by rw [ones_append, mones]; rfl) (by show ((m.take j).length + (1 + (m.drop j).length)) * 128 ≤ _; omega) (by omega) (by rw [List.length_append, mflat_len]; simp only [List.length_cons, List.length_nil]; omega)) ?_
          refine st rfl rfl rfl (op_fieldAddrO (fo := 7) rfl Tryd.underlying28 rfl rfl Tryd.sizeOf26 (by decide) rfl trivial) ?_
          refine stN rfl rfl (op_storeOS (r := [.int .i64 5, .bool false, .bool false, .str e0, .int .i64 0, .str e0, .sl false 8 (lcells []), .arr (σ.length + 5) 1 9 0 ((m.take j).length + (1 + (m.drop j).length))]) rfl Tryd.sizeOf26 rfl rfl rfl rfl rfl (by decide)) ?_
          refine AOps_nil ?_
          refine AWp_seq ?_
          refine AWp_seq ?_
          -- region 18 ref.go:583
          refine AWp_freezeInS 1 7 5 1 9 0 ((m.take j).length + (1 + (m.drop j).length)) rfl rfl rfl (mcells (rins m (rtext s (rblank s t)).1 v)) (by rw [Nat.zero_mul, List.drop_zero, List.take_of_length_le (by simp only [List.length_append, mflat_len, List.length_cons, List.length_nil]; omega), mflat_ins, hkk, hrow]) (mrows_len _) (by rw [mcells_length, rins_len]; omega) (by decide) (by simp only [List.length_append, mflat_len, List.length_cons, List.length_nil]; omega) ?_
          refine AWp_regL ?_
          refine st rfl rfl rfl (op_moveO rfl rfl) ?_
          refine st rfl rfl rfl (op_callF rfl rfl rfl Tryd.func59 rfl rfl (peek_r s u p _ (get_setA hp))) ?_
          refine st rfl rfl rfl (op_neq rfl rfl rfl) ?_
          refine AOps_nil ?_
          refine AWp_cond rfl (fun h7 => ?_) (fun h7 => ?_)
          · (try rw [h7]); (try simp only [decide_eq_true_eq, decide_eq_false_iff_not, Bool.not_eq_true', Bool.not_eq_false', Int.not_lt, Int.not_le, Bool.not_true, Bool.not_false, Int.toNat_natCast, tn1, tn2, tnn, bne_iff_ne, beq_iff_eq, beq_eq_false_iff_ne, ne_eq, Decidable.not_not] at h7)
            refine AWp_exit ?_
            show ∃ z : List (ByteArray × JV) × RS × List AO, _ ∧ _ ∧ _
            first | exact ⟨(m, t, []), ⟨by rw [← hq1, robjF, if_neg (by omega)], hq2, hq5⟩, ⟨rfl, rfl, rfl, rfl, trivial⟩, rfl⟩ | exact ⟨(rins m (rtext s (rblank s t)).1 v, u, _), ⟨by rw [← hq1, robjF, if_pos ⟨htb, htp⟩, hx1, hx2, if_neg (by omega)]; rfl, hvk, by simp only; omega⟩, ⟨rfl, rfl, rfl, rfl, trivial⟩, rfl⟩
          · (try rw [h7]); (try simp only [decide_eq_true_eq, decide_eq_false_iff_not, Bool.not_eq_true', Bool.not_eq_false', Int.not_lt, Int.not_le, Bool.not_true, Bool.not_false, Int.toNat_natCast, tn1, tn2, tnn, bne_iff_ne, beq_iff_eq, beq_eq_false_iff_ne, ne_eq, Decidable.not_not] at h7)
            refine AWp_skip ?_
            -- region 19 ref.go:586
            refine AWp_regL ?_
            refine st rfl rfl rfl (op_moveO rfl rfl) ?_
            refine st rfl rfl rfl (op_nilCheck rfl rfl rfl) ?_
            refine st rfl rfl rfl (op_fieldAddrO (fo := 1) rfl Tryd.underlying93 rfl rfl Tryd.sizeOf3 (by decide) rfl trivial) ?_
            refine st rfl rfl rfl (op_load1 rfl Tryd.isAgg3 (by first | exact ldv_set hp rfl | exact ldv_setA hp rfl | exact ldv_ownS rfl rfl | exact ldv_pp rfl)) ?_
            refine st rfl rfl rfl (op_add64 rfl rfl rfl (by omega) (by omega)) ?_
            refine st rfl rfl rfl (op_nilCheck rfl rfl rfl) ?_
            refine st rfl rfl rfl (op_fieldAddrO (fo := 1) rfl Tryd.underlying93 rfl rfl Tryd.sizeOf3 (by decide) rfl trivial) ?_
            refine stN rfl rfl ((by first | exact op_storeS (r := [_, _, _, _, _]) rfl Tryd.sizeOf3 rfl rfl rfl hp rfl (by decide) | exact op_storeSA (r := [_, _, _, _, _]) rfl Tryd.sizeOf3 rfl rfl rfl hp rfl (by decide) | exact op_storeOS (r := [_, _, _, _, _]) rfl Tryd.sizeOf3 rfl rfl rfl rfl rfl (by decide))) ?_
            refine AOps_nil ?_
            have hstep : robjF (rval n s) s (k + 1) m t = robjF (rval n s) s k (rins m (rtext s (rblank s t)).1 v) (rinc u) := by rw [robjF, if_pos ⟨htb, htp⟩, hx1, hx2, if_pos (by omega)]; rfl
            refine ⟨(k, rins m (rtext s (rblank s t)).1 v, rinc u), σ.length + 2, ⟨by rw [← hq1, hstep], (rinc_to hvk (by omega)).ok, ?_, by simp only [rinc]; omega, by simp only [rinc]; omega⟩, by simp only; omega, by simp, ⟨rfl, rfl, rfl, rfl, trivial⟩, closed_ownS (x := rbox s (rinc u)) 2 hcl (by simp [AO.cells, AV.ltL, AV.lt]) ?_, ?_, take_ownS 2⟩
            · show msize (rins m (rkey s m t).1 v) ≤ _; rw [hl5]; simp only [rinc]; omega
            · simp [ownLt, AO.cells, AV.ltL, AV.lt, ofConst1]
            · simp [ltE, AV.lt]; omega
  · skip
    obtain ⟨m, t, w⟩ := z
    obtain ⟨hz1, hz2, hz3⟩ := hz
    simp only at hz1 hz2 hz3 ⊢
    have hres : robj (rval n s) s r = (mkO m, rdec (rwant s rb2 t)) := by unfold robj; rw [hz1]
    refine AWp_seq ?_
    -- region 20 ref.go:588
    refine AWp_regL ?_
    refine st rfl rfl rfl (op_moveO rfl rfl) ?_
    refine st rfl rfl rfl (op_callF rfl rfl rfl Tryd.func63 rfl rfl (callSA hp (want_c rb2 s t p _ (get_setA hp) hs (by decide) hz2))) ?_
    refine AOps_nil ?_
    refine AWp_seq ?_
    -- region 21 ref.go:589
    have hw := rwant_to (s := s) (lit := rb2) hz2
    have hw1 := hw.1.ok.d0
    have hw2 := hw.1.ok.d1
    have hw3 := hw.1.ok.a
    refine AWp_regL ?_
    refine st rfl rfl rfl (op_moveO rfl rfl) ?_
    refine st rfl rfl rfl (op_nilCheck rfl rfl rfl) ?_
    refine st rfl rfl rfl (op_fieldAddrO (fo := 2) rfl Tryd.underlying93 rfl rfl Tryd.sizeOf3 (by decide) rfl trivial) ?_
    refine st rfl rfl rfl (op_load1 rfl Tryd.isAgg3 (by first | exact ldv_set hp rfl | exact ldv_setA hp rfl | exact ldv_ownS rfl rfl | exact ldv_pp rfl)) ?_
    refine st rfl rfl rfl (op_sub64 rfl rfl rfl (by omega) (by omega)) ?_
    refine st rfl rfl rfl (op_nilCheck rfl rfl rfl) ?_
    refine st rfl rfl rfl (op_fieldAddrO (fo := 2) rfl Tryd.underlying93 rfl rfl Tryd.sizeOf3 (by decide) rfl trivial) ?_
    refine stN rfl rfl ((by first | exact op_storeS (r := [_, _, _, _, _]) rfl Tryd.sizeOf3 rfl rfl rfl hp rfl (by decide) | exact op_storeSA (r := [_, _, _, _, _]) rfl Tryd.sizeOf3 rfl rfl rfl hp rfl (by decide) | exact op_storeOS (r := [_, _, _, _, _]) rfl Tryd.sizeOf3 rfl rfl rfl rfl rfl (by decide))) ?_
    refine AOps_nil ?_
    refine AWp_seq ?_
    -- region 22 ref.go:590
    refine AWp_regL ?_
    refine st rfl rfl rfl (op_loadK (cs := [_, _, _, _, _, _, _, _]) rfl Tryd.isAgg28 Tryd.sizeOf28 (by first | exact ldv_set hp rfl | exact ldv_setA hp rfl | exact ldv_ownS rfl rfl | exact ldv_pp rfl)) ?_
    refine stN rfl rfl ((by first | exact op_storeS (r := [_, _, _, _, _, _, _, _]) rfl Tryd.sizeOf28 rfl rfl rfl hp rfl (by decide) | exact op_storeSA (r := [_, _, _, _, _, _, _, _]) rfl Tryd.sizeOf28 rfl rfl rfl hp rfl (by decide) | exact op_storeOS (r := [_, _, _, _, _, _, _, _]) rfl Tryd.sizeOf28 rfl rfl rfl rfl rfl (by decide))) ?_
    refine AOps_nil ?_
    refine AWp_ret ?_
    (try simp only [blockQ, thenQ])
    rw [hres, vcells_eq]
    exact RQ_retS (rkvs_cons (rkv_ckS rfl rfl rfl) rfl) (x := rbox s (rdec (rwant s rb2 t))) hcl (by simp [AO.cells, AV.ltL, AV.lt]) (by simp [rks, AV.lt, AV.ltL]) ⟨rfl, rfl⟩

end Lg
