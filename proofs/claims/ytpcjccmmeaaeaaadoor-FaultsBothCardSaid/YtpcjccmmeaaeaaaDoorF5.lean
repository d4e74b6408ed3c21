/- A part of the proof of Any faults, rising; any two lists of them, one; any, under any name: as the document has it.: F9 VFt. -/
import Derived.Test.YtpcjccmmeaaeaaaDoorF4
import Derived.Test.YtpcjccmmeaaeaaaDoorF3
import Derived.SizedLaws
set_option linter.unusedVariables false
set_option linter.unusedSimpArgs false
set_option linter.unusedSectionVars false
set_option maxRecDepth 20000
set_option maxHeartbeats 4000000
namespace Lg
open Go Go.Proofs Go.RowKit
variable [GLay] [ML]
theorem rpathF_c (nm : ByteArray) (σ : List AO) (h : nm.size ≤ 100) : ACalls Tryd.prog 7 [.sl true 1 [[.str nm]]] σ (Ret (.str (pth nm)) σ) := by
  have hz : nm.data.toList.length = nm.size := Array.length_toList ..
  have h1 := rpath_c true [nm.data.toList] σ (by show 1 ≤ _; omega) (by intro x hx; rw [List.mem_singleton.1 hx]; omega)
  rw [show srow [nm.data.toList] = [[.str nm]] by simp [srow, ← ba_eta]] at h1
  exact h1
theorem rsort_le (l : List FT) : (rsort l).length ≤ l.length := by have := rsort_len l l.length; rwa [List.take_length] at this
theorem faultsTells_c (f : Bool) (a : List FT) (g : Bool) (b : List FT) (nm : ByteArray) (σ : List AO) (hla : a.length ≤ 140737488355328) (hlb : b.length ≤ 140737488355328) (hs : ∀ x ∈ a, x.1.size ≤ 140737488355328) : ACalls Tryd.prog 3 [.sl f 3 (frows a), .sl g 3 (frows b), .str nm] σ (Ret (.bool true) σ) := by
 refine ACalls_body Tryd.func3 rfl Tryd.ntmps3 (res1 Tryd.results3) (Nat.le_of_ble_eq_true rfl) (fun hcl hal => ?_)
 have hra := frows_len a
 have hrb := frows_len b
 have hx1 := rsort_le a
 have hy1 := rsort_le b
 have hxy := rsort_le (a ++ b)
 rw [List.length_append] at hxy
 refine zw1 ?_
 refine zsr ?_
 refine zt rfl (zc rfl (up13_c _)) ?_
 refine zv1 ?_
 refine AWp_seq ?_
 refine zu4 ?_
 refine zsp 17 rfl (fun h1 => ?_) fun h1 => ?_
 ·rw [h1]; replace h1 := zcl h1
  refine zv9 ?_
  refine AWp_condT rfl ?_
  refine zw2 ?_
  refine zrt ?_
  exact ResQ_10 rfl hcl trivial (Ret_of rfl)
 ·rw [h1]; replace h1 := zcl h1
  refine zg5 ?_
  refine zsp 22 rfl (fun h2 => ?_) fun h2 => ?_
  ·rw [h2]; replace h2 := zcl h2
   refine zv4 ?_
   refine AWp_condT rfl ?_
   refine zw2 ?_
   refine zrt ?_
   exact ResQ_10 rfl hcl trivial (Ret_of rfl)
  ·rw [h2]; replace h2 := zcl h2
   refine zv4 ?_
   refine AWp_cond rfl (fun h3 => ?_) (fun h3 => ?_)
   ·(try rw [h3]); replace h3 := zcl h3
    refine zw2 ?_
    refine zrt ?_
    exact ResQ_10 rfl hcl trivial (Ret_of rfl)
   ·(try rw [h3]); replace h3 := zcl h3
    have hpz := pth_sz nm (by omega)
    refine AWp_skip ?_
    refine zu1 ?_
    refine zt rfl (zc rfl (rfsort_c f a _ (by omega))) ?_
    refine zv1 ?_
    refine zu1 ?_
    refine zt rfl (zc rfl (rfsort_c g b _ (by omega))) ?_
    refine zv1 ?_
    refine AWp_seq ?_
    refine AWp_heap (σ' := σ ++ []) (by simp) ?_
    refine AWp_regL ?_
    refine zt rfl (op_buildSlice0 (sz := 3) rfl Tryd.underlying22 Tryd.sizeOf28) ?_
    refine zg1 ?_
    refine zt rfl (op_appendNewT rfl (n := 0) rfl (sz := 3) (m := a.length) (cs := (frows a).flatten) rfl (.inr ⟨_, rfl⟩) Tryd.underlying22 Tryd.underlying22 Tryd.type28 rfl rfl rfl (by decide) (.inr rfl) (by show some ((frows a).flatten, (frows a).length) = _; rw [frows_len]) rfl (ones_frows _) (by show a.length * 48 ≤ _; omega) (by omega) (frows_flen _)) ?_
    refine zg1 ?_
    refine zt rfl (op_appendArrT rfl 0 (sz := 3) (m := b.length) (len := a.length) (cs := (frows b).flatten) rfl (.inr ⟨_, rfl⟩) Tryd.underlying22 Tryd.underlying22 Tryd.type28 rfl rfl rfl (by decide) rfl rfl (frows_flen a).symm (by show some ((frows b).flatten, (frows b).length) = _; rw [frows_len]) rfl (ones_frows _) (by show (a.length + b.length) * 48 ≤ _; omega) (by omega) (frows_flen _)) ?_
    refine AOps_freezeAO 36 0 1 3 (a.length + b.length) (frows (a ++ b)) rfl (by rw [frows_app]; rfl) (frows_el _) (by rw [frows_len, List.length_append]) (by decide) ?_ (by decide)
    refine zt rfl (zc rfl (rfsort_c false (a ++ b) _ (by rw [List.length_append]; omega))) ?_
    refine zv1 ?_
    refine zw1 ?_
    refine AWp_seq ?_
    refine AWp_seq ?_
    refine AWp_ghostTO 11 3 1 rfl rfl ?_ (by decide)
    refine AWp_regL ?_
    refine zv1 ?_
    refine AWp_block ?_
    -- loop 0 LIVE 0:param 2:param 6:assign 7:assign 8:assign 9:assign 10:assign 11:assign 12:assign
    refine AWp_loop (ι := Nat) (fun i => i ≤ a.length) (fun i => ⟨[], [(0, .sl f 3 (frows a)), (2, .str nm), (7, .bool true), (8, .sl false 3 (frows (rsort a))), (9, .sl false 3 (frows (rsort b))), (10, .sl false 3 (frows (rsort (a ++ b)))), (11, .arr (σ.length + 1) i 3 0 i), (12, .int .i64 (i : Int))]⟩) (fun i => σ ++ [.dead, .arr 3 i (frows ((a.take i).map (und nm))).flatten]) (fun i => a.length - i) (0) (Nat.zero_le _) ?_ rfl (fun i hi => ?_)
    ·exact ⟨rfl, rfl, rfl, rfl, rfl, rfl, rfl, rfl, rfl, trivial⟩
    refine AWp_seq ?_
    refine zw4 ?_
    refine AWp_cond rfl (fun h4 => ?_) (fun h4 => ?_)
    ·(try rw [h4]); replace h4 := zcl h4
     obtain ⟨x, hx⟩ : ∃ x, a[i]? = some x := ⟨_, List.getElem?_eq_getElem (show i < a.length by omega)⟩
     have hxr := frows_get hx
     have hxs := hs x (List.mem_of_getElem? hx)
     refine AWp_skip ?_
     refine AWp_seq ?_
     refine AWp_block ?_
     refine AWp_drawL #[0, 0, 2, 6, 0, 0, 48, 112, 240, 510, 0, 0, 3072, 7168, 15360, 0, 0, 98304, 229376, 491520, 1048574, 2097150, 4194303, 8388607] Tryd.mixed (by decide +kernel) (by decide +kernel) ?_
     refine zd2 ?_
     refine yA rfl rfl (fun _ => op_buildSlice [[_]] rfl Tryd.underlying26 Tryd.sizeOf9 Tryd.zeroValue9 rfl (by decide) (by decide) rfl rfl rfl rfl rfl) ?_
     refine yP rfl rfl (zc rfl (rpathF_c nm _ (by omega))) (trivial) ?_
     refine zd2 ?_
     refine yA rfl rfl (fun _ => op_indexAddr rfl Tryd.underlying22 Tryd.sizeOf28 rfl rfl (by omega) (hxr)) ?_
     refine zd1 ?_
     refine zp1 ?_
     refine yA rfl rfl (fun _ => op_cat rfl rfl rfl (by show (pth nm).size + x.1.size ≤ _; omega)) ?_
     refine zd2 ?_
     refine yA rfl rfl (fun _ => op_indexAddr rfl Tryd.underlying22 Tryd.sizeOf28 rfl rfl (by omega) (hxr)) ?_
     refine zd1 ?_
     refine zp1 ?_
     refine zd2 ?_
     refine yA rfl rfl (fun _ => op_indexAddr rfl Tryd.underlying22 Tryd.sizeOf28 rfl rfl (by omega) (hxr)) ?_
     refine zd1 ?_
     refine zp1 ?_
     refine zd1 ?_
     refine yA rfl rfl (fun _ => op_buildSlice [[_, _, _]] rfl Tryd.underlying22 Tryd.sizeOf28 Tryd.zeroValue28 rfl (by decide) (by decide) rfl rfl rfl rfl rfl) ?_
     refine yE rfl rfl (op_appendArrT rfl 1 (sz := 3) (m := 1) (len := i) (cs := _) rfl (.inr ⟨_, rfl⟩) Tryd.underlying22 Tryd.underlying22 Tryd.type28 rfl rfl rfl (by decide) rfl rfl (by rw [frows_flen, List.length_map, List.length_take, Nat.min_eq_left (by omega)]) rfl rfl rfl (by show (i + 1) * 48 ≤ _; omega) (by omega) rfl) (⟨.inl rfl, ⟨.inl rfl, ⟨.inl rfl, ⟨.inl rfl, trivial⟩⟩⟩⟩) (trivial) ?_
     refine zd1 ?_
     refine RP.nil rfl ?_
     refine AWp_regL ?_
     refine zv3 ?_
     refine ⟨i + 1, σ.length + 2, by omega, by omega, by simp, ⟨rfl, rfl, rfl, rfl, rfl, rfl, rfl, rfl, rfl, trivial⟩, closed_own 2 hcl ?_, ?_, ?_⟩
     ·simp [ownLt, AO.cells, AV.ltL, AV.lt, ltL_append]
     ·simp [ltE, AV.lt]; (try omega)
     ·rw [und_take hx, frows_snoc]; exact take_own 2
    ·(try rw [h4]); replace h4 := zcl h4
     have hie : i = a.length := by omega
     subst hie
     rw [List.take_length]
     refine AWp_exit ?_
     refine AWp_seq ?_
     refine AWp_freezeAO 11 1 _ 3 a.length (frows (a.map (und nm))) rfl rfl (frows_el _) (by rw [frows_len, List.length_map]) (by decide) ?_ (by decide)
     refine AWp_regL ?_
     refine zg3 ?_
     refine ztG rfl rfl (zc rfl (fsort_c f a _ (by omega))) ?_
     refine zg1 ?_
     refine ztG rfl rfl (zc rfl (faults_c false false (fs a) (rsort a) _ (by rw [fs_rsort]; omega) (by omega))) ?_
     rw [pb_t (fs_rsort a)]
     refine ztG rfl rfl (op_eqlT rfl rfl rfl rfl) ?_
     refine zg4 ?_
     refine ztG rfl rfl (zc rfl (fmerge_c (rsort a) (rsort b) _ (by omega) (by omega))) ?_
     refine zg1 ?_
     refine ztG rfl rfl (zc rfl (faults_c false false (fmg (rsort a) (rsort b)) (rsort (a ++ b)) _ (by rw [fmg_rsort]; omega) (by omega))) ?_
     rw [pb_t (fmg_rsort a b)]
     refine ztG rfl rfl (op_eqlT rfl rfl rfl rfl) ?_
     refine zg4 ?_
     refine ztG rfl rfl (zc rfl (funder_c nm f a _ (by omega) (by omega) hs)) ?_
     refine zg1 ?_
     refine ztG rfl rfl (zc rfl (faults_c false false (a.map (und nm)) (a.map (und nm)) _ (by rw [List.length_map]; omega) (by rw [List.length_map]; omega))) ?_
     rw [pb_t rfl]
     refine ztG rfl rfl (op_eqlT rfl rfl rfl rfl) ?_
     refine zv2 ?_
     refine zrt ?_
     exact ResQ_1 rfl hcl trivial (Ret_of rfl)
end Lg
set_option maxRecDepth 100000
set_option maxHeartbeats 4000000
namespace Go.Proofs.YtpcjccmmeaaeaaaDoor
open Go Go.ChangeShapes Go.WideShapes Go.ChangeAt Go.RowKit Go.Lib
open Go.ChangeMaps (open_string shut_string)
noncomputable def faultsTells_lw (os : Os) : World := World.laidAll Tryd.prog os Rows.faultsTellsRow.laid
theorem faultsTells_pl : (Rows.faultsTellsRow.laid.all fun x => x.2.handleName?.isNone) = true := by kernel_rfl
theorem faultsTells_mh (os : Os) (args : Array Value) : laidMetH Tryd.prog Rows.faultsTellsRow.laid ((faultsTells_lw os).forCall (fun _ _ => 0) ⟨#[], args, []⟩).memory := by
  rw [MakeChecks.laidMetH_plain _ _ _ faultsTells_pl]; exact laidMet_laidAll _ (by kernel_rfl) (by kernel_rfl)
theorem faultsTells_lifted (os : Os) (started : os.Started) (H : Type) (enc : TypeId × Value → H) :
    ReturnsInHanded {} Tryd.checked os 3 .any (fun w args => (Rows.faultsTellsSpec.pre enc Tryd.prog Tryd.f3 [] false w args ∧ laidMetH Tryd.prog Rows.faultsTellsRow.laid w) ∧ sizedMet enc Tryd.prog Tryd.f3 (OpenSpec.ofChange Rows.faultsTellsSpec) false w args)
      (Rows.faultsTellsSpec.post enc Tryd.prog Tryd.f3 false true false false) := by
  refine Lg.returns_shaped_sized (C := Tryd.checked) (X := fun w _ => laidMetH Tryd.prog Rows.faultsTellsRow.laid w) (fun _ _ _ hh h => h.of_heap hh) own started (by kernel_rfl) Tryd.func3
    (ChangeSpec.witness_shaped (enc := enc) (C := Tryd.checked) (os := os) (X := fun w _ => laidMetH Tryd.prog Rows.faultsTellsRow.laid w) false (faultsTells_lw os) #[.slice none 0 0, .slice none 0 0, .string ⟨#[]⟩] 8 (World.laidAll_os _ _ _)
      (World.shaped_of_ZipB (by kernel_rfl) (by kernel_rfl)) (by kernel_rfl) (by kernel_rfl) (by kernel_rfl) (faultsTells_mh os _)) ?_
  intro W base args ds gs before hval0 hW hz hL hS
  have hval : ∀ (j : Nat) t v, Tryd.f3.params[j]? = some t → args[j]? = some v → Value.okWide Tryd.prog W .any base t v := hval0
  have hW' := hW
  obtain ⟨p, q, hA0, hV, rfl, hfz, hnd⟩ := hW
  have hA : DataW.TrodAll enc Tryd.prog W 0 (fun _ => true) true Tryd.f3.params.toList args.toList ds p := hA0
  rw [Tryd.params3] at hA hval hz
  obtain ⟨v0, vs0, d0, ds0, p0, q0, hargs, rfl, rfl, h0, r0⟩ := trodAll_cons hA
  obtain ⟨v1, vs1, d1, ds1, p1, q1, rfl, rfl, rfl, h1, r1⟩ := trodAll_cons r0
  obtain ⟨v2, vs2, d2, ds2, p2, q2, rfl, rfl, rfl, h2, r2⟩ := trodAll_cons r1
  obtain ⟨rfl, rfl, rfl⟩ := trodAll_nil r2
  obtain rfl : args = #[v0, v1, v2] := by cases args; simp_all
  obtain ⟨rfl, rfl⟩ := trodVars_none hV
  obtain ⟨a0, n0, c0, rfl⟩ := okWide_slice Tryd.underlying22 (hval 0 22 v0 rfl rfl)
  have h0k := h0
  obtain ⟨fu0, hf0⟩ := h0
  obtain ⟨a1, n1, c1, rfl⟩ := okWide_slice Tryd.underlying22 (hval 1 22 v1 rfl rfl)
  have h1k := h1
  obtain ⟨fu1, hf1⟩ := h1
  obtain ⟨x2, rfl, rfl, rfl, w2⟩ := open_string Tryd.underlying9 (hval 2 9 v2 rfl rfl) h2
  clear hA0 hval0
  simp only [List.append_nil] at hW'
  have b2 : x2.size ≤ 140737488355328 := by
    have := List.all_eq_true.1 hz x2.data.toList.length (by simp [DataW.weightsEach, DataW.weights])
    have e : x2.data.toList.length = x2.size := Array.length_toList ..
    rw [e] at this; have := of_decide_eq_true this; unfold reachBytes at this; omega
  have hlt : ∀ x ∈ p0 ++ p1, x.block < W.heap.size := fun x hx => by simpa using hW'.lt x hx
  obtain ⟨x0, hwt0, hl0⟩ := Lg.faults_V Tryd.underlying22 Tryd.underlying28 rfl rfl rfl Tryd.underlying9 Tryd.underlying9 Tryd.underlying9 (by kernel_rfl) (by kernel_rfl) (by kernel_rfl) (by kernel_rfl) (of_decide_eq_true (by kernel_rfl)) hf0
  have hb0 := hwt0 140737488355328 (fun k hk => by
    have := List.all_eq_true.1 hz k (by simp only [DataW.weightsEach, List.cons_append, List.nil_append, List.mem_append]; first | exact .inl hk | exact .inr (.inl hk) | exact .inr (.inr (.inl hk)))
    have := of_decide_eq_true this; unfold reachBytes at this; omega)
  obtain ⟨x1, hwt1, hl1⟩ := Lg.faults_V Tryd.underlying22 Tryd.underlying28 rfl rfl rfl Tryd.underlying9 Tryd.underlying9 Tryd.underlying9 (by kernel_rfl) (by kernel_rfl) (by kernel_rfl) (by kernel_rfl) (of_decide_eq_true (by kernel_rfl)) hf1
  have hb1 := hwt1 140737488355328 (fun k hk => by
    have := List.all_eq_true.1 hz k (by simp only [DataW.weightsEach, List.cons_append, List.nil_append, List.mem_append]; first | exact .inl hk | exact .inr (.inl hk) | exact .inr (.inr (.inl hk)))
    have := of_decide_eq_true this; unfold reachBytes at this; omega)
  have hcall := Lg.calls_of2 (P := Tryd.prog) (f := 3) (args := [.sl false 3 (Lg.frows x0), .sl false 3 (Lg.frows x1), .str x2]) (cargs := [.slice a0 n0 c0, .slice a1 n1 c1, .string x2]) (W := W)
    (fun st hs hok => (.cons (hl0 st hs hok) (.cons (hl1 st hs hok) (.cons (.str _) .nil))))
    (fun hg => by haveI := Lg.ML.of hS hg; exact Lg.faultsTells_c false x0 false x1 x2 [] hb0.1 hb1.1 hb0.2)
  refine hcall.mono fun e W' ⟨he, hg⟩ => ?_
  subst he
  refine ⟨_, rfl, _, _, _, [], p0 ++ p1, [], hW', trodAll_mk1 (shut_bool Tryd.underlying4 _), ?_, rfl, hg.frame _, fun h => by cases h⟩
  have ht := (trodAll_cons_mk (Below.trod (show laidOutB Tryd.prog = true by kernel_rfl) (by kernel_rfl) (of_decide_eq_true (by kernel_rfl)) h0k hg (fun x hx => hlt x (by simp [hx]))) (trodAll_cons_mk (Below.trod (show laidOutB Tryd.prog = true by kernel_rfl) (by kernel_rfl) (of_decide_eq_true (by kernel_rfl)) h1k hg (fun x hx => hlt x (by simp [hx]))) (trodAll_cons_mk (shut_string Tryd.underlying9 w2) trodAll_mk0)))
  simp only [List.append_nil] at ht
  exact ht
theorem faultsTells_holds : Rows.FaultsTellsSaid :=
  OpenClaim.holds_of_wide 3 Tryd.f3 rfl rfl rfl rfl rfl rfl rfl ⟨rfl, rfl, rfl, rfl, rfl⟩ rfl rfl rfl rfl rfl (by kernel_rfl) Tryd.func3 (by kernel_rfl)
    (of_decide_eq_true (by kernel_rfl)) (by unfold Func.isWrapper; first | (rw [if_pos (by decide +kernel)]; kernel_rfl) | (rw [if_neg (by decide +kernel)]; exact ⟨rfl, rfl⟩))
    (fun os started H enc _ => faultsTells_lifted os started H enc)
end Go.Proofs.YtpcjccmmeaaeaaaDoor
