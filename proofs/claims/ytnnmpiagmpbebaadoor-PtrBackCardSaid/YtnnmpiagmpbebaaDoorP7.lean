/- A part of the proof of What was shown is parsed; what is parsed is shown; two pointers one behind the other are both's names.: B9 Lr4 P2 P3 VPb. -/
import Derived.Test.YtnnmpiagmpbebaaDoorP6
import Derived.Test.YtnnmpiagmpbebaaDoorP4
set_option linter.unusedVariables false
set_option linter.unusedSimpArgs false
set_option linter.unusedSectionVars false
set_option maxRecDepth 20000
set_option maxHeartbeats 4000000
namespace Lg
open Go Go.Proofs Go.RowKit
variable [GLay] 
def errV : Option (Int × Int) → AV
  | none => .nili
  | some z => .iface 85 (.pp [.int .i64 z.1, .int .i64 z.2])
theorem errV_lt (n : Nat) (z : Option (Int × Int)) : (errV z).lt n := by
  cases z <;> simp [errV, AV.lt, AV.ltL]
theorem op_neErr {P : Program} {σ : List AO} {e : Env} {o : Oper} {T T' : TypeId} {x : Operand} {ms : Array (String × TypeId)} {z : Option (Int × Int)} (ho : o.op = .binOp .neq T x (.const .nilIface) T') (hu : P.underlying T = some (.interface ms)) (hx : opO e x = some (errV z)) : AOp P σ e o (.bool z.isSome) σ := by
  cases z with
  | none => exact op_neINil ho hu hx
  | some z => exact op_neIN ho hu hx
theorem wrR (v : Int) {σ : List AO} {s : ByteArray} {i : Int} {a : AV} {l : List UInt8} (ha : a = .ptr σ.length 2 ∨ ∃ U n, a = .nilT σ.length U n ∧ liesAt Tryd.prog Tryd.prog.depth U (n / Tryd.prog.cellsOf U) 2 58 1 = true) (hv0 : 0 ≤ v) (hv1 : v ≤ 1114111) (hs : ¬ (55296 ≤ v ∧ v < 57344)) (hlen : l.length + 4 ≤ 100000000000000) : ACalls Tryd.prog 79 [.ptr σ.length 2, .int .i32 v] (rdrO σ s i a 5 l) (Ret (.tup [.int .i64 ((rchL v).length : Int), .nili]) (rdrO σ s i (.ptr σ.length 2) 5 (l ++ rchL v))) := by
  have h := wr_c v (rdr_T (s := s) (i := i) (l := l) (P := Tryd.prog) (B := 58) (T := 5) ha) hv0 hv1 hs hlen
  have e : l.length + (rchL v).length = (l ++ rchL v).length := by simp
  rw [e, rdr_set] at h; exact h
theorem wbR (c : UInt8) {σ : List AO} {s : ByteArray} {i : Int} {a : AV} {l : List UInt8} (ha : a = .ptr σ.length 2 ∨ ∃ U n, a = .nilT σ.length U n ∧ liesAt Tryd.prog Tryd.prog.depth U (n / Tryd.prog.cellsOf U) 2 58 1 = true) (hlen : l.length + 1 ≤ 100000000000000) : ACalls Tryd.prog 31 [.ptr σ.length 2, .int .u8 (c.toNat : Int)] (rdrO σ s i a 5 l) (Ret .nili (rdrO σ s i (.ptr σ.length 2) 5 (l ++ [c]))) := by
  have h := wb_c c (rdr_T (s := s) (i := i) (l := l) (P := Tryd.prog) (B := 58) (T := 5) ha) hlen
  have e : l.length + 1 = (l ++ [c]).length := by simp
  rw [e, rdr_set] at h; exact h
theorem wsR (t : ByteArray) {σ : List AO} {s : ByteArray} {i : Int} {a : AV} {l : List UInt8} (ha : a = .ptr σ.length 2 ∨ ∃ U n, a = .nilT σ.length U n ∧ liesAt Tryd.prog Tryd.prog.depth U (n / Tryd.prog.cellsOf U) 2 58 1 = true) (hlen : l.length + t.size ≤ 100000000000000) : ACalls Tryd.prog 32 [.ptr σ.length 2, .str t] (rdrO σ s i a 5 l) (Ret (.tup [.int .i64 t.size, .nili]) (rdrO σ s i (.ptr σ.length 2) 5 (l ++ t.data.toList))) := by
  have h := ws_c t (rdr_T (s := s) (i := i) (l := l) (P := Tryd.prog) (B := 58) (T := 5) ha) hlen
  have e : l.length + t.size = (l ++ t.data.toList).length := by rw [List.length_append]; rfl
  rw [e, rdr_set] at h; exact h
theorem hexR (s : ByteArray) (x : Nat) {σ : List AO} {i : Int} {a : AV} {l : List UInt8} (hs : s.size ≤ 1000000) (hx : x ≤ 1000000) : ACalls Tryd.prog 77 [.ptr σ.length 0, .int .i64 (x : Int)] (rdrO σ s i a 5 l) (Ret (.tup [.int .i32 (rhex s x).1, .int .i64 (rhex s x).2]) (rdrO σ s i a 5 l)) := shex_c s x σ.length _ _ rdr_box rfl hs hx
theorem unit_c (s : ByteArray) (i : Nat) {σ : List AO} {a : AV} {l : List UInt8} (ha : a = .ptr σ.length 2 ∨ ∃ U n, a = .nilT σ.length U n ∧ liesAt Tryd.prog Tryd.prog.depth U (n / Tryd.prog.cellsOf U) 2 58 1 = true) (hs : s.size ≤ 1000000) (hi : i + 2 ≤ s.size) (hlen : l.length + 4 ≤ 100000000000000) : ACalls Tryd.prog 55 [.ptr σ.length 0] (rdrO σ s ((i : Int) + 2) a 5 l) (Ret (errV (uE s i)) (rdrO σ s (uI s i) (if (uE s i) = none then .ptr σ.length 2 else a) 5 (l ++ uO s i))) := by
 refine ACalls_body Tryd.func55 rfl Tryd.ntmps55 (res1 Tryd.results55) (Nat.le_of_ble_eq_true rfl) (fun hcl hal => ?_)
 obtain ⟨hv1, hv2, hv3⟩ := hV_ok s i
 have hv3 := hv3 hi
 have hlo := rlow_iff s (i + 6); rw [show i + 6 + 2 = i + 8 from rfl] at hlo
 have hhx := rhex_ok s (i + 8)
 refine zw1 ?_
 refine zu3 ?_
 refine zt rfl (op_load1 rfl Tryd.isAgg3 (ldv_ptr rdr_box rfl)) ?_
 refine zg1 ?_
 rw [show ((i : Int) + 2 - 2) = (i : Int) by omega]
 refine zv1 ?_
 refine zu4 ?_
 refine zt rfl (op_load1 rfl Tryd.isAgg3 (ldv_ptr rdr_box rfl)) ?_
 refine zt rfl (zc rfl (hexR s (i + 2) hs (by omega))) ?_
 rw [show (rhex s (i + 2)).1 = hV s i from rfl, show (rhex s (i + 2)).2 = hB s i from rfl]
 refine zv5 ?_
 refine AWp_seq ?_
 refine zw2 ?_
 refine AWp_cond rfl (fun h1 => ?_) (fun h1 => ?_)
 ·(try rw [h1]); replace h1 := zcl h1
  refine zu1 ?_
  refine zt rfl (zc rfl (sfail_c (hB s i) 1 _)) ?_
  refine zv1 ?_
  refine zrt ?_
  first | (obtain ⟨e1, e2, e3⟩ := u_bad (s := s) (i := i) (by omega); rw [e1, e2, e3]; simp only [List.append_nil, if_pos, if_neg, reduceCtorEq, if_false, if_true]; exact ResQ_1H (by simp only [rdr_len]) rfl (rdr_closed2 hcl (rdr_alt hcl)) (by simp [AV.lt, AV.ltL, errV]) ⟨rfl, rfl⟩) | (obtain ⟨e1, e2, e3⟩ := u_pair (s := s) (i := i) (by omega) ⟨by omega, by omega, hlo.2 ⟨by omega, by omega, by omega, by omega⟩⟩; rw [e1, e2, e3]; simp only [List.append_nil, if_pos, if_neg, reduceCtorEq, if_false, if_true]; exact ResQ_1H (by simp only [rdr_len]) rfl (rdr_closed2 hcl (by rw [rdr_len]; simp [AV.lt])) (by simp [AV.lt, AV.ltL, errV]) ⟨rfl, rfl⟩) | (obtain ⟨e1, e2, e3⟩ := u_sur (s := s) (i := i) (by omega) (by unfold uPair; intro hp; have := hlo.1 hp.2.2; omega) ⟨by omega, by omega⟩; rw [e1, e2, e3]; simp only [List.append_nil, if_pos, if_neg, reduceCtorEq, if_false, if_true]; exact ResQ_1H (by simp only [rdr_len]) rfl (rdr_closed2 hcl (rdr_alt hcl)) (by simp [AV.lt, AV.ltL, errV]) ⟨rfl, rfl⟩) | (obtain ⟨e1, e2, e3⟩ := u_plain (s := s) (i := i) (by omega) (by unfold uPair; intro hp; omega) (by unfold uSur; omega); rw [e1, e2, e3]; simp only [List.append_nil, if_pos, if_neg, reduceCtorEq, if_false, if_true]; exact ResQ_1H (by simp only [rdr_len]) rfl (rdr_closed2 hcl (by rw [rdr_len]; simp [AV.lt])) (by simp [AV.lt, AV.ltL, errV]) ⟨rfl, rfl⟩)
 ·(try rw [h1]); replace h1 := zcl h1
  have hv1 := hv1 (by omega)
  refine AWp_skip ?_
  refine zu3 ?_
  refine zt rfl (op_load1 rfl Tryd.isAgg3 (ldv_ptr rdr_box rfl)) ?_
  refine zg3 ?_
  refine ztN rfl rfl (op_storeP (r := [.str s, .int .i64 ((i : Int) + 6), a, .bts (σ.length + 1) l.length]) rfl Tryd.sizeOf3 rfl rfl rfl rdr_box rfl (by decide)) ?_
  rw [rdr_at]
  refine zon ?_
  refine AWp_seq ?_
  refine AWp_seq ?_
  refine AWp_drawL #[0, 1, 3, 7, 15, 31, 63, 127, 255, 511, 1023, 127, 2175, 6271, 14463, 32767, 65535, 131071] Tryd.mixed (by decide +kernel) (by decide +kernel) ?_
  refine zd3 ?_
  refine zspr 35 rfl (fun h2 => ?_) fun h2 => ?_
  ·rw [h2]; replace h2 := zcl h2
   refine zd4 ?_
   refine zspr 39 rfl (fun h3 => ?_) fun h3 => ?_
   ·rw [h3]; replace h3 := zcl h3
    refine zd3 ?_
    refine yPG rfl rfl rfl (op_load1 rfl Tryd.isAgg9 (ldv_ptr rdr_box rfl)) (trivial) ?_
    refine zd3 ?_
    refine yPG rfl rfl rfl (op_load1 rfl Tryd.isAgg3 (ldv_ptr rdr_box rfl)) (trivial) ?_
    refine zd1 ?_
    rw [show ((i : Int) + 6).toNat = i + 6 by omega, Int.toNat_natCast]
    have hex6 : (s.extract (i + 6) s.size).size = s.size - (i + 6) := by rw [ByteArray.size_extract]; omega
    refine yPG rfl rfl rfl (zc rfl (tHasPreB_c _ _ _ (by omega) (by decide))) (trivial) ?_
    rw [pre_u s (i + 6) (by omega)]
    refine zd1 ?_
    refine RP.nil rfl ?_
    refine AWp_cond rfl (fun h4 => ?_) (fun h4 => ?_)
    ·(try rw [h4]); replace h4 := zcl h4
     refine zu4 ?_
     refine zt rfl (op_load1 rfl Tryd.isAgg3 (ldv_ptr rdr_box rfl)) ?_
     refine zg1 ?_
     refine zt rfl (zc rfl (hexR s (i + 8) hs (by omega))) ?_
     refine zv5 ?_
     refine zu3 ?_
     refine zsp 63 rfl (fun h5 => ?_) fun h5 => ?_
     ·rw [h5]; replace h5 := zcl h5
      refine zg4 ?_
      refine zsp 67 rfl (fun h6 => ?_) fun h6 => ?_
      ·rw [h6]; replace h6 := zcl h6
       refine zv3 ?_
       refine AWp_cond rfl (fun h7 => ?_) (fun h7 => ?_)
       ·(try rw [h7]); replace h7 := zcl h7
        refine zu3 ?_
        refine zt rfl (op_load1 rfl Tryd.isAgg3 (ldv_ptr rdr_box rfl)) ?_
        refine zg3 ?_
        refine ztN rfl rfl (op_storeP (r := [.str s, .int .i64 ((i : Int) + 12), a, .bts (σ.length + 1) l.length]) rfl Tryd.sizeOf3 rfl rfl rfl rdr_box rfl (by decide)) ?_
        rw [rdr_at]
        refine zon ?_
        refine zu4 ?_
        refine zt rfl (op_subW rfl rfl rfl (i32_in (by omega) (by omega))) ?_
        refine zt rfl (op_shl (r := (hV s i - 55296) * 1024) rfl rfl rfl (by decide) (show IntKind.i32.wrap ((hV s i - 55296) * 1024) = _ from i32_in (by omega) (by omega))) ?_
        refine zt rfl (op_addW rfl rfl rfl (i32_in (by omega) (by omega))) ?_
        refine zg1 ?_
        refine zt rfl (op_addW rfl rfl rfl (i32_in (by omega) (by omega))) ?_
        refine zt rfl (op_subW rfl rfl rfl (i32_in (by omega) (by omega))) ?_
        rw [show (65536 + (hV s i - 55296) * 1024 + (rhex s (i + 8)).1 - 56320 : Int) = pairV s i by unfold pairV; rw [rlow_val (s := s) (a := i + 6) (hlo.2 ⟨by omega, by omega, by omega, by omega⟩)]; show _ = 65536 + 1024 * (hV s i - 55296) + (rhex s (i + 8)).1 - 56320; omega]
        have hpv : 65536 ≤ pairV s i ∧ pairV s i ≤ 1114111 := by unfold pairV; rw [rlow_val (s := s) (a := i + 6) (hlo.2 ⟨by omega, by omega, by omega, by omega⟩)]; show 65536 ≤ 65536 + 1024 * (hV s i - 55296) + (rhex s (i + 8)).1 - 56320 ∧ 65536 + 1024 * (hV s i - 55296) + (rhex s (i + 8)).1 - 56320 ≤ 1114111; omega
        refine zt rfl (zc rfl (wrR (pairV s i) ha (by omega) (by omega) (by omega) hlen)) ?_
        refine zon ?_
        refine zw1 ?_
        refine zrt ?_
        first | (obtain ⟨e1, e2, e3⟩ := u_bad (s := s) (i := i) (by omega); rw [e1, e2, e3]; simp only [List.append_nil, if_pos, if_neg, reduceCtorEq, if_false, if_true]; exact ResQ_1H (by simp only [rdr_len]) rfl (rdr_closed2 hcl (rdr_alt hcl)) (by simp [AV.lt, AV.ltL, errV]) ⟨rfl, rfl⟩) | (obtain ⟨e1, e2, e3⟩ := u_pair (s := s) (i := i) (by omega) ⟨by omega, by omega, hlo.2 ⟨by omega, by omega, by omega, by omega⟩⟩; rw [e1, e2, e3]; simp only [List.append_nil, if_pos, if_neg, reduceCtorEq, if_false, if_true]; exact ResQ_1H (by simp only [rdr_len]) rfl (rdr_closed2 hcl (by rw [rdr_len]; simp [AV.lt])) (by simp [AV.lt, AV.ltL, errV]) ⟨rfl, rfl⟩) | (obtain ⟨e1, e2, e3⟩ := u_sur (s := s) (i := i) (by omega) (by unfold uPair; intro hp; have := hlo.1 hp.2.2; omega) ⟨by omega, by omega⟩; rw [e1, e2, e3]; simp only [List.append_nil, if_pos, if_neg, reduceCtorEq, if_false, if_true]; exact ResQ_1H (by simp only [rdr_len]) rfl (rdr_closed2 hcl (rdr_alt hcl)) (by simp [AV.lt, AV.ltL, errV]) ⟨rfl, rfl⟩) | (obtain ⟨e1, e2, e3⟩ := u_plain (s := s) (i := i) (by omega) (by unfold uPair; intro hp; omega) (by unfold uSur; omega); rw [e1, e2, e3]; simp only [List.append_nil, if_pos, if_neg, reduceCtorEq, if_false, if_true]; exact ResQ_1H (by simp only [rdr_len]) rfl (rdr_closed2 hcl (by rw [rdr_len]; simp [AV.lt])) (by simp [AV.lt, AV.ltL, errV]) ⟨rfl, rfl⟩)
       ·(try rw [h7]); replace h7 := zcl h7
        refine AWp_skip ?_
        refine AWp_seq ?_
        refine zu3 ?_
        refine zsp 91 rfl (fun h8 => ?_) fun h8 => ?_
        ·rw [h8]; replace h8 := zcl h8
         refine zv3 ?_
         refine AWp_cond rfl (fun h9 => ?_) (fun h9 => ?_)
         ·(try rw [h9]); replace h9 := zcl h9
          refine zu1 ?_
          refine zt rfl (zc rfl (sfail_c (i : Int) 2 _)) ?_
          refine zv1 ?_
          refine zrt ?_
          first | (obtain ⟨e1, e2, e3⟩ := u_bad (s := s) (i := i) (by omega); rw [e1, e2, e3]; simp only [List.append_nil, if_pos, if_neg, reduceCtorEq, if_false, if_true]; exact ResQ_1H (by simp only [rdr_len]) rfl (rdr_closed2 hcl (rdr_alt hcl)) (by simp [AV.lt, AV.ltL, errV]) ⟨rfl, rfl⟩) | (obtain ⟨e1, e2, e3⟩ := u_pair (s := s) (i := i) (by omega) ⟨by omega, by omega, hlo.2 ⟨by omega, by omega, by omega, by omega⟩⟩; rw [e1, e2, e3]; simp only [List.append_nil, if_pos, if_neg, reduceCtorEq, if_false, if_true]; exact ResQ_1H (by simp only [rdr_len]) rfl (rdr_closed2 hcl (by rw [rdr_len]; simp [AV.lt])) (by simp [AV.lt, AV.ltL, errV]) ⟨rfl, rfl⟩) | (obtain ⟨e1, e2, e3⟩ := u_sur (s := s) (i := i) (by omega) (by unfold uPair; intro hp; have := hlo.1 hp.2.2; omega) ⟨by omega, by omega⟩; rw [e1, e2, e3]; simp only [List.append_nil, if_pos, if_neg, reduceCtorEq, if_false, if_true]; exact ResQ_1H (by simp only [rdr_len]) rfl (rdr_closed2 hcl (rdr_alt hcl)) (by simp [AV.lt, AV.ltL, errV]) ⟨rfl, rfl⟩) | (obtain ⟨e1, e2, e3⟩ := u_plain (s := s) (i := i) (by omega) (by unfold uPair; intro hp; omega) (by unfold uSur; omega); rw [e1, e2, e3]; simp only [List.append_nil, if_pos, if_neg, reduceCtorEq, if_false, if_true]; exact ResQ_1H (by simp only [rdr_len]) rfl (rdr_closed2 hcl (by rw [rdr_len]; simp [AV.lt])) (by simp [AV.lt, AV.ltL, errV]) ⟨rfl, rfl⟩)
         ·(try rw [h9]); replace h9 := zcl h9
          refine AWp_skip ?_
          refine zu4 ?_
          refine zt rfl (zc rfl (wrR (hV s i) ha (by omega) (by omega) (by omega) hlen)) ?_
          refine zon ?_
          refine zw1 ?_
          refine zrt ?_
          first | (obtain ⟨e1, e2, e3⟩ := u_bad (s := s) (i := i) (by omega); rw [e1, e2, e3]; simp only [List.append_nil, if_pos, if_neg, reduceCtorEq, if_false, if_true]; exact ResQ_1H (by simp only [rdr_len]) rfl (rdr_closed2 hcl (rdr_alt hcl)) (by simp [AV.lt, AV.ltL, errV]) ⟨rfl, rfl⟩) | (obtain ⟨e1, e2, e3⟩ := u_pair (s := s) (i := i) (by omega) ⟨by omega, by omega, hlo.2 ⟨by omega, by omega, by omega, by omega⟩⟩; rw [e1, e2, e3]; simp only [List.append_nil, if_pos, if_neg, reduceCtorEq, if_false, if_true]; exact ResQ_1H (by simp only [rdr_len]) rfl (rdr_closed2 hcl (by rw [rdr_len]; simp [AV.lt])) (by simp [AV.lt, AV.ltL, errV]) ⟨rfl, rfl⟩) | (obtain ⟨e1, e2, e3⟩ := u_sur (s := s) (i := i) (by omega) (by unfold uPair; intro hp; have := hlo.1 hp.2.2; omega) ⟨by omega, by omega⟩; rw [e1, e2, e3]; simp only [List.append_nil, if_pos, if_neg, reduceCtorEq, if_false, if_true]; exact ResQ_1H (by simp only [rdr_len]) rfl (rdr_closed2 hcl (rdr_alt hcl)) (by simp [AV.lt, AV.ltL, errV]) ⟨rfl, rfl⟩) | (obtain ⟨e1, e2, e3⟩ := u_plain (s := s) (i := i) (by omega) (by unfold uPair; intro hp; omega) (by unfold uSur; omega); rw [e1, e2, e3]; simp only [List.append_nil, if_pos, if_neg, reduceCtorEq, if_false, if_true]; exact ResQ_1H (by simp only [rdr_len]) rfl (rdr_closed2 hcl (by rw [rdr_len]; simp [AV.lt])) (by simp [AV.lt, AV.ltL, errV]) ⟨rfl, rfl⟩)
        ·rw [h8]; replace h8 := zcl h8
         refine zv3 ?_
         refine AWp_condF rfl ?_
         refine AWp_skip ?_
         refine zu4 ?_
         refine zt rfl (zc rfl (wrR (hV s i) ha (by omega) (by omega) (by omega) hlen)) ?_
         refine zon ?_
         refine zw1 ?_
         refine zrt ?_
         first | (obtain ⟨e1, e2, e3⟩ := u_bad (s := s) (i := i) (by omega); rw [e1, e2, e3]; simp only [List.append_nil, if_pos, if_neg, reduceCtorEq, if_false, if_true]; exact ResQ_1H (by simp only [rdr_len]) rfl (rdr_closed2 hcl (rdr_alt hcl)) (by simp [AV.lt, AV.ltL, errV]) ⟨rfl, rfl⟩) | (obtain ⟨e1, e2, e3⟩ := u_pair (s := s) (i := i) (by omega) ⟨by omega, by omega, hlo.2 ⟨by omega, by omega, by omega, by omega⟩⟩; rw [e1, e2, e3]; simp only [List.append_nil, if_pos, if_neg, reduceCtorEq, if_false, if_true]; exact ResQ_1H (by simp only [rdr_len]) rfl (rdr_closed2 hcl (by rw [rdr_len]; simp [AV.lt])) (by simp [AV.lt, AV.ltL, errV]) ⟨rfl, rfl⟩) | (obtain ⟨e1, e2, e3⟩ := u_sur (s := s) (i := i) (by omega) (by unfold uPair; intro hp; have := hlo.1 hp.2.2; omega) ⟨by omega, by omega⟩; rw [e1, e2, e3]; simp only [List.append_nil, if_pos, if_neg, reduceCtorEq, if_false, if_true]; exact ResQ_1H (by simp only [rdr_len]) rfl (rdr_closed2 hcl (rdr_alt hcl)) (by simp [AV.lt, AV.ltL, errV]) ⟨rfl, rfl⟩) | (obtain ⟨e1, e2, e3⟩ := u_plain (s := s) (i := i) (by omega) (by unfold uPair; intro hp; omega) (by unfold uSur; omega); rw [e1, e2, e3]; simp only [List.append_nil, if_pos, if_neg, reduceCtorEq, if_false, if_true]; exact ResQ_1H (by simp only [rdr_len]) rfl (rdr_closed2 hcl (by rw [rdr_len]; simp [AV.lt])) (by simp [AV.lt, AV.ltL, errV]) ⟨rfl, rfl⟩)
      ·rw [h6]; replace h6 := zcl h6
       refine zv3 ?_
       refine AWp_condF rfl ?_
       refine AWp_skip ?_
       refine AWp_seq ?_
       refine zu3 ?_
       refine zsp 91 rfl (fun h10 => ?_) fun h10 => ?_
       ·rw [h10]; replace h10 := zcl h10
        refine zv3 ?_
        refine AWp_cond rfl (fun h11 => ?_) (fun h11 => ?_)
        ·(try rw [h11]); replace h11 := zcl h11
         refine zu1 ?_
         refine zt rfl (zc rfl (sfail_c (i : Int) 2 _)) ?_
         refine zv1 ?_
         refine zrt ?_
         first | (obtain ⟨e1, e2, e3⟩ := u_bad (s := s) (i := i) (by omega); rw [e1, e2, e3]; simp only [List.append_nil, if_pos, if_neg, reduceCtorEq, if_false, if_true]; exact ResQ_1H (by simp only [rdr_len]) rfl (rdr_closed2 hcl (rdr_alt hcl)) (by simp [AV.lt, AV.ltL, errV]) ⟨rfl, rfl⟩) | (obtain ⟨e1, e2, e3⟩ := u_pair (s := s) (i := i) (by omega) ⟨by omega, by omega, hlo.2 ⟨by omega, by omega, by omega, by omega⟩⟩; rw [e1, e2, e3]; simp only [List.append_nil, if_pos, if_neg, reduceCtorEq, if_false, if_true]; exact ResQ_1H (by simp only [rdr_len]) rfl (rdr_closed2 hcl (by rw [rdr_len]; simp [AV.lt])) (by simp [AV.lt, AV.ltL, errV]) ⟨rfl, rfl⟩) | (obtain ⟨e1, e2, e3⟩ := u_sur (s := s) (i := i) (by omega) (by unfold uPair; intro hp; have := hlo.1 hp.2.2; omega) ⟨by omega, by omega⟩; rw [e1, e2, e3]; simp only [List.append_nil, if_pos, if_neg, reduceCtorEq, if_false, if_true]; exact ResQ_1H (by simp only [rdr_len]) rfl (rdr_closed2 hcl (rdr_alt hcl)) (by simp [AV.lt, AV.ltL, errV]) ⟨rfl, rfl⟩) | (obtain ⟨e1, e2, e3⟩ := u_plain (s := s) (i := i) (by omega) (by unfold uPair; intro hp; omega) (by unfold uSur; omega); rw [e1, e2, e3]; simp only [List.append_nil, if_pos, if_neg, reduceCtorEq, if_false, if_true]; exact ResQ_1H (by simp only [rdr_len]) rfl (rdr_closed2 hcl (by rw [rdr_len]; simp [AV.lt])) (by simp [AV.lt, AV.ltL, errV]) ⟨rfl, rfl⟩)
        ·(try rw [h11]); replace h11 := zcl h11
         refine AWp_skip ?_
         refine zu4 ?_
         refine zt rfl (zc rfl (wrR (hV s i) ha (by omega) (by omega) (by omega) hlen)) ?_
         refine zon ?_
         refine zw1 ?_
         refine zrt ?_
         first | (obtain ⟨e1, e2, e3⟩ := u_bad (s := s) (i := i) (by omega); rw [e1, e2, e3]; simp only [List.append_nil, if_pos, if_neg, reduceCtorEq, if_false, if_true]; exact ResQ_1H (by simp only [rdr_len]) rfl (rdr_closed2 hcl (rdr_alt hcl)) (by simp [AV.lt, AV.ltL, errV]) ⟨rfl, rfl⟩) | (obtain ⟨e1, e2, e3⟩ := u_pair (s := s) (i := i) (by omega) ⟨by omega, by omega, hlo.2 ⟨by omega, by omega, by omega, by omega⟩⟩; rw [e1, e2, e3]; simp only [List.append_nil, if_pos, if_neg, reduceCtorEq, if_false, if_true]; exact ResQ_1H (by simp only [rdr_len]) rfl (rdr_closed2 hcl (by rw [rdr_len]; simp [AV.lt])) (by simp [AV.lt, AV.ltL, errV]) ⟨rfl, rfl⟩) | (obtain ⟨e1, e2, e3⟩ := u_sur (s := s) (i := i) (by omega) (by unfold uPair; intro hp; have := hlo.1 hp.2.2; omega) ⟨by omega, by omega⟩; rw [e1, e2, e3]; simp only [List.append_nil, if_pos, if_neg, reduceCtorEq, if_false, if_true]; exact ResQ_1H (by simp only [rdr_len]) rfl (rdr_closed2 hcl (rdr_alt hcl)) (by simp [AV.lt, AV.ltL, errV]) ⟨rfl, rfl⟩) | (obtain ⟨e1, e2, e3⟩ := u_plain (s := s) (i := i) (by omega) (by unfold uPair; intro hp; omega) (by unfold uSur; omega); rw [e1, e2, e3]; simp only [List.append_nil, if_pos, if_neg, reduceCtorEq, if_false, if_true]; exact ResQ_1H (by simp only [rdr_len]) rfl (rdr_closed2 hcl (by rw [rdr_len]; simp [AV.lt])) (by simp [AV.lt, AV.ltL, errV]) ⟨rfl, rfl⟩)
       ·rw [h10]; replace h10 := zcl h10
        refine zv3 ?_
        refine AWp_condF rfl ?_
        refine AWp_skip ?_
        refine zu4 ?_
        refine zt rfl (zc rfl (wrR (hV s i) ha (by omega) (by omega) (by omega) hlen)) ?_
        refine zon ?_
        refine zw1 ?_
        refine zrt ?_
        first | (obtain ⟨e1, e2, e3⟩ := u_bad (s := s) (i := i) (by omega); rw [e1, e2, e3]; simp only [List.append_nil, if_pos, if_neg, reduceCtorEq, if_false, if_true]; exact ResQ_1H (by simp only [rdr_len]) rfl (rdr_closed2 hcl (rdr_alt hcl)) (by simp [AV.lt, AV.ltL, errV]) ⟨rfl, rfl⟩) | (obtain ⟨e1, e2, e3⟩ := u_pair (s := s) (i := i) (by omega) ⟨by omega, by omega, hlo.2 ⟨by omega, by omega, by omega, by omega⟩⟩; rw [e1, e2, e3]; simp only [List.append_nil, if_pos, if_neg, reduceCtorEq, if_false, if_true]; exact ResQ_1H (by simp only [rdr_len]) rfl (rdr_closed2 hcl (by rw [rdr_len]; simp [AV.lt])) (by simp [AV.lt, AV.ltL, errV]) ⟨rfl, rfl⟩) | (obtain ⟨e1, e2, e3⟩ := u_sur (s := s) (i := i) (by omega) (by unfold uPair; intro hp; have := hlo.1 hp.2.2; omega) ⟨by omega, by omega⟩; rw [e1, e2, e3]; simp only [List.append_nil, if_pos, if_neg, reduceCtorEq, if_false, if_true]; exact ResQ_1H (by simp only [rdr_len]) rfl (rdr_closed2 hcl (rdr_alt hcl)) (by simp [AV.lt, AV.ltL, errV]) ⟨rfl, rfl⟩) | (obtain ⟨e1, e2, e3⟩ := u_plain (s := s) (i := i) (by omega) (by unfold uPair; intro hp; omega) (by unfold uSur; omega); rw [e1, e2, e3]; simp only [List.append_nil, if_pos, if_neg, reduceCtorEq, if_false, if_true]; exact ResQ_1H (by simp only [rdr_len]) rfl (rdr_closed2 hcl (by rw [rdr_len]; simp [AV.lt])) (by simp [AV.lt, AV.ltL, errV]) ⟨rfl, rfl⟩)
     ·rw [h5]; replace h5 := zcl h5
      refine zv7 ?_
      refine AWp_condF rfl ?_
      refine AWp_skip ?_
      refine AWp_seq ?_
      refine zu3 ?_
      refine zsp 91 rfl (fun h12 => ?_) fun h12 => ?_
      ·rw [h12]; replace h12 := zcl h12
       refine zv3 ?_
       refine AWp_cond rfl (fun h13 => ?_) (fun h13 => ?_)
       ·(try rw [h13]); replace h13 := zcl h13
        refine zu1 ?_
        refine zt rfl (zc rfl (sfail_c (i : Int) 2 _)) ?_
        refine zv1 ?_
        refine zrt ?_
        first | (obtain ⟨e1, e2, e3⟩ := u_bad (s := s) (i := i) (by omega); rw [e1, e2, e3]; simp only [List.append_nil, if_pos, if_neg, reduceCtorEq, if_false, if_true]; exact ResQ_1H (by simp only [rdr_len]) rfl (rdr_closed2 hcl (rdr_alt hcl)) (by simp [AV.lt, AV.ltL, errV]) ⟨rfl, rfl⟩) | (obtain ⟨e1, e2, e3⟩ := u_pair (s := s) (i := i) (by omega) ⟨by omega, by omega, hlo.2 ⟨by omega, by omega, by omega, by omega⟩⟩; rw [e1, e2, e3]; simp only [List.append_nil, if_pos, if_neg, reduceCtorEq, if_false, if_true]; exact ResQ_1H (by simp only [rdr_len]) rfl (rdr_closed2 hcl (by rw [rdr_len]; simp [AV.lt])) (by simp [AV.lt, AV.ltL, errV]) ⟨rfl, rfl⟩) | (obtain ⟨e1, e2, e3⟩ := u_sur (s := s) (i := i) (by omega) (by unfold uPair; intro hp; have := hlo.1 hp.2.2; omega) ⟨by omega, by omega⟩; rw [e1, e2, e3]; simp only [List.append_nil, if_pos, if_neg, reduceCtorEq, if_false, if_true]; exact ResQ_1H (by simp only [rdr_len]) rfl (rdr_closed2 hcl (rdr_alt hcl)) (by simp [AV.lt, AV.ltL, errV]) ⟨rfl, rfl⟩) | (obtain ⟨e1, e2, e3⟩ := u_plain (s := s) (i := i) (by omega) (by unfold uPair; intro hp; omega) (by unfold uSur; omega); rw [e1, e2, e3]; simp only [List.append_nil, if_pos, if_neg, reduceCtorEq, if_false, if_true]; exact ResQ_1H (by simp only [rdr_len]) rfl (rdr_closed2 hcl (by rw [rdr_len]; simp [AV.lt])) (by simp [AV.lt, AV.ltL, errV]) ⟨rfl, rfl⟩)
       ·(try rw [h13]); replace h13 := zcl h13
        refine AWp_skip ?_
        refine zu4 ?_
        refine zt rfl (zc rfl (wrR (hV s i) ha (by omega) (by omega) (by omega) hlen)) ?_
        refine zon ?_
        refine zw1 ?_
        refine zrt ?_
        first | (obtain ⟨e1, e2, e3⟩ := u_bad (s := s) (i := i) (by omega); rw [e1, e2, e3]; simp only [List.append_nil, if_pos, if_neg, reduceCtorEq, if_false, if_true]; exact ResQ_1H (by simp only [rdr_len]) rfl (rdr_closed2 hcl (rdr_alt hcl)) (by simp [AV.lt, AV.ltL, errV]) ⟨rfl, rfl⟩) | (obtain ⟨e1, e2, e3⟩ := u_pair (s := s) (i := i) (by omega) ⟨by omega, by omega, hlo.2 ⟨by omega, by omega, by omega, by omega⟩⟩; rw [e1, e2, e3]; simp only [List.append_nil, if_pos, if_neg, reduceCtorEq, if_false, if_true]; exact ResQ_1H (by simp only [rdr_len]) rfl (rdr_closed2 hcl (by rw [rdr_len]; simp [AV.lt])) (by simp [AV.lt, AV.ltL, errV]) ⟨rfl, rfl⟩) | (obtain ⟨e1, e2, e3⟩ := u_sur (s := s) (i := i) (by omega) (by unfold uPair; intro hp; have := hlo.1 hp.2.2; omega) ⟨by omega, by omega⟩; rw [e1, e2, e3]; simp only [List.append_nil, if_pos, if_neg, reduceCtorEq, if_false, if_true]; exact ResQ_1H (by simp only [rdr_len]) rfl (rdr_closed2 hcl (rdr_alt hcl)) (by simp [AV.lt, AV.ltL, errV]) ⟨rfl, rfl⟩) | (obtain ⟨e1, e2, e3⟩ := u_plain (s := s) (i := i) (by omega) (by unfold uPair; intro hp; omega) (by unfold uSur; omega); rw [e1, e2, e3]; simp only [List.append_nil, if_pos, if_neg, reduceCtorEq, if_false, if_true]; exact ResQ_1H (by simp only [rdr_len]) rfl (rdr_closed2 hcl (by rw [rdr_len]; simp [AV.lt])) (by simp [AV.lt, AV.ltL, errV]) ⟨rfl, rfl⟩)
      ·rw [h12]; replace h12 := zcl h12
       refine zv3 ?_
       refine AWp_condF rfl ?_
       refine AWp_skip ?_
       refine zu4 ?_
       refine zt rfl (zc rfl (wrR (hV s i) ha (by omega) (by omega) (by omega) hlen)) ?_
       refine zon ?_
       refine zw1 ?_
       refine zrt ?_
       first | (obtain ⟨e1, e2, e3⟩ := u_bad (s := s) (i := i) (by omega); rw [e1, e2, e3]; simp only [List.append_nil, if_pos, if_neg, reduceCtorEq, if_false, if_true]; exact ResQ_1H (by simp only [rdr_len]) rfl (rdr_closed2 hcl (rdr_alt hcl)) (by simp [AV.lt, AV.ltL, errV]) ⟨rfl, rfl⟩) | (obtain ⟨e1, e2, e3⟩ := u_pair (s := s) (i := i) (by omega) ⟨by omega, by omega, hlo.2 ⟨by omega, by omega, by omega, by omega⟩⟩; rw [e1, e2, e3]; simp only [List.append_nil, if_pos, if_neg, reduceCtorEq, if_false, if_true]; exact ResQ_1H (by simp only [rdr_len]) rfl (rdr_closed2 hcl (by rw [rdr_len]; simp [AV.lt])) (by simp [AV.lt, AV.ltL, errV]) ⟨rfl, rfl⟩) | (obtain ⟨e1, e2, e3⟩ := u_sur (s := s) (i := i) (by omega) (by unfold uPair; intro hp; have := hlo.1 hp.2.2; omega) ⟨by omega, by omega⟩; rw [e1, e2, e3]; simp only [List.append_nil, if_pos, if_neg, reduceCtorEq, if_false, if_true]; exact ResQ_1H (by simp only [rdr_len]) rfl (rdr_closed2 hcl (rdr_alt hcl)) (by simp [AV.lt, AV.ltL, errV]) ⟨rfl, rfl⟩) | (obtain ⟨e1, e2, e3⟩ := u_plain (s := s) (i := i) (by omega) (by unfold uPair; intro hp; omega) (by unfold uSur; omega); rw [e1, e2, e3]; simp only [List.append_nil, if_pos, if_neg, reduceCtorEq, if_false, if_true]; exact ResQ_1H (by simp only [rdr_len]) rfl (rdr_closed2 hcl (by rw [rdr_len]; simp [AV.lt])) (by simp [AV.lt, AV.ltL, errV]) ⟨rfl, rfl⟩)
    ·(try rw [h4]); replace h4 := zcl h4
     refine AWp_skip ?_
     refine AWp_seq ?_
     refine zu3 ?_
     refine zsp 91 rfl (fun h14 => ?_) fun h14 => ?_
     ·rw [h14]; replace h14 := zcl h14
      refine zv3 ?_
      refine AWp_cond rfl (fun h15 => ?_) (fun h15 => ?_)
      ·(try rw [h15]); replace h15 := zcl h15
       refine zu1 ?_
       refine zt rfl (zc rfl (sfail_c (i : Int) 2 _)) ?_
       refine zv1 ?_
       refine zrt ?_
       first | (obtain ⟨e1, e2, e3⟩ := u_bad (s := s) (i := i) (by omega); rw [e1, e2, e3]; simp only [List.append_nil, if_pos, if_neg, reduceCtorEq, if_false, if_true]; exact ResQ_1H (by simp only [rdr_len]) rfl (rdr_closed2 hcl (rdr_alt hcl)) (by simp [AV.lt, AV.ltL, errV]) ⟨rfl, rfl⟩) | (obtain ⟨e1, e2, e3⟩ := u_pair (s := s) (i := i) (by omega) ⟨by omega, by omega, hlo.2 ⟨by omega, by omega, by omega, by omega⟩⟩; rw [e1, e2, e3]; simp only [List.append_nil, if_pos, if_neg, reduceCtorEq, if_false, if_true]; exact ResQ_1H (by simp only [rdr_len]) rfl (rdr_closed2 hcl (by rw [rdr_len]; simp [AV.lt])) (by simp [AV.lt, AV.ltL, errV]) ⟨rfl, rfl⟩) | (obtain ⟨e1, e2, e3⟩ := u_sur (s := s) (i := i) (by omega) (by unfold uPair; intro hp; have := hlo.1 hp.2.2; omega) ⟨by omega, by omega⟩; rw [e1, e2, e3]; simp only [List.append_nil, if_pos, if_neg, reduceCtorEq, if_false, if_true]; exact ResQ_1H (by simp only [rdr_len]) rfl (rdr_closed2 hcl (rdr_alt hcl)) (by simp [AV.lt, AV.ltL, errV]) ⟨rfl, rfl⟩) | (obtain ⟨e1, e2, e3⟩ := u_plain (s := s) (i := i) (by omega) (by unfold uPair; intro hp; omega) (by unfold uSur; omega); rw [e1, e2, e3]; simp only [List.append_nil, if_pos, if_neg, reduceCtorEq, if_false, if_true]; exact ResQ_1H (by simp only [rdr_len]) rfl (rdr_closed2 hcl (by rw [rdr_len]; simp [AV.lt])) (by simp [AV.lt, AV.ltL, errV]) ⟨rfl, rfl⟩)
      ·(try rw [h15]); replace h15 := zcl h15
       refine AWp_skip ?_
       refine zu4 ?_
       refine zt rfl (zc rfl (wrR (hV s i) ha (by omega) (by omega) (by omega) hlen)) ?_
       refine zon ?_
       refine zw1 ?_
       refine zrt ?_
       first | (obtain ⟨e1, e2, e3⟩ := u_bad (s := s) (i := i) (by omega); rw [e1, e2, e3]; simp only [List.append_nil, if_pos, if_neg, reduceCtorEq, if_false, if_true]; exact ResQ_1H (by simp only [rdr_len]) rfl (rdr_closed2 hcl (rdr_alt hcl)) (by simp [AV.lt, AV.ltL, errV]) ⟨rfl, rfl⟩) | (obtain ⟨e1, e2, e3⟩ := u_pair (s := s) (i := i) (by omega) ⟨by omega, by omega, hlo.2 ⟨by omega, by omega, by omega, by omega⟩⟩; rw [e1, e2, e3]; simp only [List.append_nil, if_pos, if_neg, reduceCtorEq, if_false, if_true]; exact ResQ_1H (by simp only [rdr_len]) rfl (rdr_closed2 hcl (by rw [rdr_len]; simp [AV.lt])) (by simp [AV.lt, AV.ltL, errV]) ⟨rfl, rfl⟩) | (obtain ⟨e1, e2, e3⟩ := u_sur (s := s) (i := i) (by omega) (by unfold uPair; intro hp; have := hlo.1 hp.2.2; omega) ⟨by omega, by omega⟩; rw [e1, e2, e3]; simp only [List.append_nil, if_pos, if_neg, reduceCtorEq, if_false, if_true]; exact ResQ_1H (by simp only [rdr_len]) rfl (rdr_closed2 hcl (rdr_alt hcl)) (by simp [AV.lt, AV.ltL, errV]) ⟨rfl, rfl⟩) | (obtain ⟨e1, e2, e3⟩ := u_plain (s := s) (i := i) (by omega) (by unfold uPair; intro hp; omega) (by unfold uSur; omega); rw [e1, e2, e3]; simp only [List.append_nil, if_pos, if_neg, reduceCtorEq, if_false, if_true]; exact ResQ_1H (by simp only [rdr_len]) rfl (rdr_closed2 hcl (by rw [rdr_len]; simp [AV.lt])) (by simp [AV.lt, AV.ltL, errV]) ⟨rfl, rfl⟩)
     ·rw [h14]; replace h14 := zcl h14
      refine zv3 ?_
      refine AWp_condF rfl ?_
      refine AWp_skip ?_
      refine zu4 ?_
      refine zt rfl (zc rfl (wrR (hV s i) ha (by omega) (by omega) (by omega) hlen)) ?_
      refine zon ?_
      refine zw1 ?_
      refine zrt ?_
      first | (obtain ⟨e1, e2, e3⟩ := u_bad (s := s) (i := i) (by omega); rw [e1, e2, e3]; simp only [List.append_nil, if_pos, if_neg, reduceCtorEq, if_false, if_true]; exact ResQ_1H (by simp only [rdr_len]) rfl (rdr_closed2 hcl (rdr_alt hcl)) (by simp [AV.lt, AV.ltL, errV]) ⟨rfl, rfl⟩) | (obtain ⟨e1, e2, e3⟩ := u_pair (s := s) (i := i) (by omega) ⟨by omega, by omega, hlo.2 ⟨by omega, by omega, by omega, by omega⟩⟩; rw [e1, e2, e3]; simp only [List.append_nil, if_pos, if_neg, reduceCtorEq, if_false, if_true]; exact ResQ_1H (by simp only [rdr_len]) rfl (rdr_closed2 hcl (by rw [rdr_len]; simp [AV.lt])) (by simp [AV.lt, AV.ltL, errV]) ⟨rfl, rfl⟩) | (obtain ⟨e1, e2, e3⟩ := u_sur (s := s) (i := i) (by omega) (by unfold uPair; intro hp; have := hlo.1 hp.2.2; omega) ⟨by omega, by omega⟩; rw [e1, e2, e3]; simp only [List.append_nil, if_pos, if_neg, reduceCtorEq, if_false, if_true]; exact ResQ_1H (by simp only [rdr_len]) rfl (rdr_closed2 hcl (rdr_alt hcl)) (by simp [AV.lt, AV.ltL, errV]) ⟨rfl, rfl⟩) | (obtain ⟨e1, e2, e3⟩ := u_plain (s := s) (i := i) (by omega) (by unfold uPair; intro hp; omega) (by unfold uSur; omega); rw [e1, e2, e3]; simp only [List.append_nil, if_pos, if_neg, reduceCtorEq, if_false, if_true]; exact ResQ_1H (by simp only [rdr_len]) rfl (rdr_closed2 hcl (by rw [rdr_len]; simp [AV.lt])) (by simp [AV.lt, AV.ltL, errV]) ⟨rfl, rfl⟩)
   ·rw [h3]; replace h3 := zcl h3
    refine zd10 ?_
    refine zd1 ?_
    refine RP.nil rfl ?_
    refine AWp_condF rfl ?_
    refine AWp_skip ?_
    refine AWp_seq ?_
    refine zu3 ?_
    refine zsp 91 rfl (fun h16 => ?_) fun h16 => ?_
    ·rw [h16]; replace h16 := zcl h16
     refine zv3 ?_
     refine AWp_cond rfl (fun h17 => ?_) (fun h17 => ?_)
     ·(try rw [h17]); replace h17 := zcl h17
      refine zu1 ?_
      refine zt rfl (zc rfl (sfail_c (i : Int) 2 _)) ?_
      refine zv1 ?_
      refine zrt ?_
      first | (obtain ⟨e1, e2, e3⟩ := u_bad (s := s) (i := i) (by omega); rw [e1, e2, e3]; simp only [List.append_nil, if_pos, if_neg, reduceCtorEq, if_false, if_true]; exact ResQ_1H (by simp only [rdr_len]) rfl (rdr_closed2 hcl (rdr_alt hcl)) (by simp [AV.lt, AV.ltL, errV]) ⟨rfl, rfl⟩) | (obtain ⟨e1, e2, e3⟩ := u_pair (s := s) (i := i) (by omega) ⟨by omega, by omega, hlo.2 ⟨by omega, by omega, by omega, by omega⟩⟩; rw [e1, e2, e3]; simp only [List.append_nil, if_pos, if_neg, reduceCtorEq, if_false, if_true]; exact ResQ_1H (by simp only [rdr_len]) rfl (rdr_closed2 hcl (by rw [rdr_len]; simp [AV.lt])) (by simp [AV.lt, AV.ltL, errV]) ⟨rfl, rfl⟩) | (obtain ⟨e1, e2, e3⟩ := u_sur (s := s) (i := i) (by omega) (by unfold uPair; intro hp; have := hlo.1 hp.2.2; omega) ⟨by omega, by omega⟩; rw [e1, e2, e3]; simp only [List.append_nil, if_pos, if_neg, reduceCtorEq, if_false, if_true]; exact ResQ_1H (by simp only [rdr_len]) rfl (rdr_closed2 hcl (rdr_alt hcl)) (by simp [AV.lt, AV.ltL, errV]) ⟨rfl, rfl⟩) | (obtain ⟨e1, e2, e3⟩ := u_plain (s := s) (i := i) (by omega) (by unfold uPair; intro hp; omega) (by unfold uSur; omega); rw [e1, e2, e3]; simp only [List.append_nil, if_pos, if_neg, reduceCtorEq, if_false, if_true]; exact ResQ_1H (by simp only [rdr_len]) rfl (rdr_closed2 hcl (by rw [rdr_len]; simp [AV.lt])) (by simp [AV.lt, AV.ltL, errV]) ⟨rfl, rfl⟩)
     ·(try rw [h17]); replace h17 := zcl h17
      refine AWp_skip ?_
      refine zu4 ?_
      refine zt rfl (zc rfl (wrR (hV s i) ha (by omega) (by omega) (by omega) hlen)) ?_
      refine zon ?_
      refine zw1 ?_
      refine zrt ?_
      first | (obtain ⟨e1, e2, e3⟩ := u_bad (s := s) (i := i) (by omega); rw [e1, e2, e3]; simp only [List.append_nil, if_pos, if_neg, reduceCtorEq, if_false, if_true]; exact ResQ_1H (by simp only [rdr_len]) rfl (rdr_closed2 hcl (rdr_alt hcl)) (by simp [AV.lt, AV.ltL, errV]) ⟨rfl, rfl⟩) | (obtain ⟨e1, e2, e3⟩ := u_pair (s := s) (i := i) (by omega) ⟨by omega, by omega, hlo.2 ⟨by omega, by omega, by omega, by omega⟩⟩; rw [e1, e2, e3]; simp only [List.append_nil, if_pos, if_neg, reduceCtorEq, if_false, if_true]; exact ResQ_1H (by simp only [rdr_len]) rfl (rdr_closed2 hcl (by rw [rdr_len]; simp [AV.lt])) (by simp [AV.lt, AV.ltL, errV]) ⟨rfl, rfl⟩) | (obtain ⟨e1, e2, e3⟩ := u_sur (s := s) (i := i) (by omega) (by unfold uPair; intro hp; have := hlo.1 hp.2.2; omega) ⟨by omega, by omega⟩; rw [e1, e2, e3]; simp only [List.append_nil, if_pos, if_neg, reduceCtorEq, if_false, if_true]; exact ResQ_1H (by simp only [rdr_len]) rfl (rdr_closed2 hcl (rdr_alt hcl)) (by simp [AV.lt, AV.ltL, errV]) ⟨rfl, rfl⟩) | (obtain ⟨e1, e2, e3⟩ := u_plain (s := s) (i := i) (by omega) (by unfold uPair; intro hp; omega) (by unfold uSur; omega); rw [e1, e2, e3]; simp only [List.append_nil, if_pos, if_neg, reduceCtorEq, if_false, if_true]; exact ResQ_1H (by simp only [rdr_len]) rfl (rdr_closed2 hcl (by rw [rdr_len]; simp [AV.lt])) (by simp [AV.lt, AV.ltL, errV]) ⟨rfl, rfl⟩)
    ·rw [h16]; replace h16 := zcl h16
     refine zv3 ?_
     refine AWp_condF rfl ?_
     refine AWp_skip ?_
     refine zu4 ?_
     refine zt rfl (zc rfl (wrR (hV s i) ha (by omega) (by omega) (by omega) hlen)) ?_
     refine zon ?_
     refine zw1 ?_
     refine zrt ?_
     first | (obtain ⟨e1, e2, e3⟩ := u_bad (s := s) (i := i) (by omega); rw [e1, e2, e3]; simp only [List.append_nil, if_pos, if_neg, reduceCtorEq, if_false, if_true]; exact ResQ_1H (by simp only [rdr_len]) rfl (rdr_closed2 hcl (rdr_alt hcl)) (by simp [AV.lt, AV.ltL, errV]) ⟨rfl, rfl⟩) | (obtain ⟨e1, e2, e3⟩ := u_pair (s := s) (i := i) (by omega) ⟨by omega, by omega, hlo.2 ⟨by omega, by omega, by omega, by omega⟩⟩; rw [e1, e2, e3]; simp only [List.append_nil, if_pos, if_neg, reduceCtorEq, if_false, if_true]; exact ResQ_1H (by simp only [rdr_len]) rfl (rdr_closed2 hcl (by rw [rdr_len]; simp [AV.lt])) (by simp [AV.lt, AV.ltL, errV]) ⟨rfl, rfl⟩) | (obtain ⟨e1, e2, e3⟩ := u_sur (s := s) (i := i) (by omega) (by unfold uPair; intro hp; have := hlo.1 hp.2.2; omega) ⟨by omega, by omega⟩; rw [e1, e2, e3]; simp only [List.append_nil, if_pos, if_neg, reduceCtorEq, if_false, if_true]; exact ResQ_1H (by simp only [rdr_len]) rfl (rdr_closed2 hcl (rdr_alt hcl)) (by simp [AV.lt, AV.ltL, errV]) ⟨rfl, rfl⟩) | (obtain ⟨e1, e2, e3⟩ := u_plain (s := s) (i := i) (by omega) (by unfold uPair; intro hp; omega) (by unfold uSur; omega); rw [e1, e2, e3]; simp only [List.append_nil, if_pos, if_neg, reduceCtorEq, if_false, if_true]; exact ResQ_1H (by simp only [rdr_len]) rfl (rdr_closed2 hcl (by rw [rdr_len]; simp [AV.lt])) (by simp [AV.lt, AV.ltL, errV]) ⟨rfl, rfl⟩)
  ·rw [h2]; replace h2 := zcl h2
   refine zd10 ?_
   refine zd5 ?_
   refine RP.nil rfl ?_
   refine AWp_condF rfl ?_
   refine AWp_skip ?_
   refine AWp_seq ?_
   refine zu3 ?_
   refine zsp 91 rfl (fun h18 => ?_) fun h18 => ?_
   ·rw [h18]; replace h18 := zcl h18
    refine zv3 ?_
    refine AWp_cond rfl (fun h19 => ?_) (fun h19 => ?_)
    ·(try rw [h19]); replace h19 := zcl h19
     refine zu1 ?_
     refine zt rfl (zc rfl (sfail_c (i : Int) 2 _)) ?_
     refine zv1 ?_
     refine zrt ?_
     first | (obtain ⟨e1, e2, e3⟩ := u_bad (s := s) (i := i) (by omega); rw [e1, e2, e3]; simp only [List.append_nil, if_pos, if_neg, reduceCtorEq, if_false, if_true]; exact ResQ_1H (by simp only [rdr_len]) rfl (rdr_closed2 hcl (rdr_alt hcl)) (by simp [AV.lt, AV.ltL, errV]) ⟨rfl, rfl⟩) | (obtain ⟨e1, e2, e3⟩ := u_pair (s := s) (i := i) (by omega) ⟨by omega, by omega, hlo.2 ⟨by omega, by omega, by omega, by omega⟩⟩; rw [e1, e2, e3]; simp only [List.append_nil, if_pos, if_neg, reduceCtorEq, if_false, if_true]; exact ResQ_1H (by simp only [rdr_len]) rfl (rdr_closed2 hcl (by rw [rdr_len]; simp [AV.lt])) (by simp [AV.lt, AV.ltL, errV]) ⟨rfl, rfl⟩) | (obtain ⟨e1, e2, e3⟩ := u_sur (s := s) (i := i) (by omega) (by unfold uPair; intro hp; have := hlo.1 hp.2.2; omega) ⟨by omega, by omega⟩; rw [e1, e2, e3]; simp only [List.append_nil, if_pos, if_neg, reduceCtorEq, if_false, if_true]; exact ResQ_1H (by simp only [rdr_len]) rfl (rdr_closed2 hcl (rdr_alt hcl)) (by simp [AV.lt, AV.ltL, errV]) ⟨rfl, rfl⟩) | (obtain ⟨e1, e2, e3⟩ := u_plain (s := s) (i := i) (by omega) (by unfold uPair; intro hp; omega) (by unfold uSur; omega); rw [e1, e2, e3]; simp only [List.append_nil, if_pos, if_neg, reduceCtorEq, if_false, if_true]; exact ResQ_1H (by simp only [rdr_len]) rfl (rdr_closed2 hcl (by rw [rdr_len]; simp [AV.lt])) (by simp [AV.lt, AV.ltL, errV]) ⟨rfl, rfl⟩)
    ·(try rw [h19]); replace h19 := zcl h19
     refine AWp_skip ?_
     refine zu4 ?_
     refine zt rfl (zc rfl (wrR (hV s i) ha (by omega) (by omega) (by omega) hlen)) ?_
     refine zon ?_
     refine zw1 ?_
     refine zrt ?_
     first | (obtain ⟨e1, e2, e3⟩ := u_bad (s := s) (i := i) (by omega); rw [e1, e2, e3]; simp only [List.append_nil, if_pos, if_neg, reduceCtorEq, if_false, if_true]; exact ResQ_1H (by simp only [rdr_len]) rfl (rdr_closed2 hcl (rdr_alt hcl)) (by simp [AV.lt, AV.ltL, errV]) ⟨rfl, rfl⟩) | (obtain ⟨e1, e2, e3⟩ := u_pair (s := s) (i := i) (by omega) ⟨by omega, by omega, hlo.2 ⟨by omega, by omega, by omega, by omega⟩⟩; rw [e1, e2, e3]; simp only [List.append_nil, if_pos, if_neg, reduceCtorEq, if_false, if_true]; exact ResQ_1H (by simp only [rdr_len]) rfl (rdr_closed2 hcl (by rw [rdr_len]; simp [AV.lt])) (by simp [AV.lt, AV.ltL, errV]) ⟨rfl, rfl⟩) | (obtain ⟨e1, e2, e3⟩ := u_sur (s := s) (i := i) (by omega) (by unfold uPair; intro hp; have := hlo.1 hp.2.2; omega) ⟨by omega, by omega⟩; rw [e1, e2, e3]; simp only [List.append_nil, if_pos, if_neg, reduceCtorEq, if_false, if_true]; exact ResQ_1H (by simp only [rdr_len]) rfl (rdr_closed2 hcl (rdr_alt hcl)) (by simp [AV.lt, AV.ltL, errV]) ⟨rfl, rfl⟩) | (obtain ⟨e1, e2, e3⟩ := u_plain (s := s) (i := i) (by omega) (by unfold uPair; intro hp; omega) (by unfold uSur; omega); rw [e1, e2, e3]; simp only [List.append_nil, if_pos, if_neg, reduceCtorEq, if_false, if_true]; exact ResQ_1H (by simp only [rdr_len]) rfl (rdr_closed2 hcl (by rw [rdr_len]; simp [AV.lt])) (by simp [AV.lt, AV.ltL, errV]) ⟨rfl, rfl⟩)
   ·rw [h18]; replace h18 := zcl h18
    refine zv3 ?_
    refine AWp_condF rfl ?_
    refine AWp_skip ?_
    refine zu4 ?_
    refine zt rfl (zc rfl (wrR (hV s i) ha (by omega) (by omega) (by omega) hlen)) ?_
    refine zon ?_
    refine zw1 ?_
    refine zrt ?_
    first | (obtain ⟨e1, e2, e3⟩ := u_bad (s := s) (i := i) (by omega); rw [e1, e2, e3]; simp only [List.append_nil, if_pos, if_neg, reduceCtorEq, if_false, if_true]; exact ResQ_1H (by simp only [rdr_len]) rfl (rdr_closed2 hcl (rdr_alt hcl)) (by simp [AV.lt, AV.ltL, errV]) ⟨rfl, rfl⟩) | (obtain ⟨e1, e2, e3⟩ := u_pair (s := s) (i := i) (by omega) ⟨by omega, by omega, hlo.2 ⟨by omega, by omega, by omega, by omega⟩⟩; rw [e1, e2, e3]; simp only [List.append_nil, if_pos, if_neg, reduceCtorEq, if_false, if_true]; exact ResQ_1H (by simp only [rdr_len]) rfl (rdr_closed2 hcl (by rw [rdr_len]; simp [AV.lt])) (by simp [AV.lt, AV.ltL, errV]) ⟨rfl, rfl⟩) | (obtain ⟨e1, e2, e3⟩ := u_sur (s := s) (i := i) (by omega) (by unfold uPair; intro hp; have := hlo.1 hp.2.2; omega) ⟨by omega, by omega⟩; rw [e1, e2, e3]; simp only [List.append_nil, if_pos, if_neg, reduceCtorEq, if_false, if_true]; exact ResQ_1H (by simp only [rdr_len]) rfl (rdr_closed2 hcl (rdr_alt hcl)) (by simp [AV.lt, AV.ltL, errV]) ⟨rfl, rfl⟩) | (obtain ⟨e1, e2, e3⟩ := u_plain (s := s) (i := i) (by omega) (by unfold uPair; intro hp; omega) (by unfold uSur; omega); rw [e1, e2, e3]; simp only [List.append_nil, if_pos, if_neg, reduceCtorEq, if_false, if_true]; exact ResQ_1H (by simp only [rdr_len]) rfl (rdr_closed2 hcl (by rw [rdr_len]; simp [AV.lt])) (by simp [AV.lt, AV.ltL, errV]) ⟨rfl, rfl⟩)
end Lg
namespace Lg
open Go Go.RowKit
variable [GLay] {P : Program} {N : Nat} {σ l : List AO} {e : Env} {Q : QA} {o : Oper}
theorem spl_set (v : AV) : ∀ (i : Nat) (cs : List AV), i < cs.length → spl i cs [v] = some (cs.set i v)
  | 0, [], h => by simp at h
  | 0, c :: cs, _ => by simp [spl, putAt]
  | i + 1, [], h => by simp at h
  | i + 1, c :: cs, h => by simp [spl, spl_set v i cs (by simpa using h)]
theorem ldv_el {j g sz off i : Nat} {cs : List AV} {v : AV} (hl : l[j]? = some (.arr sz g cs)) (hv : cs[i]? = some v) (ho : off = i) : ldv (σ ++ l) 1 (.pel (σ.length + j) g off) = some [v] := by
  subst ho
  simp only [ldv, get_own, hl, if_true]
  have hi := (List.getElem?_eq_some_iff.1 hv).1
  rw [List.drop_eq_getElem_cons hi, (List.getElem?_eq_some_iff.1 hv).2]
  rfl
theorem op_storeEl {T : TypeId} {x y : Operand} {j g sz off i : Nat} {cs : List AV} {b : ByteArray} (ho : o.op = .store T x y) (hz : ∀ w, (Go.sizeOf T).run P w = Result.ok 1 w) (hy : opO e y = some (.str b)) (hx : opO e x = some (.pel (σ.length + j) g off)) (hoff : off = i)
    (hl : l[j]? = some (.arr sz g cs)) (hi : i < cs.length) : AOp P (σ ++ l) e o .any (σ ++ l.set j (.arr sz g (cs.set i (.str b)))) := by
  subst hoff
  have e1 := opO_eq hy
  have := op_store (P := P) (σ := σ ++ l) (e := e) (p := σ.length + j) (O := .arr sz g (cs.set off (.str b))) ho hz (by rw [e1]; rfl) (by rw [e1]; rfl) (by
    rw [e1, opO_eq hx]
    show stv (σ ++ l) [.str b] (.pel (σ.length + j) g off) = _
    simp only [stv, get_own, hl, if_true, spl_set _ _ _ hi, Option.map_some]) (by decide)
  rwa [set_own] at this
end Lg
namespace Lg
open Go
theorem ra2_len (l : BL) (h : okP l) : (ra [126, 49] [47] l).length ≤ l.length := by
  refine okP_ind (M := fun l => (ra [126, 49] [47] l).length ≤ l.length) ?_ ?_ ?_ ?_ l.length l (Nat.le_refl _) h
  · rw [ra_nil (by simp)]; simp
  · intro r _ ih
    rw [ra_cons (b := 126) (by simp) (pf_no (d := 0) (by rintro ⟨_, r', e⟩; simp at e)), ra_cons (b := 48) (by simp) (pf_no (d := 0) (by rintro ⟨e, _⟩; simp at e))]
    simp only [List.length_cons]; omega
  · intro r _ ih
    rw [show (126 :: 49 :: r : BL) = [126, 49] ++ r from rfl, ra_pre (by simp)]
    simp only [List.length_append, List.length_cons, List.length_nil]; omega
  · intro b r hb _ ih
    rw [ra_cons (by simp) (pf_no (d := 0) (by rintro ⟨e, _⟩; exact hb e.symm))]
    simp only [List.length_cons]; omega
theorem pcs_len (c : UInt8) : ∀ l : BL, (pcs c l).length ≤ l.length + 1
  | [] => by simp [pcs]
  | b :: l => by
    have ih := pcs_len c l
    unfold pcs
    split
    · simp only [List.length_cons]; omega
    · split
      · simp
      · rename_i p r h; rw [h] at ih; simp only [List.length_cons] at ih ⊢; omega
end Lg
namespace Lg
open Go
theorem ext_tl (s : BL) : (ba s).extract (Int.toNat 1) ((ba s).size : Int).toNat = ba (s.drop 1) := ba_ext (by
  have e : (Int.toNat 1) = 1 := rfl
  rw [Int.toNat_natCast, ba_size, e]
  simp [ba]
  try exact List.take_of_length_le (by simp))
end Lg
namespace Lg
open Go
theorem pune_len (l : BL) (h : okP l) : (pune l).length ≤ l.length := by
  refine okP_ind (M := fun l => (pune l).length ≤ l.length) (Nat.le_refl _) ?_ ?_ ?_ l.length l (Nat.le_refl _) h
  · intro r _ ih; show (126 :: pune r).length ≤ _; simp only [List.length_cons]; omega
  · intro r _ ih; show (47 :: pune r).length ≤ _; simp only [List.length_cons]; omega
  · intro b r hb _ ih; rw [une_c hb]; simp only [List.length_cons]; omega
theorem pN_len {s : BL} (h : pE s = none) : (pN s).length ≤ s.length + 1 ∧ ∀ x ∈ pN s, x.length ≤ s.length := by
  by_cases h0 : s = []
  · subst h0; exact ⟨Nat.zero_le _, fun x hx => by simp [pN] at hx⟩
  · obtain ⟨h1, h2⟩ := pE_ok h0 h
    have ht : okP (s.drop 1) := by cases s with | nil => exact absurd rfl h0 | cons b r => exact okP_tl h2
    have hl := pcs_len 47 (s.drop 1)
    have hd : (s.drop 1).length ≤ s.length := by rw [List.length_drop]; omega
    unfold pN; rw [if_neg h0, h]
    refine ⟨by simp only [Option.isSome_none, Bool.false_eq_true, if_false, List.length_map]; omega, fun x hx => ?_⟩
    simp only [Option.isSome_none, Bool.false_eq_true, if_false, List.mem_map] at hx
    obtain ⟨p, hp, rfl⟩ := hx
    obtain ⟨a, b, c⟩ := pcs_ok _ (s.drop 1) (Nat.le_refl _) ht p hp
    have := pune_len p a
    omega
def ex6 : BL := [47, 97, 126, 49, 98, 47, 48]
def ex6n : List BL := [[97, 47, 98], [48]]
theorem ex6_s : shw ex6n = ex6 := by decide
theorem ex6_ok : pE ex6 = none ∧ pN ex6 = ex6n := by rw [← ex6_s]; exact pN_shw _
theorem exA_ok : pE [97] = some 0 ∧ pN [97] = [] := by decide
variable [GLay] {P : Program} {σ : List AO}
theorem ldv_elP {p g sz off i : Nat} {cs : List AV} {v : AV} (hl : σ[p]? = some (.arr sz g cs)) (hv : cs[i]? = some v) (ho : off = i) : ldv σ 1 (.pel p g off) = some [v] := by
  subst ho
  simp only [ldv, hl, if_true]
  have hi := (List.getElem?_eq_some_iff.1 hv).1
  rw [List.drop_eq_getElem_cons hi, (List.getElem?_eq_some_iff.1 hv).2]
  rfl
end Lg
set_option maxRecDepth 20000
set_option maxHeartbeats 4000000
namespace Lg
open Go Go.Proofs Go.RowKit
variable [GLay] [ML]
theorem ptrP_c (s : BL) (σ : List AO) (hs : s.length ≤ 100000) : ACalls Tryd.prog 27 [.str (ba s)] σ (Ret (.tup [.sl false 1 (srow (pN s)), errV ((pE s).map fun i => ((i : Int), (1 : Int)))]) σ) := by
 refine ACalls_body Tryd.func27 rfl Tryd.ntmps27 (res2 Tryd.results27) (Nat.le_of_ble_eq_true rfl) (fun hcl hal => ?_)
 have hbz : (ba s).size = s.length := ba_size s
 refine zw2 ?_
 refine AWp_seq ?_
 refine zw2 ?_
 refine AWp_cond rfl (fun h1 => ?_) (fun h1 => ?_)
 ·(try rw [h1]); replace h1 := zcl h1
  have hs0 : s = [] := ba_nil.1 h1
  refine zw2 ?_
  refine AWp_slotLe 2 rfl (AVle.nils false 1) ?_ (by decide)
  refine zrt ?_
  subst hs0
  exact ResQ_20 rfl rfl hcl (by simp [AV.lt, AV.ltL, AV.ltLL]) (Ret_of rfl)
 ·(try rw [h1]); replace h1 := zcl h1
  have hs0 : ¬ s = [] := fun e => h1 (ba_nil.2 e)
  have hsl : 0 < s.length := List.length_pos_iff.2 hs0
  refine AWp_skip ?_
  refine AWp_seq ?_
  refine zw3 ?_
  refine AWp_cond rfl (fun h2 => ?_) (fun h2 => ?_)
  ·(try rw [h2]); replace h2 := zcl h2
   have h47 : ¬ s[0]? = some 47 := fun e => h2 ((g47 hsl).1 e)
   refine zw5 ?_
   refine AWp_slotLe 2 rfl (AVle.nils false 1) ?_ (by decide)
   refine AWp_freezeI (cs := [.int .i64 0, .int .i64 1]) 3 (σ.length + 0) 0 85 rfl (by rw [get_own]; rfl) ?_ (by decide)
   rw [set_own]
   refine zrt ?_
   have hE : pE s = some 0 := by unfold pE; rw [if_neg hs0, if_pos h47]
   have hN : pN s = [] := by unfold pN; rw [if_neg hs0, hE]; rfl
   rw [hE, hN]
   exact ResQ_2 rfl rfl hcl (by simp [AV.lt, AV.ltL, AV.ltLL]) (Ret_of rfl)
  ·(try rw [h2]); replace h2 := zcl h2
   have h47 : s[0]? = some 47 := (g47 hsl).2 h2
   refine AWp_skip ?_
   refine AWp_seq ?_
   refine zw3 ?_
   refine AWp_block ?_
   -- loop 0 LIVE 0:param 2:assign 3:assign 17:call 18:move
   refine AWp_loop (ι := Nat) (fun i => i ≤ s.length ∧ ∀ j, j < i → tbad s j = false) (fun i => ⟨[], [(0, .str (ba s)), (17, .int .i64 ((ba s).size : Int)), (18, .int .i64 (i : Int))]⟩) (fun i => σ) (fun i => s.length - i) (0) (⟨Nat.zero_le _, fun j h => absurd h (by omega)⟩) ?_ rfl (fun i hi => ?_)
   ·exact ⟨rfl, rfl, rfl, rfl, trivial⟩
   obtain ⟨hi1, hi2⟩ := hi
   refine zw1 ?_
   refine AWp_seq ?_
   refine AWp_cond rfl (fun h3 => ?_) (fun h3 => ?_)
   ·(try rw [h3]); replace h3 := zcl h3
    refine AWp_skip ?_
    refine AWp_seq ?_
    refine AWp_block ?_
    refine zw2 ?_
    refine zu5 ?_
    refine zsp 25 rfl (fun h4 => ?_) fun h4 => ?_
    ·rw [h4]; replace h4 := zcl h4
     refine zg6 ?_
     refine zsp 31 rfl (fun h5 => ?_) fun h5 => ?_
     ·rw [h5]; replace h5 := zcl h5
      refine zg10 ?_
      refine zg4 ?_
      refine zon ?_
      refine AWp_condT rfl ?_
      refine zw6 ?_
      refine AWp_slotLe 2 rfl (AVle.nils false 1) ?_ (by decide)
      refine AWp_freezeI (cs := [.int .i64 (i : Int), .int .i64 1]) 3 (σ.length + 0) 0 85 rfl (by rw [get_own]; rfl) ?_ (by decide)
      rw [set_own]
      refine zrt ?_
      have ht : tbad s i = true := tbad_t (show i < s.length by omega) h4 (by first | exact .inl (by omega) | exact .inr ⟨h6, h7⟩)
      have hE : pE s = some i := pE_at hs0 h47 (by omega) ht hi2
      have hN : pN s = [] := by unfold pN; rw [if_neg hs0, hE]; rfl
      rw [hE, hN]
      exact ResQ_2 rfl rfl hcl (by simp [AV.lt, AV.ltL, AV.ltLL]) (Ret_of rfl)
     ·rw [h5]; replace h5 := zcl h5
      refine zg6 ?_
      refine zsp 37 rfl (fun h6 => ?_) fun h6 => ?_
      ·rw [h6]; replace h6 := zcl h6
       refine zv8 ?_
       refine AWp_cond rfl (fun h7 => ?_) (fun h7 => ?_)
       ·(try rw [h7]); replace h7 := zcl h7
        refine zw6 ?_
        refine AWp_slotLe 2 rfl (AVle.nils false 1) ?_ (by decide)
        refine AWp_freezeI (cs := [.int .i64 (i : Int), .int .i64 1]) 3 (σ.length + 0) 0 85 rfl (by rw [get_own]; rfl) ?_ (by decide)
        rw [set_own]
        refine zrt ?_
        have ht : tbad s i = true := tbad_t (show i < s.length by omega) h4 (by first | exact .inl (by omega) | exact .inr ⟨h6, h7⟩)
        have hE : pE s = some i := pE_at hs0 h47 (by omega) ht hi2
        have hN : pN s = [] := by unfold pN; rw [if_neg hs0, hE]; rfl
        rw [hE, hN]
        exact ResQ_2 rfl rfl hcl (by simp [AV.lt, AV.ltL, AV.ltLL]) (Ret_of rfl)
       ·(try rw [h7]); replace h7 := zcl h7
        refine AWp_skip ?_
        refine AWp_regL ?_
        refine zv2 ?_
        refine ⟨i + 1, σ.length, ⟨by omega, fun j hj => ?_⟩, by omega, Nat.le_refl _, ⟨rfl, rfl, rfl, rfl, trivial⟩, hcl, ?_, List.take_length⟩
        ·by_cases e : j = i
         ·subst e; exact tbad_f (show j < s.length by omega) (fun h0 => by first | exact absurd h0 h4 | (refine ⟨by omega, ?_⟩; first | exact .inl h6 | exact .inr h7))
         ·exact hi2 j (by omega)
        ·simp [ltE, AV.lt]
      ·rw [h6]; replace h6 := zcl h6
       refine zv8 ?_
       refine AWp_condF rfl ?_
       refine AWp_skip ?_
       refine AWp_regL ?_
       refine zv2 ?_
       refine ⟨i + 1, σ.length, ⟨by omega, fun j hj => ?_⟩, by omega, Nat.le_refl _, ⟨rfl, rfl, rfl, rfl, trivial⟩, hcl, ?_, List.take_length⟩
       ·by_cases e : j = i
        ·subst e; exact tbad_f (show j < s.length by omega) (fun h0 => by first | exact absurd h0 h4 | (refine ⟨by omega, ?_⟩; first | exact .inl h6 | exact .inr h7))
        ·exact hi2 j (by omega)
       ·simp [ltE, AV.lt]
    ·rw [h4]; replace h4 := zcl h4
     refine zg20 ?_
     refine zon ?_
     refine AWp_condF rfl ?_
     refine AWp_skip ?_
     refine AWp_regL ?_
     refine zv2 ?_
     refine ⟨i + 1, σ.length, ⟨by omega, fun j hj => ?_⟩, by omega, Nat.le_refl _, ⟨rfl, rfl, rfl, rfl, trivial⟩, hcl, ?_, List.take_length⟩
     ·by_cases e : j = i
      ·subst e; exact tbad_f (show j < s.length by omega) (fun h0 => by first | exact absurd h0 h4 | (refine ⟨by omega, ?_⟩; first | exact .inl h6 | exact .inr h7))
      ·exact hi2 j (by omega)
     ·simp [ltE, AV.lt]
   ·(try rw [h3]); replace h3 := zcl h3
    have hE : pE s = none := pE_none hs0 h47 (fun j hj => hi2 j (by omega))
    have hok : okP s := (pE_ok hs0 hE).2
    refine AWp_exit ?_
    refine zu2 ?_
    obtain ⟨t, ht⟩ : ∃ t, t = s.drop 1 := ⟨_, rfl⟩
    have htl : t.length + 1 = s.length := by rw [ht, List.length_drop]; omega
    have hot : okP t := by rw [ht]; cases s with | nil => exact absurd rfl hs0 | cons b r => exact okP_tl hok
    rw [ext_tl, ← ht]
    refine ztR rfl (zcR rfl (split_c (ba t) 47 _ (by rw [ba_size]; omega))) (fun v11_2 s11_2 hr => ?_) (fun v11_2 s11_2 hr => ?_)
    rotate_left
    ·exact nomatch hr.1
    obtain ⟨hv, hh⟩ := hr
    cases hv
    subst hh
    rw [ba_toList] at *
    generalize hL : pcs 47 t = L at *
    refine zv1 ?_
    refine AWp_seq ?_
    refine zu1 ?_
    refine zt rfl (op_lenS rfl rfl Tryd.underlying48 rfl rfl ⟨1, _, get_own 0⟩) ?_
    refine zv1 ?_
    refine AWp_block ?_
    -- loop 1 LIVE 2:assign 3:assign 5:assign 54:move 55:call 56:move
    have hLl : L.length ≤ t.length + 1 := by rw [← hL]; exact pcs_len 47 t
    rw [← pcell_0 L]
    refine AWp_loop (ι := Nat) (fun i => i ≤ L.length) (fun i => ⟨[], [(5, .arr (σ.length + 0) 0 1 0 L.length), (54, .arr (σ.length + 0) 0 1 0 L.length), (55, .int .i64 (L.length : Int)), (56, .int .i64 (i : Int))]⟩) (fun i => σ ++ [.arr 1 0 (pcell L i)]) (fun i => L.length - i) (0) (Nat.zero_le _) ?_ rfl (fun i hi => ?_)
    ·exact ⟨rfl, rfl, rfl, rfl, rfl, trivial⟩
    refine zw1 ?_
    refine AWp_seq ?_
    refine AWp_cond rfl (fun h8 => ?_) (fun h8 => ?_)
    ·(try rw [h8]); replace h8 := zcl h8
     obtain ⟨x, hx⟩ : ∃ x, L[i]? = some x := ⟨_, List.getElem?_eq_getElem (show i < L.length by omega)⟩
     have hxo := pcs_ok t.length t (Nat.le_refl _) hot x (by rw [hL]; exact List.mem_of_getElem? hx)
     have hxr := ra2_len x hxo.1
     refine AWp_skip ?_
     refine AWp_seq ?_
     refine AWp_block ?_
     refine zu1 ?_
     refine zt rfl (op_indexAddrAO (j := 0) rfl Tryd.underlying48 Tryd.sizeOf9 rfl rfl (by omega) (by omega) rfl) ?_
     refine zt rfl (op_load1 rfl Tryd.isAgg9 (ldv_el (j := 0) (i := i) rfl (pcell_get hx) (Nat.mul_one _))) ?_
     refine zv2 ?_
     refine AWp_regL ?_
     refine zg3 ?_
     refine zt rfl (zc rfl (replA_c (ba x) [126, 49] [47] _ (by decide) (by decide) (by rw [ba_size]; omega) (by decide))) ?_
     rw [ba_toList]
     refine zt rfl (zc rfl (replA_c (ba (ra [126, 49] [47] x)) [126, 48] [126] _ (by decide) (by decide) (by rw [ba_size]; omega) (by decide))) ?_
     rw [ba_toList, une_ra x hxo.1]
     refine zt rfl (op_indexAddrAO (j := 0) rfl Tryd.underlying48 Tryd.sizeOf9 rfl rfl (by omega) (by omega) rfl) ?_
     refine ztN rfl rfl (op_storeEl (j := 0) (i := i) rfl Tryd.sizeOf9 rfl rfl (Nat.mul_one _) rfl (by rw [pcell_len]; omega)) ?_
     refine zon ?_
     refine AWp_regL ?_
     refine zv2 ?_
     refine ⟨i + 1, σ.length + 1, by omega, by omega, by simp, ⟨rfl, rfl, rfl, rfl, rfl, trivial⟩, closed_own 1 hcl ?_, ?_, ?_⟩
     ·show ownLt (σ.length + 1) [AO.arr 1 0 ((pcell L i).set i (.str (ba (pune x))))]
      rw [pcell_step hx]; simp [ownLt, AO.cells]
     ·simp [ltE, AV.lt]
     ·refine (take_own 1).trans ?_
      rw [← pcell_step hx]; rfl
    ·(try rw [h8]); replace h8 := zcl h8
     have hie : i = L.length := by omega
     subst hie
     refine AWp_exit ?_
     refine zw3 ?_
     refine AWp_freezeAO 2 0 0 1 L.length (srow (L.map pune)) rfl (by rw [pcell_end]; rfl) (srow_el _) (by rw [srow_len, List.length_map]) (by decide) ?_ (by decide)
     refine zrt ?_
     have hN : pN s = L.map pune := by unfold pN; rw [if_neg hs0, hE, ← hL, ← ht]; rfl
     rw [hE, hN]
     exact ResQ_2 rfl rfl hcl (by simp [AV.lt, AV.ltL]) (Ret_of rfl)
end Lg
set_option maxRecDepth 20000
set_option maxHeartbeats 4000000
namespace Lg
open Go Go.Proofs Go.RowKit
variable [GLay] [ML]
theorem names2_c (f : Bool) (a b : List BL) (p gg : Nat) (σ : List AO) (hσ : σ[p]? = some (.arr 1 gg (b.map fun x => AV.str (ba x)))) (hl : a.length ≤ 100000) (hl2 : b.length ≤ 100000) : ACalls Tryd.prog 29 [.sl f 1 (srow a), .arr p gg 1 0 b.length] σ (Ret (.int .i64 (bif pb (a = b) then 1 else 0)) σ) := by
 refine ACalls_body Tryd.func29 rfl Tryd.ntmps29 (res1 Tryd.results29) (Nat.le_of_ble_eq_true rfl) (fun hcl hal => ?_)
 have hra := srow_len a
 have hpl := (List.getElem?_eq_some_iff.1 hσ).1
 refine zw1 ?_
 refine AWp_seq ?_
 refine zu3 ?_
 refine zt rfl (op_lenS rfl rfl Tryd.underlying48 rfl rfl ⟨1, _, hσ⟩) ?_
 refine zv1 ?_
 refine AWp_cond rfl (fun h1 => ?_) (fun h1 => ?_)
 ·(try rw [h1]); replace h1 := zcl h1
  refine zw1 ?_
  refine zrt ?_
  exact ResQ_10 rfl hcl trivial (Ret_of (by rw [pb_f (fun h => h1 (by rw [h, srow_len]))]; rfl))
 ·(try rw [h1]); replace h1 := zcl h1
  refine AWp_skip ?_
  refine AWp_seq ?_
  refine zw1 ?_
  refine AWp_block ?_
  -- loop 0 LIVE 0:param 1:param 4:assign 5:assign
  refine AWp_loop (ι := Nat) (fun i => i ≤ a.length ∧ ∀ (j : Nat), j < i → a[j]? = b[j]?) (fun i => ⟨[], [(0, .sl f 1 (srow a)), (1, .arr p gg 1 0 b.length), (5, .int .i64 (i : Int))]⟩) (fun i => σ) (fun i => a.length - i) (0) (⟨Nat.zero_le _, fun j h => absurd h (by omega)⟩) ?_ rfl (fun i hi => ?_)
  ·exact ⟨rfl, rfl, rfl, rfl, trivial⟩
  obtain ⟨hi1, hi2⟩ := hi
  refine AWp_seq ?_
  refine zw4 ?_
  refine AWp_cond rfl (fun h2 => ?_) (fun h2 => ?_)
  ·(try rw [h2]); replace h2 := zcl h2
   obtain ⟨x, hx⟩ : ∃ x, a[i]? = some x := ⟨_, List.getElem?_eq_getElem (show i < a.length by omega)⟩
   obtain ⟨y, hy⟩ : ∃ y, b[i]? = some y := ⟨_, List.getElem?_eq_getElem (show i < b.length by omega)⟩
   have hxr := srow_get hx
   refine AWp_skip ?_
   refine AWp_seq ?_
   refine AWp_block ?_
   refine AWp_seq ?_
   refine AWp_drawL #[0, 0, 3, 7, 0, 0, 48, 112, 255] Tryd.mixed (by decide +kernel) (by decide +kernel) ?_
   refine zd2 ?_
   refine yA rfl rfl (fun _ => op_indexAddr rfl Tryd.underlying48 Tryd.sizeOf9 rfl rfl (by omega) (hxr)) ?_
   refine zp1 ?_
   refine zd2 ?_
   refine yP rfl rfl (op_indexAddrA rfl Tryd.underlying48 Tryd.sizeOf9 rfl rfl (by omega) (by omega) hσ) (trivial) ?_
   refine yP rfl rfl (op_load1 rfl Tryd.isAgg9 (ldv_elP (i := i) hσ (by rw [List.getElem?_map, hy]; rfl) (Nat.mul_one _))) (trivial) ?_
   refine zd1 ?_
   refine RP.nil rfl ?_
   refine AWp_cond rfl (fun h3 => ?_) (fun h3 => ?_)
   ·(try rw [h3]); replace h3 := zcl h3
    refine zw1 ?_
    refine zrt ?_
    exact ResQ_10 rfl hcl trivial (Ret_of (by rw [pb_f (fun h => h3 (by rw [h, hy] at hx; cases hx; rfl))]; rfl))
   ·(try rw [h3]); replace h3 := zcl h3
    refine AWp_skip ?_
    refine AWp_regL ?_
    refine zv3 ?_
    refine ⟨i + 1, σ.length, ⟨by omega, fun j hj => ?_⟩, by omega, Nat.le_refl _, ⟨rfl, rfl, rfl, rfl, trivial⟩, hcl, ?_, List.take_length⟩
    ·by_cases e : j = i
     ·subst e; rw [hx, hy, ba_inj.1 h3]
     ·exact hi2 j (by omega)
    ·simp [ltE, AV.lt]; (try omega)
  ·(try rw [h2]); replace h2 := zcl h2
   refine AWp_exit ?_
   refine zw1 ?_
   refine zrt ?_
   have hab : a = b := List.ext_getElem? fun j => by by_cases hj : j < i; exact hi2 j hj; rw [List.getElem?_eq_none (by omega), List.getElem?_eq_none (by omega)]
   exact ResQ_10 rfl hcl trivial (Ret_of (by rw [pb_t hab]; rfl))

theorem ones_str (l : List BL) : ones (l.map fun x => AV.str (ba x)) = true := by
  induction l with
  | nil => rfl
  | cons a r ih => exact ih
theorem parse_shw (l : List BL) (σ : List AO) (h : (shw l).length ≤ 100000) : ACalls Tryd.prog 27 [.str (ba (shw l))] σ (Ret (.tup [.sl false 1 (srow l), .nili]) σ) := by
  have h := ptrP_c (shw l) σ h
  rw [(pN_shw l).1, (pN_shw l).2] at h
  exact h
theorem ptrPB_c (s : ByteArray) (σ : List AO) (hs : s.size ≤ 100000) : ACalls Tryd.prog 27 [.str s] σ (Ret (.tup [.sl false 1 (srow (pN s.data.toList)), errV ((pE s.data.toList).map fun i => ((i : Int), (1 : Int)))]) σ) := by
  have hl : s.data.toList.length = s.size := Array.length_toList ..
  have h := ptrP_c s.data.toList σ (by omega)
  rw [← ba_eta] at h; exact h
theorem parse_ex6 (σ : List AO) : ACalls Tryd.prog 27 [.str ⟨#[47, 97, 126, 49, 98, 47, 48]⟩] σ (Ret (.tup [.sl false 1 (srow ex6n), .nili]) σ) := by
  have h := ptrP_c ex6 σ (by decide)
  rw [ex6_ok.1, ex6_ok.2] at h; exact h
theorem parse_exA (σ : List AO) : ACalls Tryd.prog 27 [.str ⟨#[97]⟩] σ (Ret (.tup [.sl false 1 (srow []), .iface 85 (.pp [.int .i64 0, .int .i64 1])]) σ) := by
  have h := ptrP_c [97] σ (by decide)
  rw [exA_ok.1, exA_ok.2] at h; exact h
theorem namesT_c (f g : Bool) (a : List BL) (σ : List AO) (hl : a.length ≤ 100000) : ACalls Tryd.prog 29 [.sl f 1 (srow a), .sl g 1 (srow a)] σ (Ret (.int .i64 1) σ) := by
  have h := names_c f g a a σ hl hl
  rw [pb_t rfl] at h; exact h
theorem names2T_c (f : Bool) (a : List BL) (p gg n : Nat) (σ : List AO) (cs : List AV) (hcs : cs = a.map fun x => AV.str (ba x)) (hn : n = a.length) (hσ : σ[p]? = some (.arr 1 gg cs)) (hl : a.length ≤ 100000) : ACalls Tryd.prog 29 [.sl f 1 (srow a), .arr p gg 1 0 n] σ (Ret (.int .i64 1) σ) := by
  subst hcs; subst hn
  have h := names2_c f a a p gg σ hσ hl hl
  rw [pb_t rfl] at h; exact h
theorem up6_c (σ : List AO) : ACalls Tryd.prog 26 [] σ (Ret (.bool true) σ) := by
 refine ACalls_body Tryd.func26 rfl Tryd.ntmps26 (res1 Tryd.results26) (Nat.le_of_ble_eq_true rfl) (fun hcl hal => ?_)
 refine zw1 ?_
 refine zsr ?_
 refine zt rfl (zc rfl (parse_ex6 _)) ?_
 refine zv5 ?_
 refine zsr ?_
 refine zt rfl (zc rfl (parse_exA _)) ?_
 refine zv5 ?_
 refine zu1 ?_
 refine zt rfl (zc rfl (spot_s 0 1 _)) ?_
 refine zv5 ?_
 refine zu4 ?_
 refine ztG rfl rfl (op_buildSlice [[_], [_]] rfl Tryd.underlying48 Tryd.sizeOf9 Tryd.zeroValue9 rfl (by decide) (by decide) rfl rfl rfl rfl rfl) ?_
 refine ztG rfl rfl (zc rfl (namesT_c false true ex6n _ (by decide))) ?_
 refine ztG rfl rfl (op_eqlT rfl rfl rfl rfl) ?_
 refine zg3 ?_
 refine ztG rfl rfl (zc rfl (pshw_c false ex6n _ (by decide) (by decide))) ?_
 refine ztG rfl rfl (op_seqT rfl rfl rfl (by rw [ex6_s]; rfl)) ?_
 refine zg3 ?_
 refine ztG rfl rfl (op_eqlT rfl rfl rfl rfl) ?_
 refine zg3 ?_
 refine ztG rfl rfl (op_eqlT rfl rfl rfl rfl) ?_
 refine zv2 ?_
 refine zrt ?_
 exact ResQ_10 rfl hcl trivial (Ret_of rfl)

theorem ptrBack_c (f g : Bool) (l m : List BL) (s : ByteArray) (σ : List AO) : ACalls Tryd.prog 7 [.sl f 1 (srow l), .sl g 1 (srow m), .str s] σ (Ret (.bool true) σ) := by
 refine ACalls_body Tryd.func7 rfl Tryd.ntmps7 (res1 Tryd.results7) (Nat.le_of_ble_eq_true rfl) (fun hcl hal => ?_)
 have hrl := srow_len l
 have hrm := srow_len m
 have hlm : (l ++ m).length = l.length + m.length := List.length_append
 refine zw1 ?_
 refine zsr ?_
 refine zt rfl (zc rfl (up6_c _)) ?_
 refine zv1 ?_
 refine AWp_seq ?_
 refine zu4 ?_
 refine zsp 17 rfl (fun h1 => ?_) fun h1 => ?_
 ·rw [h1]; replace h1 := zcl h1
  refine zv9 ?_
  refine AWp_condT rfl ?_
  refine zw2 ?_
  refine zrt ?_
  first | exact ResQ_10 rfl hcl trivial (Ret_of rfl) | exact ResQ_1 rfl hcl trivial (Ret_of rfl)
 ·rw [h1]; replace h1 := zcl h1
  refine zg5 ?_
  refine zsp 22 rfl (fun h2 => ?_) fun h2 => ?_
  ·rw [h2]; replace h2 := zcl h2
   refine zv4 ?_
   refine AWp_condT rfl ?_
   refine zw2 ?_
   refine zrt ?_
   first | exact ResQ_10 rfl hcl trivial (Ret_of rfl) | exact ResQ_1 rfl hcl trivial (Ret_of rfl)
  ·rw [h2]; replace h2 := zcl h2
   refine zv4 ?_
   refine AWp_cond rfl (fun h3 => ?_) (fun h3 => ?_)
   ·(try rw [h3]); replace h3 := zcl h3
    refine zw2 ?_
    refine zrt ?_
    first | exact ResQ_10 rfl hcl trivial (Ret_of rfl) | exact ResQ_1 rfl hcl trivial (Ret_of rfl)
   ·(try rw [h3]); replace h3 := zcl h3
    refine AWp_skip ?_
    refine AWp_seq ?_
    refine zw1 ?_
    refine AWp_block ?_
    -- loop 0 LIVE 0:param 1:param 2:param 6:assign 7:assign 8:assign
    refine AWp_loop (ι := Nat) (fun i => i ≤ l.length + m.length ∧ ∀ (j : Nat) x, j < i → (l ++ m)[j]? = some x → x.length ≤ 100) (fun i => ⟨[], [(0, .sl f 1 (srow l)), (1, .sl g 1 (srow m)), (2, .str s), (7, .bool true), (8, .int .i64 (i : Int))]⟩) (fun i => σ) (fun i => l.length + m.length - i) (0) (⟨Nat.zero_le _, fun j x h => absurd h (by omega)⟩) ?_ rfl (fun i hi => ?_)
    ·exact ⟨rfl, rfl, rfl, rfl, rfl, rfl, trivial⟩
    obtain ⟨hi1, hi2⟩ := hi
    refine AWp_seq ?_
    refine zw7 ?_
    refine AWp_cond rfl (fun h4 => ?_) (fun h4 => ?_)
    ·(try rw [h4]); replace h4 := zcl h4
     obtain ⟨x, hx⟩ : ∃ x, (l ++ m)[i]? = some x := ⟨_, List.getElem?_eq_getElem (show i < (l ++ m).length by omega)⟩
     refine AWp_skip ?_
     refine AWp_seq ?_
     refine AWp_block ?_
     refine zsr ?_
     refine zt rfl (op_buildSlice0 (sz := 1) rfl Tryd.underlying48 Tryd.sizeOf9) ?_
     refine zg1 ?_
     refine zt rfl (op_appendNew (sz := 1) (m := l.length) (cs := (srow l).flatten) rfl (.inr ⟨_, rfl⟩) Tryd.underlying48 Tryd.underlying48 Tryd.type9 rfl rfl rfl (by decide) (.inr rfl) (by rw [← srow_len l]; rfl) rfl (by rw [srow_flat]; exact ones_str _) (by show l.length * 16 ≤ _; omega) (by omega) (by rw [srow_flat, List.length_map, Nat.mul_one])) ?_
     refine zg1 ?_
     refine zt rfl (op_appendArrT rfl 0 (sz := 1) (m := m.length) (len := l.length) (cs := (srow m).flatten) rfl (.inr ⟨_, rfl⟩) Tryd.underlying48 Tryd.underlying48 Tryd.type9 rfl rfl rfl (by decide) rfl rfl (by rw [srow_flat, List.length_map, Nat.mul_one]) (by rw [← srow_len m]; rfl) rfl (by rw [srow_flat]; exact ones_str _) (by show (l.length + m.length) * 16 ≤ _; omega) (by omega) (by rw [srow_flat, List.length_map, Nat.mul_one])) ?_
     refine zg1 ?_
     refine zt rfl (op_indexAddrAO (j := 0) rfl Tryd.underlying48 Tryd.sizeOf9 rfl rfl (by omega) (by omega) rfl) ?_
     refine zt rfl (op_load1 rfl Tryd.isAgg9 (ldv_el (j := 0) (i := i) rfl (by rw [srow_flat, srow_flat, ← List.map_append, List.getElem?_map, hx]; rfl) (Nat.mul_one _))) ?_
     refine zv2 ?_
     refine AWp_cond rfl (fun h5 => ?_) (fun h5 => ?_)
     ·(try rw [h5]); replace h5 := zcl h5
      refine zw2 ?_
      refine zrt ?_
      first | exact ResQ_10 rfl hcl trivial (Ret_of rfl) | exact ResQ_1 rfl hcl trivial (Ret_of rfl)
     ·(try rw [h5]); replace h5 := zcl h5
      refine AWp_skip ?_
      refine AWp_regL ?_
      refine zv3 ?_
      refine ⟨i + 1, σ.length, ⟨by omega, fun j y hj hy => ?_⟩, by omega, by simp, ⟨rfl, rfl, rfl, rfl, rfl, rfl, trivial⟩, closed_own 0 hcl trivial, ?_, ?_⟩
      ·by_cases e : j = i
       ·subst e; rw [hx] at hy; cases hy; have : (ba x).size = x.length := ba_size x; omega
       ·exact hi2 j y (by omega) hy
      ·simp [ltE, AV.lt]
      ·simp
    ·(try rw [h4]); replace h4 := zcl h4
     have hA : ∀ x ∈ l ++ m, x.length ≤ 100 := fun x hx => by obtain ⟨j, hj⟩ := List.getElem?_of_mem hx; exact hi2 j x (by have := (List.getElem?_eq_some_iff.1 hj).1; omega) hj
     have hL : ∀ x ∈ l, x.length ≤ 100 := fun x hx => hA x (by simp [hx])
     have hM : ∀ x ∈ m, x.length ≤ 100 := fun x hx => hA x (by simp [hx])
     have hsh0 := shw_len 100 (l ++ m) hA
     have hsh : (shw (l ++ m)).length ≤ 100000 := Nat.le_trans hsh0 (by rw [hlm]; have : (l.length + m.length) * (2 * 100 + 1) ≤ 40 * 201 := Nat.mul_le_mul (by omega) (Nat.le_refl _); omega)
     have hap := congrArg List.length (shw_app l m)
     rw [List.length_append] at hap
     have z1 : (ba (shw l)).size = (shw l).length := ba_size _
     have z2 : (ba (shw m)).size = (shw m).length := ba_size _
     refine AWp_exit ?_
     refine zu1 ?_
     refine zt rfl (zc rfl (pshw_c f l _ (by omega) (fun x hx => by have := hL x hx; omega))) ?_
     refine zg1 ?_
     refine zt rfl (zc rfl (pshw_c g m _ (by omega) (fun x hx => by have := hM x hx; omega))) ?_
     refine zg1 ?_
     rw [ba_app, shw_app]
     refine zt rfl (zc rfl (parse_shw (l ++ m) _ hsh)) ?_
     refine zv5 ?_
     refine AWp_seq ?_
     refine zu4 ?_
     refine ztG rfl rfl (op_buildSlice0 (sz := 1) rfl Tryd.underlying48 Tryd.sizeOf9) ?_
     refine zg1 ?_
     refine ztG rfl rfl (op_appendNew (sz := 1) (m := l.length) (cs := (srow l).flatten) rfl (.inr ⟨_, rfl⟩) Tryd.underlying48 Tryd.underlying48 Tryd.type9 rfl rfl rfl (by decide) (.inr rfl) (by rw [← srow_len l]; rfl) rfl (by rw [srow_flat]; exact ones_str _) (by show l.length * 16 ≤ _; omega) (by omega) (by rw [srow_flat, List.length_map, Nat.mul_one])) ?_
     refine zg1 ?_
     refine ztG rfl rfl (op_appendArrT rfl 0 (sz := 1) (m := m.length) (len := l.length) (cs := (srow m).flatten) rfl (.inr ⟨_, rfl⟩) Tryd.underlying48 Tryd.underlying48 Tryd.type9 rfl rfl rfl (by decide) rfl rfl (by rw [srow_flat, List.length_map, Nat.mul_one]) (by rw [← srow_len m]; rfl) rfl (by rw [srow_flat]; exact ones_str _) (by show (l.length + m.length) * 16 ≤ _; omega) (by omega) (by rw [srow_flat, List.length_map, Nat.mul_one])) ?_
     refine ztG rfl rfl (zc rfl (names2T_c false (l ++ m) _ _ _ _ _ (by rw [srow_flat, srow_flat, ← List.map_append]) hlm.symm (get_own 0) (by omega))) ?_
     refine ztG rfl rfl (op_eqlF rfl rfl rfl (by decide)) ?_
     refine zv1 ?_
     refine AWp_condF rfl ?_
     refine AWp_skip ?_
     refine zu1 ?_
     refine zt rfl (zc rfl (ptrPB_c s _ (by omega))) ?_
     refine zv5 ?_
     refine zu3 ?_
     refine ztG rfl rfl (op_neErr rfl Tryd.underlying26 rfl) ?_
     refine zg1 ?_
     refine zsp 78 rfl (fun h6 => ?_) fun h6 => ?_
     ·rw [h6]; replace h6 := zcl h6
      refine zv7 ?_
      refine zrt ?_
      first | exact ResQ_10 rfl hcl trivial (Ret_of rfl) | exact ResQ_1 rfl hcl trivial (Ret_of rfl)
     ·rw [h6]; replace h6 := zcl h6
      have hpe : pE s.data.toList = none := by cases hq : pE s.data.toList with | none => rfl | some i => rw [hq] at h6; cases h6
      have hpn := pN_len hpe
      have hszl : s.data.toList.length = s.size := Array.length_toList ..
      refine zg1 ?_
      refine ztG rfl rfl (zc rfl (pshw_c false (pN s.data.toList) _ (by have := hpn.1; omega) (fun x hx => by have := hpn.2 x hx; omega))) ?_
      refine zg1 ?_
      refine ztG rfl rfl (op_seqT rfl rfl rfl (by rw [shw_pN hpe, ← ba_eta])) ?_
      refine zv3 ?_
      refine zrt ?_
      first | exact ResQ_10 rfl hcl trivial (Ret_of rfl) | exact ResQ_1 rfl hcl trivial (Ret_of rfl)
end Lg
set_option maxRecDepth 100000
set_option maxHeartbeats 4000000
namespace Go.Proofs.YtnnmpiagmpbebaaDoor
open Go Go.ChangeShapes Go.WideShapes Go.ChangeAt Go.RowKit Go.Lib
open Go.ChangeMaps (open_string shut_string)
noncomputable def ptrBack_lw (os : Os) : World := World.laidAll Tryd.prog os Rows.ptrBackRow.laid
theorem ptrBack_pl : (Rows.ptrBackRow.laid.all fun x => x.2.handleName?.isNone) = true := by kernel_rfl
theorem ptrBack_mh (os : Os) (args : Array Value) : laidMetH Tryd.prog Rows.ptrBackRow.laid ((ptrBack_lw os).forCall (fun _ _ => 0) ⟨#[], args, []⟩).memory := by
  rw [MakeChecks.laidMetH_plain _ _ _ ptrBack_pl]; exact laidMet_laidAll _ (by kernel_rfl) (by kernel_rfl)
theorem ptrBack_lifted (os : Os) (started : os.Started) (H : Type) (enc : TypeId × Value → H) :
    ReturnsInHanded {} Tryd.checked os 7 .any (fun w args => (Rows.ptrBackSpec.pre enc Tryd.prog Tryd.f7 [] false w args ∧ laidMetH Tryd.prog Rows.ptrBackRow.laid w) ∧ sizedMet enc Tryd.prog Tryd.f7 (OpenSpec.ofChange Rows.ptrBackSpec) false w args)
      (Rows.ptrBackSpec.post enc Tryd.prog Tryd.f7 false true false false) := by
  refine Lg.returns_and_shaped (C := Tryd.checked) (X := fun w _ => laidMetH Tryd.prog Rows.ptrBackRow.laid w) (fun _ _ _ hh h => h.of_heap hh) own started (by kernel_rfl) Tryd.func7
    (ChangeSpec.witness_shaped (enc := enc) (C := Tryd.checked) (os := os) (X := fun w _ => laidMetH Tryd.prog Rows.ptrBackRow.laid w) false (ptrBack_lw os) #[.slice none 0 0, .slice none 0 0, .string ⟨#[]⟩] 8 (World.laidAll_os _ _ _)
      (World.shaped_of_ZipB (by kernel_rfl) (by kernel_rfl)) (by kernel_rfl) (by kernel_rfl) (by kernel_rfl) (ptrBack_mh os _)) ?_
  intro W base args ds gs before hval0 hW hL hS
  have hval : ∀ (j : Nat) t v, Tryd.f7.params[j]? = some t → args[j]? = some v → Value.okWide Tryd.prog W .any base t v := hval0
  have hW' := hW
  obtain ⟨p, q, hA0, hV, rfl, hfz, hnd⟩ := hW
  have hA : DataW.TrodAll enc Tryd.prog W 0 (fun _ => true) true Tryd.f7.params.toList args.toList ds p := hA0
  rw [Tryd.params7] at hA hval
  obtain ⟨v0, vs0, d0, ds0, p0, q0, hargs, rfl, rfl, h0, r0⟩ := trodAll_cons hA
  obtain ⟨v1, vs1, d1, ds1, p1, q1, rfl, rfl, rfl, h1, r1⟩ := trodAll_cons r0
  obtain ⟨v2, vs2, d2, ds2, p2, q2, rfl, rfl, rfl, h2, r2⟩ := trodAll_cons r1
  obtain ⟨rfl, rfl, rfl⟩ := trodAll_nil r2
  obtain rfl : args = #[v0, v1, v2] := by cases args; simp_all
  obtain ⟨rfl, rfl⟩ := trodVars_none hV
  obtain ⟨a0, n0, c0, rfl⟩ := okWide_slice Tryd.underlying48 (hval 0 48 v0 rfl rfl)
  obtain ⟨a1, n1, c1, rfl⟩ := okWide_slice Tryd.underlying48 (hval 1 48 v1 rfl rfl)
  obtain ⟨x2, rfl, rfl, rfl, w2⟩ := open_string Tryd.underlying9 (hval 2 9 v2 rfl rfl) h2
  have h0k := h0
  have h1k := h1
  obtain ⟨fu0, hf0⟩ := h0
  obtain ⟨fu1, hf1⟩ := h1
  clear hA0 hval0
  simp only [List.append_nil] at hW'
  have hlt : ∀ x ∈ p0 ++ p1, x.block < W.heap.size := fun x hx => by simpa using hW'.lt x hx
  obtain ⟨l, hl⟩ := Lg.names_V Tryd.underlying48 Tryd.underlying9 (by kernel_rfl) hf0
  obtain ⟨m, hm⟩ := Lg.names_V Tryd.underlying48 Tryd.underlying9 (by kernel_rfl) hf1
  have hcall := Lg.calls_of2 (P := Tryd.prog) (f := 7) (args := [.sl false 1 (Lg.srow l), .sl false 1 (Lg.srow m), .str x2]) (cargs := [.slice a0 n0 c0, .slice a1 n1 c1, .string x2]) (W := W)
    (fun st hs hok => .cons (hl st hs hok) (.cons (hm st hs hok) (.cons (.str _) .nil)))
    (fun hg => by haveI := Lg.ML.of hS hg; exact Lg.ptrBack_c false false l m x2 [])
  refine hcall.mono fun e W' ⟨he, hg⟩ => ?_
  subst he
  refine ⟨_, rfl, _, _, _, [], p0 ++ p1, [], hW', trodAll_mk1 (shut_bool Tryd.underlying4 _), ?_, rfl, hg.frame _, fun h => by cases h⟩
  have ht := trodAll_cons_mk (Below.trod (show laidOutB Tryd.prog = true by kernel_rfl) (by kernel_rfl) (of_decide_eq_true (by kernel_rfl)) h0k hg (fun x hx => hlt x (by simp [hx]))) (trodAll_cons_mk (Below.trod (show laidOutB Tryd.prog = true by kernel_rfl) (by kernel_rfl) (of_decide_eq_true (by kernel_rfl)) h1k hg (fun x hx => hlt x (by simp [hx]))) (trodAll_cons_mk (shut_string Tryd.underlying9 w2) trodAll_mk0))
  simp only [List.append_nil] at ht
  exact ht
theorem ptrBack_holds : Rows.PtrBackSaid :=
  OpenClaim.holds_of_wide 7 Tryd.f7 rfl rfl rfl rfl rfl rfl rfl ⟨rfl, rfl, rfl, rfl, rfl⟩ rfl rfl rfl rfl rfl (by kernel_rfl) Tryd.func7 (by kernel_rfl)
    (of_decide_eq_true (by kernel_rfl)) (by unfold Func.isWrapper; first | (rw [if_pos (by decide +kernel)]; kernel_rfl) | (rw [if_neg (by decide +kernel)]; exact ⟨rfl, rfl⟩))
    (fun os started H enc _ => ptrBack_lifted os started H enc)
end Go.Proofs.YtnnmpiagmpbebaaDoor
