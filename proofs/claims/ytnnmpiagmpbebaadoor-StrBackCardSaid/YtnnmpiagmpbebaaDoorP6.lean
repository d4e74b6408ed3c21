/- A part of the proof of What was quoted is unquoted as it was, whatever stands around it; cut off it is refused; what was unquoted, quoted, is unquoted as it was (StrBack), for all arguments that a machine can hold: B9 Lg40 Lq5 B10 Sh3 Lg41 Lq6 B11 Lq7 B12 Lg42 B14 W3 Lq8 Lp4 Lq9 B15 VSb. -/
import Derived.Test.YtnnmpiagmpbebaaDoorP5
import Derived.Test.YtnnmpiagmpbebaaDoorP4
import Derived.Test.YtnnmpiagmpbebaaDoorP3
import Derived.Shelf.Unicode.DecodeAny
import Derived.Test.YtnnmpiagmpbebaaDoorProg
set_option linter.unusedVariables false
set_option linter.unusedSimpArgs false
set_option linter.unusedSectionVars false
set_option maxRecDepth 20000
set_option maxHeartbeats 4000000
namespace Lg
open Go Go.Proofs Go.RowKit
variable [GLay] 
def errV : Option (Int × Int) → AV
  | none => .nili
  | some z => .iface 85 (.pp [.int .i64 z.1, .int .i64 z.2])
theorem errV_lt (n : Nat) (z : Option (Int × Int)) : (errV z).lt n := by
  cases z <;> simp [errV, AV.lt, AV.ltL]
theorem op_neErr {P : Program} {σ : List AO} {e : Env} {o : Oper} {T T' : TypeId} {x : Operand} {ms : Array (String × TypeId)} {z : Option (Int × Int)} (ho : o.op = .binOp .neq T x (.const .nilIface) T') (hu : P.underlying T = some (.interface ms)) (hx : opO e x = some (errV z)) : AOp P σ e o (.bool z.isSome) σ := by
  cases z with
  | none => exact op_neINil ho hu hx
  | some z => exact op_neIN ho hu hx
theorem wrR (v : Int) {σ : List AO} {s : ByteArray} {i : Int} {a : AV} {l : List UInt8} (ha : a = .ptr σ.length 2 ∨ ∃ U n, a = .nilT σ.length U n ∧ liesAt Tryd.prog Tryd.prog.depth U (n / Tryd.prog.cellsOf U) 2 58 1 = true) (hv0 : 0 ≤ v) (hv1 : v ≤ 1114111) (hs : ¬ (55296 ≤ v ∧ v < 57344)) (hlen : l.length + 4 ≤ 100000000) : ACalls Tryd.prog 79 [.ptr σ.length 2, .int .i32 v] (rdrO σ s i a 5 l) (Ret (.tup [.int .i64 ((rchL v).length : Int), .nili]) (rdrO σ s i (.ptr σ.length 2) 5 (l ++ rchL v))) := by
  have h := wr_c v (rdr_T (s := s) (i := i) (l := l) (P := Tryd.prog) (B := 58) (T := 5) ha) hv0 hv1 hs hlen
  have e : l.length + (rchL v).length = (l ++ rchL v).length := by simp
  rw [e, rdr_set] at h; exact h
theorem wbR (c : UInt8) {σ : List AO} {s : ByteArray} {i : Int} {a : AV} {l : List UInt8} (ha : a = .ptr σ.length 2 ∨ ∃ U n, a = .nilT σ.length U n ∧ liesAt Tryd.prog Tryd.prog.depth U (n / Tryd.prog.cellsOf U) 2 58 1 = true) (hlen : l.length + 1 ≤ 100000000) : ACalls Tryd.prog 31 [.ptr σ.length 2, .int .u8 (c.toNat : Int)] (rdrO σ s i a 5 l) (Ret .nili (rdrO σ s i (.ptr σ.length 2) 5 (l ++ [c]))) := by
  have h := wb_c c (rdr_T (s := s) (i := i) (l := l) (P := Tryd.prog) (B := 58) (T := 5) ha) hlen
  have e : l.length + 1 = (l ++ [c]).length := by simp
  rw [e, rdr_set] at h; exact h
theorem wsR (t : ByteArray) {σ : List AO} {s : ByteArray} {i : Int} {a : AV} {l : List UInt8} (ha : a = .ptr σ.length 2 ∨ ∃ U n, a = .nilT σ.length U n ∧ liesAt Tryd.prog Tryd.prog.depth U (n / Tryd.prog.cellsOf U) 2 58 1 = true) (hlen : l.length + t.size ≤ 100000000) : ACalls Tryd.prog 32 [.ptr σ.length 2, .str t] (rdrO σ s i a 5 l) (Ret (.tup [.int .i64 t.size, .nili]) (rdrO σ s i (.ptr σ.length 2) 5 (l ++ t.data.toList))) := by
  have h := ws_c t (rdr_T (s := s) (i := i) (l := l) (P := Tryd.prog) (B := 58) (T := 5) ha) hlen
  have e : l.length + t.size = (l ++ t.data.toList).length := by rw [List.length_append]; rfl
  rw [e, rdr_set] at h; exact h
theorem hexR (s : ByteArray) (x : Nat) {σ : List AO} {i : Int} {a : AV} {l : List UInt8} (hs : s.size ≤ 1000000) (hx : x ≤ 1000000) : ACalls Tryd.prog 77 [.ptr σ.length 0, .int .i64 (x : Int)] (rdrO σ s i a 5 l) (Ret (.tup [.int .i32 (rhex s x).1, .int .i64 (rhex s x).2]) (rdrO σ s i a 5 l)) := shex_c s x σ.length _ _ rdr_box rfl hs hx
theorem unit_c (s : ByteArray) (i : Nat) {σ : List AO} {a : AV} {l : List UInt8} (ha : a = .ptr σ.length 2 ∨ ∃ U n, a = .nilT σ.length U n ∧ liesAt Tryd.prog Tryd.prog.depth U (n / Tryd.prog.cellsOf U) 2 58 1 = true) (hs : s.size ≤ 1000000) (hi : i + 2 ≤ s.size) (hlen : l.length + 4 ≤ 100000000) : ACalls Tryd.prog 55 [.ptr σ.length 0] (rdrO σ s ((i : Int) + 2) a 5 l) (Ret (errV (uE s i)) (rdrO σ s (uI s i) (if (uE s i) = none then .ptr σ.length 2 else a) 5 (l ++ uO s i))) := by
 refine ACalls_body Tryd.func55 rfl Tryd.ntmps55 (res1 Tryd.results55) (Nat.le_of_ble_eq_true rfl) (fun hcl hal => ?_)
 obtain ⟨hv1, hv2, hv3⟩ := hV_ok s i
 have hv3 := hv3 hi
 have hlo := rlow_iff s (i + 6); rw [show i + 6 + 2 = i + 8 from rfl] at hlo
 have hhx := rhex_ok s (i + 8)
 refine zw1 ?_
 refine zu3 ?_
 refine zt rfl (op_load1 rfl Tryd.isAgg3 (ldv_ptr rdr_box rfl)) ?_
 refine zg1 ?_
 rw [show ((i : Int) + 2 - 2) = (i : Int) by omega]
 refine zv1 ?_
 refine zu4 ?_
 refine zt rfl (op_load1 rfl Tryd.isAgg3 (ldv_ptr rdr_box rfl)) ?_
 refine zt rfl (zc rfl (hexR s (i + 2) hs (by omega))) ?_
 rw [show (rhex s (i + 2)).1 = hV s i from rfl, show (rhex s (i + 2)).2 = hB s i from rfl]
 refine zv5 ?_
 refine AWp_seq ?_
 refine zw2 ?_
 refine AWp_cond rfl (fun h1 => ?_) (fun h1 => ?_)
 ·(try rw [h1]); replace h1 := zcl h1
  refine zu1 ?_
  refine zt rfl (zc rfl (fail_c (hB s i) 1 _)) ?_
  refine zv1 ?_
  refine zrt ?_
  first | (obtain ⟨e1, e2, e3⟩ := u_bad (s := s) (i := i) (by omega); rw [e1, e2, e3]; simp only [List.append_nil, if_pos, if_neg, reduceCtorEq, if_false, if_true]; exact ResQ_1H (by simp only [rdr_len]) rfl (rdr_closed2 hcl (rdr_alt hcl)) (by simp [AV.lt, AV.ltL, errV]) ⟨rfl, rfl⟩) | (obtain ⟨e1, e2, e3⟩ := u_pair (s := s) (i := i) (by omega) ⟨by omega, by omega, hlo.2 ⟨by omega, by omega, by omega, by omega⟩⟩; rw [e1, e2, e3]; simp only [List.append_nil, if_pos, if_neg, reduceCtorEq, if_false, if_true]; exact ResQ_1H (by simp only [rdr_len]) rfl (rdr_closed2 hcl (by rw [rdr_len]; simp [AV.lt])) (by simp [AV.lt, AV.ltL, errV]) ⟨rfl, rfl⟩) | (obtain ⟨e1, e2, e3⟩ := u_sur (s := s) (i := i) (by omega) (by unfold uPair; intro hp; have := hlo.1 hp.2.2; omega) ⟨by omega, by omega⟩; rw [e1, e2, e3]; simp only [List.append_nil, if_pos, if_neg, reduceCtorEq, if_false, if_true]; exact ResQ_1H (by simp only [rdr_len]) rfl (rdr_closed2 hcl (rdr_alt hcl)) (by simp [AV.lt, AV.ltL, errV]) ⟨rfl, rfl⟩) | (obtain ⟨e1, e2, e3⟩ := u_plain (s := s) (i := i) (by omega) (by unfold uPair; intro hp; omega) (by unfold uSur; omega); rw [e1, e2, e3]; simp only [List.append_nil, if_pos, if_neg, reduceCtorEq, if_false, if_true]; exact ResQ_1H (by simp only [rdr_len]) rfl (rdr_closed2 hcl (by rw [rdr_len]; simp [AV.lt])) (by simp [AV.lt, AV.ltL, errV]) ⟨rfl, rfl⟩)
 ·(try rw [h1]); replace h1 := zcl h1
  have hv1 := hv1 (by omega)
  refine AWp_skip ?_
  refine zu3 ?_
  refine zt rfl (op_load1 rfl Tryd.isAgg3 (ldv_ptr rdr_box rfl)) ?_
  refine zg3 ?_
  refine ztN rfl rfl (op_storeP (r := [.str s, .int .i64 ((i : Int) + 6), a, .bts (σ.length + 1) l.length]) rfl Tryd.sizeOf3 rfl rfl rfl rdr_box rfl (by decide)) ?_
  rw [rdr_at]
  refine zon ?_
  refine AWp_seq ?_
  refine AWp_seq ?_
  refine AWp_drawL #[0, 1, 3, 7, 15, 31, 63, 127, 255, 511, 1023, 127, 2175, 6271, 14463, 32767, 65535, 131071] Tryd.mixed (by decide +kernel) (by decide +kernel) ?_
  refine zd3 ?_
  refine zspr 35 rfl (fun h2 => ?_) fun h2 => ?_
  ·rw [h2]; replace h2 := zcl h2
   refine zd4 ?_
   refine zspr 39 rfl (fun h3 => ?_) fun h3 => ?_
   ·rw [h3]; replace h3 := zcl h3
    refine zd3 ?_
    refine yPG rfl rfl rfl (op_load1 rfl Tryd.isAgg9 (ldv_ptr rdr_box rfl)) (trivial) ?_
    refine zd3 ?_
    refine yPG rfl rfl rfl (op_load1 rfl Tryd.isAgg3 (ldv_ptr rdr_box rfl)) (trivial) ?_
    refine zd1 ?_
    rw [show ((i : Int) + 6).toNat = i + 6 by omega, Int.toNat_natCast]
    have hex6 : (s.extract (i + 6) s.size).size = s.size - (i + 6) := by rw [ByteArray.size_extract]; omega
    refine yPG rfl rfl rfl (zc rfl (tHasPreB_c _ _ _ (by omega) (by decide))) (trivial) ?_
    rw [pre_u s (i + 6) (by omega)]
    refine zd1 ?_
    refine RP.nil rfl ?_
    refine AWp_cond rfl (fun h4 => ?_) (fun h4 => ?_)
    ·(try rw [h4]); replace h4 := zcl h4
     refine zu4 ?_
     refine zt rfl (op_load1 rfl Tryd.isAgg3 (ldv_ptr rdr_box rfl)) ?_
     refine zg1 ?_
     refine zt rfl (zc rfl (hexR s (i + 8) hs (by omega))) ?_
     refine zv5 ?_
     refine zu3 ?_
     refine zsp 63 rfl (fun h5 => ?_) fun h5 => ?_
     ·rw [h5]; replace h5 := zcl h5
      refine zg4 ?_
      refine zsp 67 rfl (fun h6 => ?_) fun h6 => ?_
      ·rw [h6]; replace h6 := zcl h6
       refine zv3 ?_
       refine AWp_cond rfl (fun h7 => ?_) (fun h7 => ?_)
       ·(try rw [h7]); replace h7 := zcl h7
        refine zu3 ?_
        refine zt rfl (op_load1 rfl Tryd.isAgg3 (ldv_ptr rdr_box rfl)) ?_
        refine zg3 ?_
        refine ztN rfl rfl (op_storeP (r := [.str s, .int .i64 ((i : Int) + 12), a, .bts (σ.length + 1) l.length]) rfl Tryd.sizeOf3 rfl rfl rfl rdr_box rfl (by decide)) ?_
        rw [rdr_at]
        refine zon ?_
        refine zu4 ?_
        refine zt rfl (op_subW rfl rfl rfl (i32_in (by omega) (by omega))) ?_
        refine zt rfl (op_shl (r := (hV s i - 55296) * 1024) rfl rfl rfl (by decide) (show IntKind.i32.wrap ((hV s i - 55296) * 1024) = _ from i32_in (by omega) (by omega))) ?_
        refine zt rfl (op_addW rfl rfl rfl (i32_in (by omega) (by omega))) ?_
        refine zg1 ?_
        refine zt rfl (op_addW rfl rfl rfl (i32_in (by omega) (by omega))) ?_
        refine zt rfl (op_subW rfl rfl rfl (i32_in (by omega) (by omega))) ?_
        rw [show (65536 + (hV s i - 55296) * 1024 + (rhex s (i + 8)).1 - 56320 : Int) = pairV s i by unfold pairV; rw [rlow_val (s := s) (a := i + 6) (hlo.2 ⟨by omega, by omega, by omega, by omega⟩)]; show _ = 65536 + 1024 * (hV s i - 55296) + (rhex s (i + 8)).1 - 56320; omega]
        have hpv : 65536 ≤ pairV s i ∧ pairV s i ≤ 1114111 := by unfold pairV; rw [rlow_val (s := s) (a := i + 6) (hlo.2 ⟨by omega, by omega, by omega, by omega⟩)]; show 65536 ≤ 65536 + 1024 * (hV s i - 55296) + (rhex s (i + 8)).1 - 56320 ∧ 65536 + 1024 * (hV s i - 55296) + (rhex s (i + 8)).1 - 56320 ≤ 1114111; omega
        refine zt rfl (zc rfl (wrR (pairV s i) ha (by omega) (by omega) (by omega) hlen)) ?_
        refine zon ?_
        refine zw1 ?_
        refine zrt ?_
        first | (obtain ⟨e1, e2, e3⟩ := u_bad (s := s) (i := i) (by omega); rw [e1, e2, e3]; simp only [List.append_nil, if_pos, if_neg, reduceCtorEq, if_false, if_true]; exact ResQ_1H (by simp only [rdr_len]) rfl (rdr_closed2 hcl (rdr_alt hcl)) (by simp [AV.lt, AV.ltL, errV]) ⟨rfl, rfl⟩) | (obtain ⟨e1, e2, e3⟩ := u_pair (s := s) (i := i) (by omega) ⟨by omega, by omega, hlo.2 ⟨by omega, by omega, by omega, by omega⟩⟩; rw [e1, e2, e3]; simp only [List.append_nil, if_pos, if_neg, reduceCtorEq, if_false, if_true]; exact ResQ_1H (by simp only [rdr_len]) rfl (rdr_closed2 hcl (by rw [rdr_len]; simp [AV.lt])) (by simp [AV.lt, AV.ltL, errV]) ⟨rfl, rfl⟩) | (obtain ⟨e1, e2, e3⟩ := u_sur (s := s) (i := i) (by omega) (by unfold uPair; intro hp; have := hlo.1 hp.2.2; omega) ⟨by omega, by omega⟩; rw [e1, e2, e3]; simp only [List.append_nil, if_pos, if_neg, reduceCtorEq, if_false, if_true]; exact ResQ_1H (by simp only [rdr_len]) rfl (rdr_closed2 hcl (rdr_alt hcl)) (by simp [AV.lt, AV.ltL, errV]) ⟨rfl, rfl⟩) | (obtain ⟨e1, e2, e3⟩ := u_plain (s := s) (i := i) (by omega) (by unfold uPair; intro hp; omega) (by unfold uSur; omega); rw [e1, e2, e3]; simp only [List.append_nil, if_pos, if_neg, reduceCtorEq, if_false, if_true]; exact ResQ_1H (by simp only [rdr_len]) rfl (rdr_closed2 hcl (by rw [rdr_len]; simp [AV.lt])) (by simp [AV.lt, AV.ltL, errV]) ⟨rfl, rfl⟩)
       ·(try rw [h7]); replace h7 := zcl h7
        refine AWp_skip ?_
        refine AWp_seq ?_
        refine zu3 ?_
        refine zsp 91 rfl (fun h8 => ?_) fun h8 => ?_
        ·rw [h8]; replace h8 := zcl h8
         refine zv3 ?_
         refine AWp_cond rfl (fun h9 => ?_) (fun h9 => ?_)
         ·(try rw [h9]); replace h9 := zcl h9
          refine zu1 ?_
          refine zt rfl (zc rfl (fail_c (i : Int) 2 _)) ?_
          refine zv1 ?_
          refine zrt ?_
          first | (obtain ⟨e1, e2, e3⟩ := u_bad (s := s) (i := i) (by omega); rw [e1, e2, e3]; simp only [List.append_nil, if_pos, if_neg, reduceCtorEq, if_false, if_true]; exact ResQ_1H (by simp only [rdr_len]) rfl (rdr_closed2 hcl (rdr_alt hcl)) (by simp [AV.lt, AV.ltL, errV]) ⟨rfl, rfl⟩) | (obtain ⟨e1, e2, e3⟩ := u_pair (s := s) (i := i) (by omega) ⟨by omega, by omega, hlo.2 ⟨by omega, by omega, by omega, by omega⟩⟩; rw [e1, e2, e3]; simp only [List.append_nil, if_pos, if_neg, reduceCtorEq, if_false, if_true]; exact ResQ_1H (by simp only [rdr_len]) rfl (rdr_closed2 hcl (by rw [rdr_len]; simp [AV.lt])) (by simp [AV.lt, AV.ltL, errV]) ⟨rfl, rfl⟩) | (obtain ⟨e1, e2, e3⟩ := u_sur (s := s) (i := i) (by omega) (by unfold uPair; intro hp; have := hlo.1 hp.2.2; omega) ⟨by omega, by omega⟩; rw [e1, e2, e3]; simp only [List.append_nil, if_pos, if_neg, reduceCtorEq, if_false, if_true]; exact ResQ_1H (by simp only [rdr_len]) rfl (rdr_closed2 hcl (rdr_alt hcl)) (by simp [AV.lt, AV.ltL, errV]) ⟨rfl, rfl⟩) | (obtain ⟨e1, e2, e3⟩ := u_plain (s := s) (i := i) (by omega) (by unfold uPair; intro hp; omega) (by unfold uSur; omega); rw [e1, e2, e3]; simp only [List.append_nil, if_pos, if_neg, reduceCtorEq, if_false, if_true]; exact ResQ_1H (by simp only [rdr_len]) rfl (rdr_closed2 hcl (by rw [rdr_len]; simp [AV.lt])) (by simp [AV.lt, AV.ltL, errV]) ⟨rfl, rfl⟩)
         ·(try rw [h9]); replace h9 := zcl h9
          refine AWp_skip ?_
          refine zu4 ?_
          refine zt rfl (zc rfl (wrR (hV s i) ha (by omega) (by omega) (by omega) hlen)) ?_
          refine zon ?_
          refine zw1 ?_
          refine zrt ?_
          first | (obtain ⟨e1, e2, e3⟩ := u_bad (s := s) (i := i) (by omega); rw [e1, e2, e3]; simp only [List.append_nil, if_pos, if_neg, reduceCtorEq, if_false, if_true]; exact ResQ_1H (by simp only [rdr_len]) rfl (rdr_closed2 hcl (rdr_alt hcl)) (by simp [AV.lt, AV.ltL, errV]) ⟨rfl, rfl⟩) | (obtain ⟨e1, e2, e3⟩ := u_pair (s := s) (i := i) (by omega) ⟨by omega, by omega, hlo.2 ⟨by omega, by omega, by omega, by omega⟩⟩; rw [e1, e2, e3]; simp only [List.append_nil, if_pos, if_neg, reduceCtorEq, if_false, if_true]; exact ResQ_1H (by simp only [rdr_len]) rfl (rdr_closed2 hcl (by rw [rdr_len]; simp [AV.lt])) (by simp [AV.lt, AV.ltL, errV]) ⟨rfl, rfl⟩) | (obtain ⟨e1, e2, e3⟩ := u_sur (s := s) (i := i) (by omega) (by unfold uPair; intro hp; have := hlo.1 hp.2.2; omega) ⟨by omega, by omega⟩; rw [e1, e2, e3]; simp only [List.append_nil, if_pos, if_neg, reduceCtorEq, if_false, if_true]; exact ResQ_1H (by simp only [rdr_len]) rfl (rdr_closed2 hcl (rdr_alt hcl)) (by simp [AV.lt, AV.ltL, errV]) ⟨rfl, rfl⟩) | (obtain ⟨e1, e2, e3⟩ := u_plain (s := s) (i := i) (by omega) (by unfold uPair; intro hp; omega) (by unfold uSur; omega); rw [e1, e2, e3]; simp only [List.append_nil, if_pos, if_neg, reduceCtorEq, if_false, if_true]; exact ResQ_1H (by simp only [rdr_len]) rfl (rdr_closed2 hcl (by rw [rdr_len]; simp [AV.lt])) (by simp [AV.lt, AV.ltL, errV]) ⟨rfl, rfl⟩)
        ·rw [h8]; replace h8 := zcl h8
         refine zv3 ?_
         refine AWp_condF rfl ?_
         refine AWp_skip ?_
         refine zu4 ?_
         refine zt rfl (zc rfl (wrR (hV s i) ha (by omega) (by omega) (by omega) hlen)) ?_
         refine zon ?_
         refine zw1 ?_
         refine zrt ?_
         first | (obtain ⟨e1, e2, e3⟩ := u_bad (s := s) (i := i) (by omega); rw [e1, e2, e3]; simp only [List.append_nil, if_pos, if_neg, reduceCtorEq, if_false, if_true]; exact ResQ_1H (by simp only [rdr_len]) rfl (rdr_closed2 hcl (rdr_alt hcl)) (by simp [AV.lt, AV.ltL, errV]) ⟨rfl, rfl⟩) | (obtain ⟨e1, e2, e3⟩ := u_pair (s := s) (i := i) (by omega) ⟨by omega, by omega, hlo.2 ⟨by omega, by omega, by omega, by omega⟩⟩; rw [e1, e2, e3]; simp only [List.append_nil, if_pos, if_neg, reduceCtorEq, if_false, if_true]; exact ResQ_1H (by simp only [rdr_len]) rfl (rdr_closed2 hcl (by rw [rdr_len]; simp [AV.lt])) (by simp [AV.lt, AV.ltL, errV]) ⟨rfl, rfl⟩) | (obtain ⟨e1, e2, e3⟩ := u_sur (s := s) (i := i) (by omega) (by unfold uPair; intro hp; have := hlo.1 hp.2.2; omega) ⟨by omega, by omega⟩; rw [e1, e2, e3]; simp only [List.append_nil, if_pos, if_neg, reduceCtorEq, if_false, if_true]; exact ResQ_1H (by simp only [rdr_len]) rfl (rdr_closed2 hcl (rdr_alt hcl)) (by simp [AV.lt, AV.ltL, errV]) ⟨rfl, rfl⟩) | (obtain ⟨e1, e2, e3⟩ := u_plain (s := s) (i := i) (by omega) (by unfold uPair; intro hp; omega) (by unfold uSur; omega); rw [e1, e2, e3]; simp only [List.append_nil, if_pos, if_neg, reduceCtorEq, if_false, if_true]; exact ResQ_1H (by simp only [rdr_len]) rfl (rdr_closed2 hcl (by rw [rdr_len]; simp [AV.lt])) (by simp [AV.lt, AV.ltL, errV]) ⟨rfl, rfl⟩)
      ·rw [h6]; replace h6 := zcl h6
       refine zv3 ?_
       refine AWp_condF rfl ?_
       refine AWp_skip ?_
       refine AWp_seq ?_
       refine zu3 ?_
       refine zsp 91 rfl (fun h10 => ?_) fun h10 => ?_
       ·rw [h10]; replace h10 := zcl h10
        refine zv3 ?_
        refine AWp_cond rfl (fun h11 => ?_) (fun h11 => ?_)
        ·(try rw [h11]); replace h11 := zcl h11
         refine zu1 ?_
         refine zt rfl (zc rfl (fail_c (i : Int) 2 _)) ?_
         refine zv1 ?_
         refine zrt ?_
         first | (obtain ⟨e1, e2, e3⟩ := u_bad (s := s) (i := i) (by omega); rw [e1, e2, e3]; simp only [List.append_nil, if_pos, if_neg, reduceCtorEq, if_false, if_true]; exact ResQ_1H (by simp only [rdr_len]) rfl (rdr_closed2 hcl (rdr_alt hcl)) (by simp [AV.lt, AV.ltL, errV]) ⟨rfl, rfl⟩) | (obtain ⟨e1, e2, e3⟩ := u_pair (s := s) (i := i) (by omega) ⟨by omega, by omega, hlo.2 ⟨by omega, by omega, by omega, by omega⟩⟩; rw [e1, e2, e3]; simp only [List.append_nil, if_pos, if_neg, reduceCtorEq, if_false, if_true]; exact ResQ_1H (by simp only [rdr_len]) rfl (rdr_closed2 hcl (by rw [rdr_len]; simp [AV.lt])) (by simp [AV.lt, AV.ltL, errV]) ⟨rfl, rfl⟩) | (obtain ⟨e1, e2, e3⟩ := u_sur (s := s) (i := i) (by omega) (by unfold uPair; intro hp; have := hlo.1 hp.2.2; omega) ⟨by omega, by omega⟩; rw [e1, e2, e3]; simp only [List.append_nil, if_pos, if_neg, reduceCtorEq, if_false, if_true]; exact ResQ_1H (by simp only [rdr_len]) rfl (rdr_closed2 hcl (rdr_alt hcl)) (by simp [AV.lt, AV.ltL, errV]) ⟨rfl, rfl⟩) | (obtain ⟨e1, e2, e3⟩ := u_plain (s := s) (i := i) (by omega) (by unfold uPair; intro hp; omega) (by unfold uSur; omega); rw [e1, e2, e3]; simp only [List.append_nil, if_pos, if_neg, reduceCtorEq, if_false, if_true]; exact ResQ_1H (by simp only [rdr_len]) rfl (rdr_closed2 hcl (by rw [rdr_len]; simp [AV.lt])) (by simp [AV.lt, AV.ltL, errV]) ⟨rfl, rfl⟩)
        ·(try rw [h11]); replace h11 := zcl h11
         refine AWp_skip ?_
         refine zu4 ?_
         refine zt rfl (zc rfl (wrR (hV s i) ha (by omega) (by omega) (by omega) hlen)) ?_
         refine zon ?_
         refine zw1 ?_
         refine zrt ?_
         first | (obtain ⟨e1, e2, e3⟩ := u_bad (s := s) (i := i) (by omega); rw [e1, e2, e3]; simp only [List.append_nil, if_pos, if_neg, reduceCtorEq, if_false, if_true]; exact ResQ_1H (by simp only [rdr_len]) rfl (rdr_closed2 hcl (rdr_alt hcl)) (by simp [AV.lt, AV.ltL, errV]) ⟨rfl, rfl⟩) | (obtain ⟨e1, e2, e3⟩ := u_pair (s := s) (i := i) (by omega) ⟨by omega, by omega, hlo.2 ⟨by omega, by omega, by omega, by omega⟩⟩; rw [e1, e2, e3]; simp only [List.append_nil, if_pos, if_neg, reduceCtorEq, if_false, if_true]; exact ResQ_1H (by simp only [rdr_len]) rfl (rdr_closed2 hcl (by rw [rdr_len]; simp [AV.lt])) (by simp [AV.lt, AV.ltL, errV]) ⟨rfl, rfl⟩) | (obtain ⟨e1, e2, e3⟩ := u_sur (s := s) (i := i) (by omega) (by unfold uPair; intro hp; have := hlo.1 hp.2.2; omega) ⟨by omega, by omega⟩; rw [e1, e2, e3]; simp only [List.append_nil, if_pos, if_neg, reduceCtorEq, if_false, if_true]; exact ResQ_1H (by simp only [rdr_len]) rfl (rdr_closed2 hcl (rdr_alt hcl)) (by simp [AV.lt, AV.ltL, errV]) ⟨rfl, rfl⟩) | (obtain ⟨e1, e2, e3⟩ := u_plain (s := s) (i := i) (by omega) (by unfold uPair; intro hp; omega) (by unfold uSur; omega); rw [e1, e2, e3]; simp only [List.append_nil, if_pos, if_neg, reduceCtorEq, if_false, if_true]; exact ResQ_1H (by simp only [rdr_len]) rfl (rdr_closed2 hcl (by rw [rdr_len]; simp [AV.lt])) (by simp [AV.lt, AV.ltL, errV]) ⟨rfl, rfl⟩)
       ·rw [h10]; replace h10 := zcl h10
        refine zv3 ?_
        refine AWp_condF rfl ?_
        refine AWp_skip ?_
        refine zu4 ?_
        refine zt rfl (zc rfl (wrR (hV s i) ha (by omega) (by omega) (by omega) hlen)) ?_
        refine zon ?_
        refine zw1 ?_
        refine zrt ?_
        first | (obtain ⟨e1, e2, e3⟩ := u_bad (s := s) (i := i) (by omega); rw [e1, e2, e3]; simp only [List.append_nil, if_pos, if_neg, reduceCtorEq, if_false, if_true]; exact ResQ_1H (by simp only [rdr_len]) rfl (rdr_closed2 hcl (rdr_alt hcl)) (by simp [AV.lt, AV.ltL, errV]) ⟨rfl, rfl⟩) | (obtain ⟨e1, e2, e3⟩ := u_pair (s := s) (i := i) (by omega) ⟨by omega, by omega, hlo.2 ⟨by omega, by omega, by omega, by omega⟩⟩; rw [e1, e2, e3]; simp only [List.append_nil, if_pos, if_neg, reduceCtorEq, if_false, if_true]; exact ResQ_1H (by simp only [rdr_len]) rfl (rdr_closed2 hcl (by rw [rdr_len]; simp [AV.lt])) (by simp [AV.lt, AV.ltL, errV]) ⟨rfl, rfl⟩) | (obtain ⟨e1, e2, e3⟩ := u_sur (s := s) (i := i) (by omega) (by unfold uPair; intro hp; have := hlo.1 hp.2.2; omega) ⟨by omega, by omega⟩; rw [e1, e2, e3]; simp only [List.append_nil, if_pos, if_neg, reduceCtorEq, if_false, if_true]; exact ResQ_1H (by simp only [rdr_len]) rfl (rdr_closed2 hcl (rdr_alt hcl)) (by simp [AV.lt, AV.ltL, errV]) ⟨rfl, rfl⟩) | (obtain ⟨e1, e2, e3⟩ := u_plain (s := s) (i := i) (by omega) (by unfold uPair; intro hp; omega) (by unfold uSur; omega); rw [e1, e2, e3]; simp only [List.append_nil, if_pos, if_neg, reduceCtorEq, if_false, if_true]; exact ResQ_1H (by simp only [rdr_len]) rfl (rdr_closed2 hcl (by rw [rdr_len]; simp [AV.lt])) (by simp [AV.lt, AV.ltL, errV]) ⟨rfl, rfl⟩)
     ·rw [h5]; replace h5 := zcl h5
      refine zv7 ?_
      refine AWp_condF rfl ?_
      refine AWp_skip ?_
      refine AWp_seq ?_
      refine zu3 ?_
      refine zsp 91 rfl (fun h12 => ?_) fun h12 => ?_
      ·rw [h12]; replace h12 := zcl h12
       refine zv3 ?_
       refine AWp_cond rfl (fun h13 => ?_) (fun h13 => ?_)
       ·(try rw [h13]); replace h13 := zcl h13
        refine zu1 ?_
        refine zt rfl (zc rfl (fail_c (i : Int) 2 _)) ?_
        refine zv1 ?_
        refine zrt ?_
        first | (obtain ⟨e1, e2, e3⟩ := u_bad (s := s) (i := i) (by omega); rw [e1, e2, e3]; simp only [List.append_nil, if_pos, if_neg, reduceCtorEq, if_false, if_true]; exact ResQ_1H (by simp only [rdr_len]) rfl (rdr_closed2 hcl (rdr_alt hcl)) (by simp [AV.lt, AV.ltL, errV]) ⟨rfl, rfl⟩) | (obtain ⟨e1, e2, e3⟩ := u_pair (s := s) (i := i) (by omega) ⟨by omega, by omega, hlo.2 ⟨by omega, by omega, by omega, by omega⟩⟩; rw [e1, e2, e3]; simp only [List.append_nil, if_pos, if_neg, reduceCtorEq, if_false, if_true]; exact ResQ_1H (by simp only [rdr_len]) rfl (rdr_closed2 hcl (by rw [rdr_len]; simp [AV.lt])) (by simp [AV.lt, AV.ltL, errV]) ⟨rfl, rfl⟩) | (obtain ⟨e1, e2, e3⟩ := u_sur (s := s) (i := i) (by omega) (by unfold uPair; intro hp; have := hlo.1 hp.2.2; omega) ⟨by omega, by omega⟩; rw [e1, e2, e3]; simp only [List.append_nil, if_pos, if_neg, reduceCtorEq, if_false, if_true]; exact ResQ_1H (by simp only [rdr_len]) rfl (rdr_closed2 hcl (rdr_alt hcl)) (by simp [AV.lt, AV.ltL, errV]) ⟨rfl, rfl⟩) | (obtain ⟨e1, e2, e3⟩ := u_plain (s := s) (i := i) (by omega) (by unfold uPair; intro hp; omega) (by unfold uSur; omega); rw [e1, e2, e3]; simp only [List.append_nil, if_pos, if_neg, reduceCtorEq, if_false, if_true]; exact ResQ_1H (by simp only [rdr_len]) rfl (rdr_closed2 hcl (by rw [rdr_len]; simp [AV.lt])) (by simp [AV.lt, AV.ltL, errV]) ⟨rfl, rfl⟩)
       ·(try rw [h13]); replace h13 := zcl h13
        refine AWp_skip ?_
        refine zu4 ?_
        refine zt rfl (zc rfl (wrR (hV s i) ha (by omega) (by omega) (by omega) hlen)) ?_
        refine zon ?_
        refine zw1 ?_
        refine zrt ?_
        first | (obtain ⟨e1, e2, e3⟩ := u_bad (s := s) (i := i) (by omega); rw [e1, e2, e3]; simp only [List.append_nil, if_pos, if_neg, reduceCtorEq, if_false, if_true]; exact ResQ_1H (by simp only [rdr_len]) rfl (rdr_closed2 hcl (rdr_alt hcl)) (by simp [AV.lt, AV.ltL, errV]) ⟨rfl, rfl⟩) | (obtain ⟨e1, e2, e3⟩ := u_pair (s := s) (i := i) (by omega) ⟨by omega, by omega, hlo.2 ⟨by omega, by omega, by omega, by omega⟩⟩; rw [e1, e2, e3]; simp only [List.append_nil, if_pos, if_neg, reduceCtorEq, if_false, if_true]; exact ResQ_1H (by simp only [rdr_len]) rfl (rdr_closed2 hcl (by rw [rdr_len]; simp [AV.lt])) (by simp [AV.lt, AV.ltL, errV]) ⟨rfl, rfl⟩) | (obtain ⟨e1, e2, e3⟩ := u_sur (s := s) (i := i) (by omega) (by unfold uPair; intro hp; have := hlo.1 hp.2.2; omega) ⟨by omega, by omega⟩; rw [e1, e2, e3]; simp only [List.append_nil, if_pos, if_neg, reduceCtorEq, if_false, if_true]; exact ResQ_1H (by simp only [rdr_len]) rfl (rdr_closed2 hcl (rdr_alt hcl)) (by simp [AV.lt, AV.ltL, errV]) ⟨rfl, rfl⟩) | (obtain ⟨e1, e2, e3⟩ := u_plain (s := s) (i := i) (by omega) (by unfold uPair; intro hp; omega) (by unfold uSur; omega); rw [e1, e2, e3]; simp only [List.append_nil, if_pos, if_neg, reduceCtorEq, if_false, if_true]; exact ResQ_1H (by simp only [rdr_len]) rfl (rdr_closed2 hcl (by rw [rdr_len]; simp [AV.lt])) (by simp [AV.lt, AV.ltL, errV]) ⟨rfl, rfl⟩)
      ·rw [h12]; replace h12 := zcl h12
       refine zv3 ?_
       refine AWp_condF rfl ?_
       refine AWp_skip ?_
       refine zu4 ?_
       refine zt rfl (zc rfl (wrR (hV s i) ha (by omega) (by omega) (by omega) hlen)) ?_
       refine zon ?_
       refine zw1 ?_
       refine zrt ?_
       first | (obtain ⟨e1, e2, e3⟩ := u_bad (s := s) (i := i) (by omega); rw [e1, e2, e3]; simp only [List.append_nil, if_pos, if_neg, reduceCtorEq, if_false, if_true]; exact ResQ_1H (by simp only [rdr_len]) rfl (rdr_closed2 hcl (rdr_alt hcl)) (by simp [AV.lt, AV.ltL, errV]) ⟨rfl, rfl⟩) | (obtain ⟨e1, e2, e3⟩ := u_pair (s := s) (i := i) (by omega) ⟨by omega, by omega, hlo.2 ⟨by omega, by omega, by omega, by omega⟩⟩; rw [e1, e2, e3]; simp only [List.append_nil, if_pos, if_neg, reduceCtorEq, if_false, if_true]; exact ResQ_1H (by simp only [rdr_len]) rfl (rdr_closed2 hcl (by rw [rdr_len]; simp [AV.lt])) (by simp [AV.lt, AV.ltL, errV]) ⟨rfl, rfl⟩) | (obtain ⟨e1, e2, e3⟩ := u_sur (s := s) (i := i) (by omega) (by unfold uPair; intro hp; have := hlo.1 hp.2.2; omega) ⟨by omega, by omega⟩; rw [e1, e2, e3]; simp only [List.append_nil, if_pos, if_neg, reduceCtorEq, if_false, if_true]; exact ResQ_1H (by simp only [rdr_len]) rfl (rdr_closed2 hcl (rdr_alt hcl)) (by simp [AV.lt, AV.ltL, errV]) ⟨rfl, rfl⟩) | (obtain ⟨e1, e2, e3⟩ := u_plain (s := s) (i := i) (by omega) (by unfold uPair; intro hp; omega) (by unfold uSur; omega); rw [e1, e2, e3]; simp only [List.append_nil, if_pos, if_neg, reduceCtorEq, if_false, if_true]; exact ResQ_1H (by simp only [rdr_len]) rfl (rdr_closed2 hcl (by rw [rdr_len]; simp [AV.lt])) (by simp [AV.lt, AV.ltL, errV]) ⟨rfl, rfl⟩)
    ·(try rw [h4]); replace h4 := zcl h4
     refine AWp_skip ?_
     refine AWp_seq ?_
     refine zu3 ?_
     refine zsp 91 rfl (fun h14 => ?_) fun h14 => ?_
     ·rw [h14]; replace h14 := zcl h14
      refine zv3 ?_
      refine AWp_cond rfl (fun h15 => ?_) (fun h15 => ?_)
      ·(try rw [h15]); replace h15 := zcl h15
       refine zu1 ?_
       refine zt rfl (zc rfl (fail_c (i : Int) 2 _)) ?_
       refine zv1 ?_
       refine zrt ?_
       first | (obtain ⟨e1, e2, e3⟩ := u_bad (s := s) (i := i) (by omega); rw [e1, e2, e3]; simp only [List.append_nil, if_pos, if_neg, reduceCtorEq, if_false, if_true]; exact ResQ_1H (by simp only [rdr_len]) rfl (rdr_closed2 hcl (rdr_alt hcl)) (by simp [AV.lt, AV.ltL, errV]) ⟨rfl, rfl⟩) | (obtain ⟨e1, e2, e3⟩ := u_pair (s := s) (i := i) (by omega) ⟨by omega, by omega, hlo.2 ⟨by omega, by omega, by omega, by omega⟩⟩; rw [e1, e2, e3]; simp only [List.append_nil, if_pos, if_neg, reduceCtorEq, if_false, if_true]; exact ResQ_1H (by simp only [rdr_len]) rfl (rdr_closed2 hcl (by rw [rdr_len]; simp [AV.lt])) (by simp [AV.lt, AV.ltL, errV]) ⟨rfl, rfl⟩) | (obtain ⟨e1, e2, e3⟩ := u_sur (s := s) (i := i) (by omega) (by unfold uPair; intro hp; have := hlo.1 hp.2.2; omega) ⟨by omega, by omega⟩; rw [e1, e2, e3]; simp only [List.append_nil, if_pos, if_neg, reduceCtorEq, if_false, if_true]; exact ResQ_1H (by simp only [rdr_len]) rfl (rdr_closed2 hcl (rdr_alt hcl)) (by simp [AV.lt, AV.ltL, errV]) ⟨rfl, rfl⟩) | (obtain ⟨e1, e2, e3⟩ := u_plain (s := s) (i := i) (by omega) (by unfold uPair; intro hp; omega) (by unfold uSur; omega); rw [e1, e2, e3]; simp only [List.append_nil, if_pos, if_neg, reduceCtorEq, if_false, if_true]; exact ResQ_1H (by simp only [rdr_len]) rfl (rdr_closed2 hcl (by rw [rdr_len]; simp [AV.lt])) (by simp [AV.lt, AV.ltL, errV]) ⟨rfl, rfl⟩)
      ·(try rw [h15]); replace h15 := zcl h15
       refine AWp_skip ?_
       refine zu4 ?_
       refine zt rfl (zc rfl (wrR (hV s i) ha (by omega) (by omega) (by omega) hlen)) ?_
       refine zon ?_
       refine zw1 ?_
       refine zrt ?_
       first | (obtain ⟨e1, e2, e3⟩ := u_bad (s := s) (i := i) (by omega); rw [e1, e2, e3]; simp only [List.append_nil, if_pos, if_neg, reduceCtorEq, if_false, if_true]; exact ResQ_1H (by simp only [rdr_len]) rfl (rdr_closed2 hcl (rdr_alt hcl)) (by simp [AV.lt, AV.ltL, errV]) ⟨rfl, rfl⟩) | (obtain ⟨e1, e2, e3⟩ := u_pair (s := s) (i := i) (by omega) ⟨by omega, by omega, hlo.2 ⟨by omega, by omega, by omega, by omega⟩⟩; rw [e1, e2, e3]; simp only [List.append_nil, if_pos, if_neg, reduceCtorEq, if_false, if_true]; exact ResQ_1H (by simp only [rdr_len]) rfl (rdr_closed2 hcl (by rw [rdr_len]; simp [AV.lt])) (by simp [AV.lt, AV.ltL, errV]) ⟨rfl, rfl⟩) | (obtain ⟨e1, e2, e3⟩ := u_sur (s := s) (i := i) (by omega) (by unfold uPair; intro hp; have := hlo.1 hp.2.2; omega) ⟨by omega, by omega⟩; rw [e1, e2, e3]; simp only [List.append_nil, if_pos, if_neg, reduceCtorEq, if_false, if_true]; exact ResQ_1H (by simp only [rdr_len]) rfl (rdr_closed2 hcl (rdr_alt hcl)) (by simp [AV.lt, AV.ltL, errV]) ⟨rfl, rfl⟩) | (obtain ⟨e1, e2, e3⟩ := u_plain (s := s) (i := i) (by omega) (by unfold uPair; intro hp; omega) (by unfold uSur; omega); rw [e1, e2, e3]; simp only [List.append_nil, if_pos, if_neg, reduceCtorEq, if_false, if_true]; exact ResQ_1H (by simp only [rdr_len]) rfl (rdr_closed2 hcl (by rw [rdr_len]; simp [AV.lt])) (by simp [AV.lt, AV.ltL, errV]) ⟨rfl, rfl⟩)
     ·rw [h14]; replace h14 := zcl h14
      refine zv3 ?_
      refine AWp_condF rfl ?_
      refine AWp_skip ?_
      refine zu4 ?_
      refine zt rfl (zc rfl (wrR (hV s i) ha (by omega) (by omega) (by omega) hlen)) ?_
      refine zon ?_
      refine zw1 ?_
      refine zrt ?_
      first | (obtain ⟨e1, e2, e3⟩ := u_bad (s := s) (i := i) (by omega); rw [e1, e2, e3]; simp only [List.append_nil, if_pos, if_neg, reduceCtorEq, if_false, if_true]; exact ResQ_1H (by simp only [rdr_len]) rfl (rdr_closed2 hcl (rdr_alt hcl)) (by simp [AV.lt, AV.ltL, errV]) ⟨rfl, rfl⟩) | (obtain ⟨e1, e2, e3⟩ := u_pair (s := s) (i := i) (by omega) ⟨by omega, by omega, hlo.2 ⟨by omega, by omega, by omega, by omega⟩⟩; rw [e1, e2, e3]; simp only [List.append_nil, if_pos, if_neg, reduceCtorEq, if_false, if_true]; exact ResQ_1H (by simp only [rdr_len]) rfl (rdr_closed2 hcl (by rw [rdr_len]; simp [AV.lt])) (by simp [AV.lt, AV.ltL, errV]) ⟨rfl, rfl⟩) | (obtain ⟨e1, e2, e3⟩ := u_sur (s := s) (i := i) (by omega) (by unfold uPair; intro hp; have := hlo.1 hp.2.2; omega) ⟨by omega, by omega⟩; rw [e1, e2, e3]; simp only [List.append_nil, if_pos, if_neg, reduceCtorEq, if_false, if_true]; exact ResQ_1H (by simp only [rdr_len]) rfl (rdr_closed2 hcl (rdr_alt hcl)) (by simp [AV.lt, AV.ltL, errV]) ⟨rfl, rfl⟩) | (obtain ⟨e1, e2, e3⟩ := u_plain (s := s) (i := i) (by omega) (by unfold uPair; intro hp; omega) (by unfold uSur; omega); rw [e1, e2, e3]; simp only [List.append_nil, if_pos, if_neg, reduceCtorEq, if_false, if_true]; exact ResQ_1H (by simp only [rdr_len]) rfl (rdr_closed2 hcl (by rw [rdr_len]; simp [AV.lt])) (by simp [AV.lt, AV.ltL, errV]) ⟨rfl, rfl⟩)
   ·rw [h3]; replace h3 := zcl h3
    refine zd10 ?_
    refine zd1 ?_
    refine RP.nil rfl ?_
    refine AWp_condF rfl ?_
    refine AWp_skip ?_
    refine AWp_seq ?_
    refine zu3 ?_
    refine zsp 91 rfl (fun h16 => ?_) fun h16 => ?_
    ·rw [h16]; replace h16 := zcl h16
     refine zv3 ?_
     refine AWp_cond rfl (fun h17 => ?_) (fun h17 => ?_)
     ·(try rw [h17]); replace h17 := zcl h17
      refine zu1 ?_
      refine zt rfl (zc rfl (fail_c (i : Int) 2 _)) ?_
      refine zv1 ?_
      refine zrt ?_
      first | (obtain ⟨e1, e2, e3⟩ := u_bad (s := s) (i := i) (by omega); rw [e1, e2, e3]; simp only [List.append_nil, if_pos, if_neg, reduceCtorEq, if_false, if_true]; exact ResQ_1H (by simp only [rdr_len]) rfl (rdr_closed2 hcl (rdr_alt hcl)) (by simp [AV.lt, AV.ltL, errV]) ⟨rfl, rfl⟩) | (obtain ⟨e1, e2, e3⟩ := u_pair (s := s) (i := i) (by omega) ⟨by omega, by omega, hlo.2 ⟨by omega, by omega, by omega, by omega⟩⟩; rw [e1, e2, e3]; simp only [List.append_nil, if_pos, if_neg, reduceCtorEq, if_false, if_true]; exact ResQ_1H (by simp only [rdr_len]) rfl (rdr_closed2 hcl (by rw [rdr_len]; simp [AV.lt])) (by simp [AV.lt, AV.ltL, errV]) ⟨rfl, rfl⟩) | (obtain ⟨e1, e2, e3⟩ := u_sur (s := s) (i := i) (by omega) (by unfold uPair; intro hp; have := hlo.1 hp.2.2; omega) ⟨by omega, by omega⟩; rw [e1, e2, e3]; simp only [List.append_nil, if_pos, if_neg, reduceCtorEq, if_false, if_true]; exact ResQ_1H (by simp only [rdr_len]) rfl (rdr_closed2 hcl (rdr_alt hcl)) (by simp [AV.lt, AV.ltL, errV]) ⟨rfl, rfl⟩) | (obtain ⟨e1, e2, e3⟩ := u_plain (s := s) (i := i) (by omega) (by unfold uPair; intro hp; omega) (by unfold uSur; omega); rw [e1, e2, e3]; simp only [List.append_nil, if_pos, if_neg, reduceCtorEq, if_false, if_true]; exact ResQ_1H (by simp only [rdr_len]) rfl (rdr_closed2 hcl (by rw [rdr_len]; simp [AV.lt])) (by simp [AV.lt, AV.ltL, errV]) ⟨rfl, rfl⟩)
     ·(try rw [h17]); replace h17 := zcl h17
      refine AWp_skip ?_
      refine zu4 ?_
      refine zt rfl (zc rfl (wrR (hV s i) ha (by omega) (by omega) (by omega) hlen)) ?_
      refine zon ?_
      refine zw1 ?_
      refine zrt ?_
      first | (obtain ⟨e1, e2, e3⟩ := u_bad (s := s) (i := i) (by omega); rw [e1, e2, e3]; simp only [List.append_nil, if_pos, if_neg, reduceCtorEq, if_false, if_true]; exact ResQ_1H (by simp only [rdr_len]) rfl (rdr_closed2 hcl (rdr_alt hcl)) (by simp [AV.lt, AV.ltL, errV]) ⟨rfl, rfl⟩) | (obtain ⟨e1, e2, e3⟩ := u_pair (s := s) (i := i) (by omega) ⟨by omega, by omega, hlo.2 ⟨by omega, by omega, by omega, by omega⟩⟩; rw [e1, e2, e3]; simp only [List.append_nil, if_pos, if_neg, reduceCtorEq, if_false, if_true]; exact ResQ_1H (by simp only [rdr_len]) rfl (rdr_closed2 hcl (by rw [rdr_len]; simp [AV.lt])) (by simp [AV.lt, AV.ltL, errV]) ⟨rfl, rfl⟩) | (obtain ⟨e1, e2, e3⟩ := u_sur (s := s) (i := i) (by omega) (by unfold uPair; intro hp; have := hlo.1 hp.2.2; omega) ⟨by omega, by omega⟩; rw [e1, e2, e3]; simp only [List.append_nil, if_pos, if_neg, reduceCtorEq, if_false, if_true]; exact ResQ_1H (by simp only [rdr_len]) rfl (rdr_closed2 hcl (rdr_alt hcl)) (by simp [AV.lt, AV.ltL, errV]) ⟨rfl, rfl⟩) | (obtain ⟨e1, e2, e3⟩ := u_plain (s := s) (i := i) (by omega) (by unfold uPair; intro hp; omega) (by unfold uSur; omega); rw [e1, e2, e3]; simp only [List.append_nil, if_pos, if_neg, reduceCtorEq, if_false, if_true]; exact ResQ_1H (by simp only [rdr_len]) rfl (rdr_closed2 hcl (by rw [rdr_len]; simp [AV.lt])) (by simp [AV.lt, AV.ltL, errV]) ⟨rfl, rfl⟩)
    ·rw [h16]; replace h16 := zcl h16
     refine zv3 ?_
     refine AWp_condF rfl ?_
     refine AWp_skip ?_
     refine zu4 ?_
     refine zt rfl (zc rfl (wrR (hV s i) ha (by omega) (by omega) (by omega) hlen)) ?_
     refine zon ?_
     refine zw1 ?_
     refine zrt ?_
     first | (obtain ⟨e1, e2, e3⟩ := u_bad (s := s) (i := i) (by omega); rw [e1, e2, e3]; simp only [List.append_nil, if_pos, if_neg, reduceCtorEq, if_false, if_true]; exact ResQ_1H (by simp only [rdr_len]) rfl (rdr_closed2 hcl (rdr_alt hcl)) (by simp [AV.lt, AV.ltL, errV]) ⟨rfl, rfl⟩) | (obtain ⟨e1, e2, e3⟩ := u_pair (s := s) (i := i) (by omega) ⟨by omega, by omega, hlo.2 ⟨by omega, by omega, by omega, by omega⟩⟩; rw [e1, e2, e3]; simp only [List.append_nil, if_pos, if_neg, reduceCtorEq, if_false, if_true]; exact ResQ_1H (by simp only [rdr_len]) rfl (rdr_closed2 hcl (by rw [rdr_len]; simp [AV.lt])) (by simp [AV.lt, AV.ltL, errV]) ⟨rfl, rfl⟩) | (obtain ⟨e1, e2, e3⟩ := u_sur (s := s) (i := i) (by omega) (by unfold uPair; intro hp; have := hlo.1 hp.2.2; omega) ⟨by omega, by omega⟩; rw [e1, e2, e3]; simp only [List.append_nil, if_pos, if_neg, reduceCtorEq, if_false, if_true]; exact ResQ_1H (by simp only [rdr_len]) rfl (rdr_closed2 hcl (rdr_alt hcl)) (by simp [AV.lt, AV.ltL, errV]) ⟨rfl, rfl⟩) | (obtain ⟨e1, e2, e3⟩ := u_plain (s := s) (i := i) (by omega) (by unfold uPair; intro hp; omega) (by unfold uSur; omega); rw [e1, e2, e3]; simp only [List.append_nil, if_pos, if_neg, reduceCtorEq, if_false, if_true]; exact ResQ_1H (by simp only [rdr_len]) rfl (rdr_closed2 hcl (by rw [rdr_len]; simp [AV.lt])) (by simp [AV.lt, AV.ltL, errV]) ⟨rfl, rfl⟩)
  ·rw [h2]; replace h2 := zcl h2
   refine zd10 ?_
   refine zd5 ?_
   refine RP.nil rfl ?_
   refine AWp_condF rfl ?_
   refine AWp_skip ?_
   refine AWp_seq ?_
   refine zu3 ?_
   refine zsp 91 rfl (fun h18 => ?_) fun h18 => ?_
   ·rw [h18]; replace h18 := zcl h18
    refine zv3 ?_
    refine AWp_cond rfl (fun h19 => ?_) (fun h19 => ?_)
    ·(try rw [h19]); replace h19 := zcl h19
     refine zu1 ?_
     refine zt rfl (zc rfl (fail_c (i : Int) 2 _)) ?_
     refine zv1 ?_
     refine zrt ?_
     first | (obtain ⟨e1, e2, e3⟩ := u_bad (s := s) (i := i) (by omega); rw [e1, e2, e3]; simp only [List.append_nil, if_pos, if_neg, reduceCtorEq, if_false, if_true]; exact ResQ_1H (by simp only [rdr_len]) rfl (rdr_closed2 hcl (rdr_alt hcl)) (by simp [AV.lt, AV.ltL, errV]) ⟨rfl, rfl⟩) | (obtain ⟨e1, e2, e3⟩ := u_pair (s := s) (i := i) (by omega) ⟨by omega, by omega, hlo.2 ⟨by omega, by omega, by omega, by omega⟩⟩; rw [e1, e2, e3]; simp only [List.append_nil, if_pos, if_neg, reduceCtorEq, if_false, if_true]; exact ResQ_1H (by simp only [rdr_len]) rfl (rdr_closed2 hcl (by rw [rdr_len]; simp [AV.lt])) (by simp [AV.lt, AV.ltL, errV]) ⟨rfl, rfl⟩) | (obtain ⟨e1, e2, e3⟩ := u_sur (s := s) (i := i) (by omega) (by unfold uPair; intro hp; have := hlo.1 hp.2.2; omega) ⟨by omega, by omega⟩; rw [e1, e2, e3]; simp only [List.append_nil, if_pos, if_neg, reduceCtorEq, if_false, if_true]; exact ResQ_1H (by simp only [rdr_len]) rfl (rdr_closed2 hcl (rdr_alt hcl)) (by simp [AV.lt, AV.ltL, errV]) ⟨rfl, rfl⟩) | (obtain ⟨e1, e2, e3⟩ := u_plain (s := s) (i := i) (by omega) (by unfold uPair; intro hp; omega) (by unfold uSur; omega); rw [e1, e2, e3]; simp only [List.append_nil, if_pos, if_neg, reduceCtorEq, if_false, if_true]; exact ResQ_1H (by simp only [rdr_len]) rfl (rdr_closed2 hcl (by rw [rdr_len]; simp [AV.lt])) (by simp [AV.lt, AV.ltL, errV]) ⟨rfl, rfl⟩)
    ·(try rw [h19]); replace h19 := zcl h19
     refine AWp_skip ?_
     refine zu4 ?_
     refine zt rfl (zc rfl (wrR (hV s i) ha (by omega) (by omega) (by omega) hlen)) ?_
     refine zon ?_
     refine zw1 ?_
     refine zrt ?_
     first | (obtain ⟨e1, e2, e3⟩ := u_bad (s := s) (i := i) (by omega); rw [e1, e2, e3]; simp only [List.append_nil, if_pos, if_neg, reduceCtorEq, if_false, if_true]; exact ResQ_1H (by simp only [rdr_len]) rfl (rdr_closed2 hcl (rdr_alt hcl)) (by simp [AV.lt, AV.ltL, errV]) ⟨rfl, rfl⟩) | (obtain ⟨e1, e2, e3⟩ := u_pair (s := s) (i := i) (by omega) ⟨by omega, by omega, hlo.2 ⟨by omega, by omega, by omega, by omega⟩⟩; rw [e1, e2, e3]; simp only [List.append_nil, if_pos, if_neg, reduceCtorEq, if_false, if_true]; exact ResQ_1H (by simp only [rdr_len]) rfl (rdr_closed2 hcl (by rw [rdr_len]; simp [AV.lt])) (by simp [AV.lt, AV.ltL, errV]) ⟨rfl, rfl⟩) | (obtain ⟨e1, e2, e3⟩ := u_sur (s := s) (i := i) (by omega) (by unfold uPair; intro hp; have := hlo.1 hp.2.2; omega) ⟨by omega, by omega⟩; rw [e1, e2, e3]; simp only [List.append_nil, if_pos, if_neg, reduceCtorEq, if_false, if_true]; exact ResQ_1H (by simp only [rdr_len]) rfl (rdr_closed2 hcl (rdr_alt hcl)) (by simp [AV.lt, AV.ltL, errV]) ⟨rfl, rfl⟩) | (obtain ⟨e1, e2, e3⟩ := u_plain (s := s) (i := i) (by omega) (by unfold uPair; intro hp; omega) (by unfold uSur; omega); rw [e1, e2, e3]; simp only [List.append_nil, if_pos, if_neg, reduceCtorEq, if_false, if_true]; exact ResQ_1H (by simp only [rdr_len]) rfl (rdr_closed2 hcl (by rw [rdr_len]; simp [AV.lt])) (by simp [AV.lt, AV.ltL, errV]) ⟨rfl, rfl⟩)
   ·rw [h18]; replace h18 := zcl h18
    refine zv3 ?_
    refine AWp_condF rfl ?_
    refine AWp_skip ?_
    refine zu4 ?_
    refine zt rfl (zc rfl (wrR (hV s i) ha (by omega) (by omega) (by omega) hlen)) ?_
    refine zon ?_
    refine zw1 ?_
    refine zrt ?_
    first | (obtain ⟨e1, e2, e3⟩ := u_bad (s := s) (i := i) (by omega); rw [e1, e2, e3]; simp only [List.append_nil, if_pos, if_neg, reduceCtorEq, if_false, if_true]; exact ResQ_1H (by simp only [rdr_len]) rfl (rdr_closed2 hcl (rdr_alt hcl)) (by simp [AV.lt, AV.ltL, errV]) ⟨rfl, rfl⟩) | (obtain ⟨e1, e2, e3⟩ := u_pair (s := s) (i := i) (by omega) ⟨by omega, by omega, hlo.2 ⟨by omega, by omega, by omega, by omega⟩⟩; rw [e1, e2, e3]; simp only [List.append_nil, if_pos, if_neg, reduceCtorEq, if_false, if_true]; exact ResQ_1H (by simp only [rdr_len]) rfl (rdr_closed2 hcl (by rw [rdr_len]; simp [AV.lt])) (by simp [AV.lt, AV.ltL, errV]) ⟨rfl, rfl⟩) | (obtain ⟨e1, e2, e3⟩ := u_sur (s := s) (i := i) (by omega) (by unfold uPair; intro hp; have := hlo.1 hp.2.2; omega) ⟨by omega, by omega⟩; rw [e1, e2, e3]; simp only [List.append_nil, if_pos, if_neg, reduceCtorEq, if_false, if_true]; exact ResQ_1H (by simp only [rdr_len]) rfl (rdr_closed2 hcl (rdr_alt hcl)) (by simp [AV.lt, AV.ltL, errV]) ⟨rfl, rfl⟩) | (obtain ⟨e1, e2, e3⟩ := u_plain (s := s) (i := i) (by omega) (by unfold uPair; intro hp; omega) (by unfold uSur; omega); rw [e1, e2, e3]; simp only [List.append_nil, if_pos, if_neg, reduceCtorEq, if_false, if_true]; exact ResQ_1H (by simp only [rdr_len]) rfl (rdr_closed2 hcl (by rw [rdr_len]; simp [AV.lt])) (by simp [AV.lt, AV.ltL, errV]) ⟨rfl, rfl⟩)
end Lg
namespace Lg
open Go Go.RowKit
variable [GLay]
variable {P : Program} {σ : List AO} {e : Env} {o : Oper}
theorem op_indexByte {c x y : Operand} {T : Array TypeId} {k : FuncId} {fn : Func} {s : ByteArray} {n : Int} (ho : o.op = .call { callee := .value c, args := #[x, y], argTypes := T }) (hc : opv e c = .func (.func k) [] [])
    (hfn : P.funcs[k]? = some fn) (hname : (fn.name == "runtime.NumGoroutine") = false) (hb : fn.body.isNone = true) (hn : Extern.findNext fn = none) (he : Extern.find fn = some Extern.BytealgIndexByte.indexByte) (hx : opv e x = .str s) (hy : opv e y = .int .u8 n) : AOp P σ e o (.int .i64 (firstIdx s n.toNat.toUInt8)) σ :=
  .of_run fun st a hs g hv => by
    have h1 := (hx ▸ hv x (by simp [ho, Op.operands, Call.operands])).inv_str
    have h5 := (hy ▸ hv y (by simp [ho, Op.operands, Call.operands])).inv_int
    have hcv := hc ▸ hv c (by simp [ho, Op.operands, Call.operands])
    obtain ⟨vf, vc, h2, h3, h4⟩ := hcv.inv_func
    have e3 := h3.inv_nil
    have e4 := h4.inv_nil
    subst e3; subst e4
    refine ⟨_, ?_, .int _ _⟩
    simp only [execOp, ho, resolve, invoke, Deferred.ofValue, h2, Sem.run_bind, Sem.run_pure, Result.andThen_ok, List.map_toArray, List.map_cons, List.map_nil]
    have := run_callFunc_extern hfn hname hb hn he #[.string s, .int .u8 n] st.w
    rw [run_indexByte_string] at this
    simpa [Result.andThen, h1, h5] using this
end Lg
namespace Lg
open Go
def toS : ByteArray := ⟨#[34, 92, 47, 8, 12, 10, 13, 9]⟩
theorem esc_idxf : ∀ c : Fin 256, (firstIdx ⟨#[34, 92, 47, 98, 102, 110, 114, 116]⟩ (UInt8.ofNat c.val) < 0 ∧ esc c.val = none) ∨ (0 ≤ firstIdx ⟨#[34, 92, 47, 98, 102, 110, 114, 116]⟩ (UInt8.ofNat c.val) ∧ firstIdx ⟨#[34, 92, 47, 98, 102, 110, 114, 116]⟩ (UInt8.ofNat c.val) < 8 ∧ esc c.val = some (bat ⟨#[34, 92, 47, 8, 12, 10, 13, 9]⟩ (firstIdx ⟨#[34, 92, 47, 98, 102, 110, 114, 116]⟩ (UInt8.ofNat c.val)).toNat).toNat) := by decide +kernel
theorem esc_idx (c : UInt8) : (firstIdx ⟨#[34, 92, 47, 98, 102, 110, 114, 116]⟩ c < 0 ∧ esc c.toNat = none) ∨ (0 ≤ firstIdx ⟨#[34, 92, 47, 98, 102, 110, 114, 116]⟩ c ∧ firstIdx ⟨#[34, 92, 47, 98, 102, 110, 114, 116]⟩ c < 8 ∧ esc c.toNat = some (bat ⟨#[34, 92, 47, 8, 12, 10, 13, 9]⟩ (firstIdx ⟨#[34, 92, 47, 98, 102, 110, 114, 116]⟩ c).toNat).toNat) := by
  have := esc_idxf ⟨c.toNat, c.toNat_lt⟩
  simp only [UInt8.ofNat_toNat] at this
  exact this
/-- What comes of a backslash. -/
def eE (s : ByteArray) (i : Nat) : Option (Int × Int) := if s.size ≤ i + 1 then some ((s.size : Int), 1) else if (bat s (i + 1)).toNat = 117 then uE s i else if esc (bat s (i + 1)).toNat = none then some ((i : Int) + 1, 1) else none
def eI (s : ByteArray) (i : Nat) : Int := if s.size ≤ i + 1 then (i : Int) + 1 else if (bat s (i + 1)).toNat = 117 then uI s i else (i : Int) + 2
def eO (s : ByteArray) (i : Nat) : List UInt8 := if s.size ≤ i + 1 then [] else if (bat s (i + 1)).toNat = 117 then uO s i else match esc (bat s (i + 1)).toNat with
  | none => []
  | some b => [UInt8.ofNat b]
theorem e_end {s : ByteArray} {i : Nat} (h : s.size ≤ i + 1) : eE s i = some ((s.size : Int), 1) ∧ eI s i = (i : Int) + 1 ∧ eO s i = [] := by unfold eE eI eO; simp only [if_pos h]; exact ⟨trivial, trivial, trivial⟩
theorem e_u {s : ByteArray} {i : Nat} (h : ¬ s.size ≤ i + 1) (h2 : (bat s (i + 1)).toNat = 117) : eE s i = uE s i ∧ eI s i = uI s i ∧ eO s i = uO s i := by unfold eE eI eO; simp only [if_neg h, if_pos h2]; exact ⟨trivial, trivial, trivial⟩
theorem e_no {s : ByteArray} {i : Nat} (h : ¬ s.size ≤ i + 1) (h2 : ¬ (bat s (i + 1)).toNat = 117) (h3 : esc (bat s (i + 1)).toNat = none) : eE s i = some ((i : Int) + 1, 1) ∧ eI s i = (i : Int) + 2 ∧ eO s i = [] := by unfold eE eI eO; simp only [if_neg h, if_neg h2, h3, if_true]; exact ⟨trivial, trivial, trivial⟩
theorem e_yes {s : ByteArray} {i b : Nat} (h : ¬ s.size ≤ i + 1) (h2 : ¬ (bat s (i + 1)).toNat = 117) (h3 : esc (bat s (i + 1)).toNat = some b) : eE s i = none ∧ eI s i = (i : Int) + 2 ∧ eO s i = [UInt8.ofNat b] := by unfold eE eI eO; simp only [if_neg h, if_neg h2, h3, reduceCtorEq, if_false]; exact ⟨trivial, trivial, trivial⟩
end Lg
set_option maxRecDepth 20000
set_option maxHeartbeats 4000000
namespace Lg
open Go Go.Proofs Go.RowKit
variable [GLay] 
theorem sidx_c (s : ByteArray) (c : UInt8) (σ : List AO) : ACalls Tryd.prog 80 [.str s, .int .u8 (c.toNat : Int)] σ (Ret (.int .i64 (firstIdx s c)) σ) := by
 refine ACalls_body Tryd.func80 rfl Tryd.ntmps80 (res1 Tryd.results80) (Nat.le_of_ble_eq_true rfl) (fun hcl hal => ?_)
 refine zw1 ?_
 refine zu2 ?_
 refine zt rfl (op_indexByte rfl rfl Tryd.func104 (by kernel_rfl) (by kernel_rfl) (by kernel_rfl) (by kernel_rfl) rfl rfl) ?_
 rw [show (c.toNat : Int).toNat.toUInt8 = c by simp]
 refine zv1 ?_
 refine zrt ?_
 exact ResQ_10 rfl hcl (by simp [AV.lt, AV.ltL]) ⟨rfl, rfl⟩

theorem tidx_c (s : ByteArray) (c : UInt8) (σ : List AO) : ACalls Tryd.prog 56 [.str s, .int .u8 (c.toNat : Int)] σ (Ret (.int .i64 (firstIdx s c)) σ) := by
 refine ACalls_body Tryd.func56 rfl Tryd.ntmps56 (res1 Tryd.results56) (Nat.le_of_ble_eq_true rfl) (fun hcl hal => ?_)
 refine zw1 ?_
 refine zu2 ?_
 refine zt rfl (zc rfl (sidx_c s c _)) ?_
 refine zv1 ?_
 refine zrt ?_
 exact ResQ_10 rfl hcl (by simp [AV.lt, AV.ltL]) ⟨rfl, rfl⟩

theorem escape_c (s : ByteArray) (i : Nat) {σ : List AO} {a : AV} {l : List UInt8} (ha : a = .ptr σ.length 2 ∨ ∃ U n, a = .nilT σ.length U n ∧ liesAt Tryd.prog Tryd.prog.depth U (n / Tryd.prog.cellsOf U) 2 58 1 = true) (hs : s.size ≤ 1000000) (hi : i + 1 ≤ s.size) (hlen : l.length + 4 ≤ 100000000) : ACalls Tryd.prog 35 [.ptr σ.length 0] (rdrO σ s ((i : Int) + 1) a 5 l) (Ret (errV (eE s i)) (rdrO σ s (eI s i) (if (eE s i) = none then .ptr σ.length 2 else a) 5 (l ++ eO s i))) := by
 refine ACalls_body Tryd.func35 rfl Tryd.ntmps35 (res1 Tryd.results35) (Nat.le_of_ble_eq_true rfl) (fun hcl hal => ?_)
 have hix := esc_idx (bat s (i + 1))
 generalize hk : firstIdx (⟨#[34, 92, 47, 98, 102, 110, 114, 116]⟩ : ByteArray) (bat s (i + 1)) = k at hix
 refine zw1 ?_
 refine AWp_seq ?_
 refine AWp_seq ?_
 refine AWp_drawL #[0, 1, 3, 7, 0, 16, 48, 112, 240, 511] Tryd.mixed (by decide +kernel) (by decide +kernel) ?_
 refine zd3 ?_
 refine yP rfl rfl (op_load1 rfl Tryd.isAgg3 (ldv_ptr rdr_box rfl)) (trivial) ?_
 refine zd3 ?_
 refine yP rfl rfl (op_load1 rfl Tryd.isAgg9 (ldv_ptr rdr_box rfl)) (trivial) ?_
 refine zd2 ?_
 refine RP.nil rfl ?_
 refine AWp_cond rfl (fun h1 => ?_) (fun h1 => ?_)
 ·(try rw [h1]); replace h1 := zcl h1
  refine zu3 ?_
  refine zt rfl (op_load1 rfl Tryd.isAgg9 (ldv_ptr rdr_box rfl)) ?_
  refine zg1 ?_
  refine zt rfl (zc rfl (fail_c (s.size : Int) 1 _)) ?_
  refine zv1 ?_
  refine zrt ?_
  (obtain ⟨e1, e2, e3⟩ := e_end (s := s) (i := i) (by omega); rw [e1, e2, e3]; simp only [List.append_nil, if_pos, if_neg, reduceCtorEq, if_false, if_true]; exact ResQ_1H (by simp only [rdr_len]) rfl (rdr_closed2 hcl (rdr_alt hcl)) (by simp [AV.lt, AV.ltL, errV]) ⟨rfl, rfl⟩)
 ·(try rw [h1]); replace h1 := zcl h1
  refine AWp_skip ?_
  refine AWp_seq ?_
  refine AWp_drawL #[0, 1, 3, 7, 0, 16, 48, 112, 255, 511] Tryd.mixed (by decide +kernel) (by decide +kernel) ?_
  refine zd3 ?_
  refine yP rfl rfl (op_load1 rfl Tryd.isAgg9 (ldv_ptr rdr_box rfl)) (trivial) ?_
  refine zd3 ?_
  refine yP rfl rfl (op_load1 rfl Tryd.isAgg3 (ldv_ptr rdr_box rfl)) (trivial) ?_
  refine zd1 ?_
  rw [show ((i : Int) + 1).toNat = i + 1 by omega]
  refine zd1 ?_
  refine RP.nil rfl ?_
  refine zu3 ?_
  refine zt rfl (op_load1 rfl Tryd.isAgg3 (ldv_ptr rdr_box rfl)) ?_
  refine zg3 ?_
  refine ztN rfl rfl (op_storeP (r := [.str s, .int .i64 ((i : Int) + 1 + 1), a, .bts (σ.length + 1) l.length]) rfl Tryd.sizeOf3 rfl rfl rfl rdr_box rfl (by decide)) ?_
  rw [rdr_at, show ((i : Int) + 1 + 1) = (i : Int) + 2 by omega]
  refine zon ?_
  refine AWp_seq ?_
  refine zw2 ?_
  refine AWp_cond rfl (fun h2 => ?_) (fun h2 => ?_)
  ·(try rw [h2]); replace h2 := zcl h2
   refine zu1 ?_
   refine zt rfl (zc rfl (unit_c s i ha hs (by omega) hlen)) ?_
   refine zv1 ?_
   refine zrt ?_
   obtain ⟨e1, e2, e3⟩ := e_u (s := s) (i := i) (by omega) (by omega)
   rw [e1, e2, e3]
   exact ResQ_1H (by simp only [rdr_len]) rfl (rdr_closed2 hcl (by split; exact (by rw [rdr_len]; simp [AV.lt]); exact rdr_alt hcl)) (errV_lt _ _) ⟨rfl, rfl⟩
  ·(try rw [h2]); replace h2 := zcl h2
   refine AWp_skip ?_
   refine zu1 ?_
   refine zt rfl (zc rfl (tidx_c (⟨#[34, 92, 47, 98, 102, 110, 114, 116]⟩ : ByteArray) (bat s (i + 1)) _)) ?_
   rw [hk]
   refine zv1 ?_
   refine AWp_seq ?_
   refine zw2 ?_
   refine AWp_cond rfl (fun h3 => ?_) (fun h3 => ?_)
   ·(try rw [h3]); replace h3 := zcl h3
    refine zu3 ?_
    refine zt rfl (op_load1 rfl Tryd.isAgg3 (ldv_ptr rdr_box rfl)) ?_
    refine zg1 ?_
    rw [show ((i : Int) + 2 - 1) = (i : Int) + 1 by omega]
    refine zt rfl (zc rfl (fail_c ((i : Int) + 1) 1 _)) ?_
    refine zv1 ?_
    refine zrt ?_
    (obtain ⟨e1, e2, e3⟩ := e_no (s := s) (i := i) (by omega) (by omega) (by rcases hix with h | h; exact h.2; omega); rw [e1, e2, e3]; simp only [List.append_nil, if_pos, if_neg, reduceCtorEq, if_false, if_true]; exact ResQ_1H (by simp only [rdr_len]) rfl (rdr_closed2 hcl (rdr_alt hcl)) (by simp [AV.lt, AV.ltL, errV]) ⟨rfl, rfl⟩)
   ·(try rw [h3]); replace h3 := zcl h3
    refine AWp_skip ?_
    refine AWp_seq ?_
    refine AWp_drawL #[0, 1, 3, 0, 8, 31] Tryd.mixed (by decide +kernel) (by decide +kernel) ?_
    refine zd4 ?_
    refine yA rfl rfl (fun _ => op_index_strB rfl Tryd.underlying9 rfl rfl (by omega) (by rw [show (ByteArray.mk #[34, 92, 47, 8, 12, 10, 13, 9]).size = 8 from rfl]; omega)) ?_
    refine yE rfl rfl (zc rfl (wbR (bat (⟨#[34, 92, 47, 8, 12, 10, 13, 9]⟩ : ByteArray) k.toNat) ha (by omega))) (trivial) (trivial) ?_
    refine RP.nil rfl ?_
    refine zw1 ?_
    refine zrt ?_
    have hix2 : esc (bat s (i + 1)).toNat = some (bat (⟨#[34, 92, 47, 8, 12, 10, 13, 9]⟩ : ByteArray) k.toNat).toNat := by rcases hix with h | h; omega; exact h.2.2
    obtain ⟨e1, e2, e3⟩ := e_yes (s := s) (i := i) (by omega) (by omega) hix2
    rw [e1, e2, e3, if_pos rfl, UInt8.ofNat_toNat]
    exact ResQ_1H (by simp only [rdr_len]) rfl (rdr_closed2 hcl (by rw [rdr_len]; simp [AV.lt])) trivial ⟨rfl, rfl⟩
end Lg
set_option maxRecDepth 20000
set_option maxHeartbeats 4000000
namespace Go.Proofs
open Go.Shelf
def Tryd.lays197_ren : Go.Shelf.Ren := ⟨fun | 197 => 36 | 260 => 57 | n => n, fun | 9 => 9 | 21 => 21 | 3 => 3 | 4 => 4 | 5 => 5 | 105 => 70 | 119 => 105 | 0 => 0 | 46 => 62 | 139 => 108 | 138 => 107 | n => n, fun | 3 => 0 | 4 => 1 | n => n⟩
theorem Tryd.lays197 : Go.Proofs.Lays.n197 Tryd.prog Tryd.lays197_ren := {
  mixed := by kernel_rfl, f197 := Tryd.func36.trans (congrArg some (by kernel_rfl)), f260 := Tryd.func57.trans (congrArg some (by kernel_rfl)), t0 := Tryd.underlying0, a0 := Tryd.isAgg0, z0 := Tryd.sizeOf0, v0 := Tryd.zeroValue0, t3 := Tryd.underlying3, a3 := Tryd.isAgg3, z3 := Tryd.sizeOf3, v3 := Tryd.zeroValue3, t4 := Tryd.underlying4, a4 := Tryd.isAgg4, z4 := Tryd.sizeOf4, v4 := Tryd.zeroValue4, t5 := Tryd.underlying5, a5 := Tryd.isAgg5, z5 := Tryd.sizeOf5, v5 := Tryd.zeroValue5, t9 := Tryd.underlying9, a9 := Tryd.isAgg9, z9 := Tryd.sizeOf9, v9 := Tryd.zeroValue9, t21 := Tryd.underlying21, a21 := Tryd.isAgg21, z21 := Tryd.sizeOf21, v21 := Tryd.zeroValue21, t46 := Tryd.underlying62, a46 := Tryd.isAgg62, z46 := Tryd.sizeOf62, v46 := Tryd.zeroValue62, t105 := Tryd.underlying70, a105 := Tryd.isAgg70, z105 := Tryd.sizeOf70, v105 := Tryd.zeroValue70, t119 := Tryd.underlying105, a119 := Tryd.isAgg105, z119 := Tryd.sizeOf105, t138 := Tryd.underlying107, a138 := Tryd.isAgg107, z138 := Tryd.sizeOf107, v138 := Tryd.zeroValue107, t139 := Tryd.underlying108, a139 := Tryd.isAgg108, z139 := Tryd.sizeOf108, v139 := Tryd.zeroValue108, g3 := by kernel_rfl, g4 := by kernel_rfl }
end Go.Proofs
namespace Lg
open Go Go.Proofs Go.RowKit Go.Lib
variable [GLay] [U8]
theorem decr_c (s : ByteArray) (σ : List AO) : ACalls Tryd.prog 36 [.str s] σ (Ret (.tup [.int .i32 (decodeGo s).1, .int .i64 (decodeGo s).2]) σ) :=
  ACalls_below fun st cargs g hp => by
    rw [hp.str1]
    exact ⟨.tuple #[.int .i32 (decodeGo s).1, .int .i64 (decodeGo s).2], fun _ => .tup [.int .i32 (decodeGo s).1, .int .i64 (decodeGo s).2] [.int .i32 (decodeGo s).1, .int .i64 (decodeGo s).2] rfl (fun i c v h1 h2 => by
        match i, h1, h2 with
        | 0, h1, h2 => cases h1; cases h2; exact .int _ _
        | 1, h1, h2 => cases h1; cases h2; exact .int _ _), Any.utf8_DecodeRuneInString Tryd.lays197 s st.w (U8.tabs _ g.laid)⟩
theorem dec_u8 (s : ByteArray) (a : Nat) (h : a < s.size) : ((decodeGo (s.extract a s.size)).1 = 65533 ∧ (decodeGo (s.extract a s.size)).2 = 1 ∧ u8 s a = 0) ∨ (¬ ((decodeGo (s.extract a s.size)).1 = 65533 ∧ (decodeGo (s.extract a s.size)).2 = 1) ∧ ((decodeGo (s.extract a s.size)).2 : Int) = u8 s a ∧ u8 s a ≠ 0) := by
  have e : s.extract a s.size = ⟨(s.data.toList.drop a).toArray⟩ := by
    have := ba_suf s.data.toList a
    rw [← ba_eta] at this
    exact this
  have hsz : ¬ (s.extract a s.size).size = 0 := by rw [ByteArray.size_extract]; omega
  have hd : decodeGo (s.extract a s.size) = decodeN (s.size - a) (bat s a).toNat (bat s (a + 1)).toNat (bat s (a + 2)).toNat (bat s (a + 3)).toNat := by
    unfold decodeGo
    rw [if_neg hsz, ← decode_bat, e]; rfl
  have hw := decodeL_width (s.data.toList.drop a)
  rw [decode_bat] at hw
  rw [hd]
  unfold u8 u8N
  by_cases hc : (decodeN (s.size - a) (bat s a).toNat (bat s (a + 1)).toNat (bat s (a + 2)).toNat (bat s (a + 3)).toNat).1 = 65533 ∧ (decodeN (s.size - a) (bat s a).toNat (bat s (a + 1)).toNat (bat s (a + 2)).toNat (bat s (a + 3)).toNat).2 = 1
  · exact .inl ⟨hc.1, hc.2, if_pos hc⟩
  · rw [if_neg hc]; exact .inr ⟨hc, rfl, by omega⟩
end Lg
namespace Lg
open Go Go.RowKit
variable [GLay]
variable {P : Program} {N : Nat} {σ : List AO} {e : Env} {Q : QA} {s : ByteArray} {i : Int} {a : AV} {T : TypeId} {l : List UInt8}
theorem AWp_ghostR {c : Code} (T : TypeId) (k : AWp P N c e (rdrO σ s i a T []) Q) : AWp P N c e (σ ++ [.box [.str s, .int .i64 i, a, .nils]]) Q := by
  refine AWp_ghostInB σ.length 3 T (bs := [.str s, .int .i64 i, a, .nils]) (by simp) rfl ?_
  have : ((σ ++ [AO.box [.str s, .int .i64 i, a, .nils]]) ++ [AO.bytes T []]).set σ.length (.box ([AV.str s, .int .i64 i, a, AV.nils].set 3 (.bts (σ ++ [AO.box [.str s, .int .i64 i, a, .nils]]).length 0))) = rdrO σ s i a T [] := by
    rw [List.append_assoc, List.set_append_right _ _ (Nat.le_refl _), Nat.sub_self, List.length_append]
    rfl
  rw [this]; exact k
theorem rdr_boxD : ((rdrO σ s i a T l).set (σ.length + 1) .dead)[σ.length]? = some (.box [.str s, .int .i64 i, a, .bts (σ.length + 1) l.length]) := by
  rw [List.getElem?_set, if_neg (by omega)]; exact rdr_box
theorem rdr_dead : (rdrO σ s i a T l).set (σ.length + 1) .dead = σ ++ [.box [.str s, .int .i64 i, a, .bts (σ.length + 1) l.length], .dead] := by
  unfold rdrO; rw [List.set_append_right _ _ (by omega), Nat.add_sub_cancel_left]; rfl
def errU (u : UR) : Option (Int × Int) := if u.bad = 0 then none else some (u.at_, u.bad)
end Lg
namespace Lg
open Go
theorem ba_rch (out : BL) (v : Int) : ba out ++ rchar v = ba (out ++ rchL v) := by
  rw [ba_eta (rchar v), ba_app]; rfl
/-- One backslash, on both sides. -/
theorem esc_step (s : ByteArray) (a i : Nat) (out : BL) (hi : i < s.size) (h92 : (bat s i).toNat = 92) :
    (∀ z, eE s i = some z → unqF s a i (ba out) = ⟨e0, 0, z.2, z.1⟩ ∧ z.2 ≠ 0) ∧
    (eE s i = none → ∃ j : Nat, eI s i = j ∧ i < j ∧ j ≤ s.size ∧ (eO s i).length ≤ 4 ∧ unqF s a i (ba out) = unqF s a j (ba (out ++ eO s i))) := by
  by_cases h1 : s.size ≤ i + 1
  · obtain ⟨e1, e2, e3⟩ := e_end h1
    rw [e1]
    refine ⟨fun z hz => ?_, fun h => by cases h⟩
    cases hz
    exact ⟨unqF_last (by omega) h92, by simp⟩
  · by_cases h2 : (bat s (i + 1)).toNat = 117
    · obtain ⟨e1, e2, e3⟩ := e_u h1 h2
      obtain ⟨k1, k2, k3⟩ := hV_ok s i
      rw [e1, e2, e3]
      by_cases hb : 0 ≤ hB s i
      · obtain ⟨f1, f2, f3⟩ := u_bad hb
        rw [f1]
        refine ⟨fun z hz => ?_, fun h => by cases h⟩
        cases hz
        exact ⟨unqF_hb (by omega) h92 h2 hb, by simp⟩
      · have k1 := k1 (by omega)
        have hb' : (rhex s (i + 2)).2 < 0 := by unfold hB at hb; omega
        by_cases hp : uPair s i
        · obtain ⟨f1, f2, f3⟩ := u_pair hb hp
          rw [f1, f2, f3]
          refine ⟨fun z hz => (by cases hz), fun _ => ⟨i + 12, by omega, by omega, ?_, (rchar_size _).2, ?_⟩⟩
          · have := (rlow_iff s (i + 6)).1 hp.2.2
            have := rhex_ok s (i + 6 + 2)
            omega
          · rw [unqF_pair (by omega) h92 h2 hb' hp, ba_rch]; rfl
        · by_cases hs : uSur s i
          · obtain ⟨f1, f2, f3⟩ := u_sur hb hp hs
            rw [f1]
            refine ⟨fun z hz => ?_, fun h => by cases h⟩
            cases hz
            exact ⟨unqF_sur (by omega) h92 h2 hb' hp hs, by simp⟩
          · obtain ⟨f1, f2, f3⟩ := u_plain hb hp hs
            rw [f1, f2, f3]
            refine ⟨fun z hz => (by cases hz), fun _ => ⟨i + 6, by omega, by omega, k1.1, (rchar_size _).2, ?_⟩⟩
            rw [unqF_u (by omega) h92 h2 hb' hp hs, ba_rch]; rfl
    · cases h3 : esc (bat s (i + 1)).toNat with
      | none =>
        obtain ⟨e1, e2, e3⟩ := e_no h1 h2 h3
        rw [e1]
        refine ⟨fun z hz => ?_, fun h => by cases h⟩
        cases hz
        exact ⟨unqF_eb (by omega) h92 h2 h3, by simp⟩
      | some b =>
        obtain ⟨e1, e2, e3⟩ := e_yes h1 h2 h3
        rw [e1, e2, e3]
        refine ⟨fun z hz => (by cases hz), fun _ => ⟨i + 2, by omega, by omega, by omega, by simp, ?_⟩⟩
        rw [unqF_e (by omega) h92 h2 h3, show (⟨#[UInt8.ofNat b]⟩ : ByteArray) = ba [UInt8.ofNat b] from rfl, ba_app]
end Lg
set_option maxRecDepth 20000
set_option maxHeartbeats 4000000
namespace Lg
open Go Go.Proofs Go.RowKit
variable [GLay] [U8]
def aOf (σ : List AO) (w : Bool) : AV := if w = true then .ptr σ.length 2 else .nilT σ.length 68 4
theorem aOf_ok (σ : List AO) (w : Bool) : aOf σ w = .ptr σ.length 2 ∨ ∃ U n, aOf σ w = .nilT σ.length U n ∧ liesAt Tryd.prog Tryd.prog.depth U (n / Tryd.prog.cellsOf U) 2 58 1 = true := by
  cases w
  · exact .inr ⟨_, _, rfl, by kernel_rfl⟩
  · exact .inl rfl
theorem aOf_lt (σ : List AO) (w : Bool) : (aOf σ w).lt (σ.length + 2) := by cases w <;> simp [aOf, AV.lt]
theorem unq_out (s : ByteArray) (at_ : Int) (σ : List AO) (hs : s.size ≤ 1000000) (hat : at_ < 0 ∨ (s.size : Int) ≤ at_) : ACalls Tryd.prog 11 [.str s, .int .i64 at_] σ (Ret (.tup [.str (rUnq s at_).s, .int .i64 (rUnq s at_).n, errV (errU (rUnq s at_))]) σ) := by
 refine ACalls_body Tryd.func11 rfl Tryd.ntmps11 (res3 Tryd.results11) (Nat.le_of_ble_eq_true rfl) (fun hcl hal => ?_)
 have hr : rUnq s at_ = ⟨e0, 0, 1, at_⟩ := by unfold rUnq; rw [if_pos hat]
 refine zw3 ?_
 refine AWp_seq ?_
 refine zu3 ?_
 refine zsp 14 rfl (fun h1 => ?_) fun h1 => ?_
 ·rw [h1]; replace h1 := zcl h1
  refine zg10 ?_
  refine zg1 ?_
  refine zon ?_
  refine AWp_condT rfl ?_
  refine zu1 ?_
  refine zt rfl (zc rfl (fail_c at_ 1 _)) ?_
  refine zv3 ?_
  refine zrt ?_
  rw [hr]; exact ResQ_30 rfl rfl rfl hcl (by simp [AV.lt, AV.ltL]) (Ret_of rfl)
 ·rw [h1]; replace h1 := zcl h1
  refine zg6 ?_
  refine zsp 20 rfl (fun h2 => ?_) fun h2 => ?_
  ·rw [h2]; replace h2 := zcl h2
   refine zv5 ?_
   refine AWp_condT rfl ?_
   refine zu1 ?_
   refine zt rfl (zc rfl (fail_c at_ 1 _)) ?_
   refine zv3 ?_
   refine zrt ?_
   rw [hr]; exact ResQ_30 rfl rfl rfl hcl (by simp [AV.lt, AV.ltL]) (Ret_of rfl)
  ·rw [h2]; replace h2 := zcl h2
   exfalso; omega

theorem unq_in (s : ByteArray) (a0 : Nat) (σ : List AO) (hs : s.size ≤ 1000000) (hat : a0 < s.size) : ACalls Tryd.prog 11 [.str s, .int .i64 (a0 : Int)] σ (Ret (.tup [.str (rUnq s (a0 : Int)).s, .int .i64 (rUnq s (a0 : Int)).n, errV (errU (rUnq s (a0 : Int)))]) σ) := by
 refine ACalls_body Tryd.func11 rfl Tryd.ntmps11 (res3 Tryd.results11) (Nat.le_of_ble_eq_true rfl) (fun hcl hal => ?_)
 have hr0 : ¬ (bat s a0).toNat = 34 → rUnq s (a0 : Int) = ⟨e0, 0, 1, (a0 : Int)⟩ := fun h => by unfold rUnq; rw [if_neg (by omega), Int.toNat_natCast, if_pos h]
 have hr1 : (bat s a0).toNat = 34 → rUnq s (a0 : Int) = unqF s a0 (a0 + 1) e0 := fun h => by unfold rUnq; rw [if_neg (by omega), Int.toNat_natCast, if_neg (by omega)]
 refine zw3 ?_
 refine AWp_seq ?_
 refine zu3 ?_
 refine zsp 14 rfl (fun h1 => ?_) fun h1 => ?_
 ·rw [h1]; replace h1 := zcl h1
  exfalso; omega
 ·rw [h1]; replace h1 := zcl h1
  refine zg6 ?_
  refine zsp 20 rfl (fun h2 => ?_) fun h2 => ?_
  ·rw [h2]; replace h2 := zcl h2
   exfalso; omega
  ·rw [h2]; replace h2 := zcl h2
   refine zv5 ?_
   refine AWp_cond rfl (fun h3 => ?_) (fun h3 => ?_)
   ·(try rw [h3]); replace h3 := zcl h3
    refine zu1 ?_
    refine zt rfl (zc rfl (fail_c (a0 : Int) 1 _)) ?_
    refine zv3 ?_
    refine zrt ?_
    rw [hr0 (by omega)]; exact ResQ_30 rfl rfl rfl hcl (by simp [AV.lt, AV.ltL]) (Ret_of rfl)
   ·(try rw [h3]); replace h3 := zcl h3
    refine AWp_skip ?_
    refine zu4 ?_
    refine zt rfl (op_boxT 2 rfl rfl rfl rfl) ?_
    refine zv1 ?_
    refine AWp_seq ?_
    refine AWp_block ?_
    -- loop 0 LIVE 0:param 1:param 4:assign 5:assign 6:assign 7:assign
    refine AWp_ghostR (s := s) (i := (a0 : Int) + 1) (a := .nilT σ.length 68 4) 5 ?_
    refine AWp_loop (ι := Nat × BL × Bool) (fun z => z.1 ≤ s.size ∧ z.2.1.length ≤ 4 * z.1 ∧ rUnq s (a0 : Int) = unqF s a0 z.1 (ba z.2.1)) (fun z => ⟨[], [(0, .str s), (1, .int .i64 (a0 : Int)), (4, .str ⟨#[]⟩), (5, .int .i64 0), (6, .nili), (7, .ptr σ.length 0)]⟩) (fun z => rdrO σ s (z.1 : Int) (aOf σ z.2.2) 5 z.2.1) (fun z => s.size - z.1) ((a0 + 1, [], false)) (⟨by simp only; omega, by simp, hr1 (by omega)⟩) ?_ rfl (fun z hi => ?_)
    ·exact ⟨rfl, rfl, rfl, rfl, rfl, rfl, rfl, trivial⟩
    obtain ⟨i, out, w⟩ := z
    obtain ⟨hi, ho, hu⟩ := hi
    simp only at hi ho hu ⊢
    refine AWp_seq ?_
    refine zu3 ?_
    refine zt rfl (op_load1 rfl Tryd.isAgg3 (ldv_ptr rdr_box rfl)) ?_
    refine zv3 ?_
    refine AWp_cond rfl (fun h4 => ?_) (fun h4 => ?_)
    ·(try rw [h4]); replace h4 := zcl h4
     refine AWp_skip ?_
     refine AWp_block ?_
     refine zu4 ?_
     refine zt rfl (op_load1 rfl Tryd.isAgg3 (ldv_ptr rdr_box rfl)) ?_
     refine zg1 ?_
     simp only [Int.toNat_natCast]
     refine zv1 ?_
     refine AWp_block ?_
     refine zw3 ?_
     refine AWp_cond rfl (fun h5 => ?_) (fun h5 => ?_)
     ·(try rw [h5]); replace h5 := zcl h5
      refine AWp_seq ?_
      refine AWp_drawL #[0, 1, 3, 7, 0, 16, 48, 112, 240, 0, 1008, 15, 4095, 8191] Tryd.mixed (by decide +kernel) (by decide +kernel) ?_
      refine zd3 ?_
      refine yE rfl rfl (zc rfl (bstr_c (rdr_T (aOf_ok σ w)) (by omega))) (trivial) (trivial) ?_
      refine zd3 ?_
      refine yP rfl rfl (op_load1 rfl Tryd.isAgg3 (ldv_ptr rdr_boxD rfl)) (⟨.inr (op_load1 rfl Tryd.isAgg3 (ldv_ptr rdr_box rfl)), trivial⟩) ?_
      refine zd6 ?_
      refine RP.nil rfl ?_
      refine zrt ?_
      rw [hu, unqF_q (by omega) (by omega), rdr_dead]
      exact ResQ_3 rfl rfl rfl hcl (by simp [AV.lt, AV.ltL, errV]) (Ret_of rfl)
     ·(try rw [h5]); replace h5 := zcl h5
      refine zw3 ?_
      refine AWp_cond rfl (fun h6 => ?_) (fun h6 => ?_)
      ·(try rw [h6]); replace h6 := zcl h6
       refine zu3 ?_
       refine zt rfl (op_load1 rfl Tryd.isAgg3 (ldv_ptr rdr_box rfl)) ?_
       refine zt rfl (zc rfl (fail_c (i : Int) 1 _)) ?_
       refine zv3 ?_
       refine zrt ?_
       rw [hu, unqF_ctl (by omega) (by omega)]
       unfold rdrO
       exact ResQ_3 rfl rfl rfl hcl (by simp [AV.lt, AV.ltL, errV]) (Ret_of rfl)
      ·(try rw [h6]); replace h6 := zcl h6
       refine zw3 ?_
       refine AWp_cond rfl (fun h7 => ?_) (fun h7 => ?_)
       ·(try rw [h7]); replace h7 := zcl h7
        refine zu3 ?_
        refine zt rfl (op_load1 rfl Tryd.isAgg3 (ldv_ptr rdr_box rfl)) ?_
        refine zg3 ?_
        refine ztN rfl rfl (op_storeP (r := [.str s, .int .i64 ((i : Int) + 1), aOf σ w, .bts (σ.length + 1) (out).length]) rfl Tryd.sizeOf3 rfl rfl rfl rdr_box rfl (by decide)) ?_
        rw [rdr_at]
        refine zon ?_
        refine zu1 ?_
        refine zt rfl (zc rfl (escape_c s i (aOf_ok σ w) hs (by omega) (by omega))) ?_
        refine zv1 ?_
        refine zu1 ?_
        refine zt rfl (op_neErr rfl Tryd.underlying26 rfl) ?_
        refine zon ?_
        refine AWp_cond rfl (fun h8 => ?_) (fun h8 => ?_)
        ·(try rw [h8]); replace h8 := zcl h8
         refine zw4 ?_
         refine zrt ?_
         obtain ⟨z, hz⟩ : ∃ z, eE s i = some z := by cases hz : eE s i with | none => rw [hz] at h8; cases h8 | some z => exact ⟨z, rfl⟩
         have hst := (esc_step s a0 i out (by omega) (by omega)).1 z hz
         rw [hu, hst.1, hz]
         have hER : errU ⟨e0, 0, z.2, z.1⟩ = some z := by unfold errU; rw [if_neg hst.2]
         rw [hER]
         unfold rdrO
         exact ResQ_3 rfl rfl rfl hcl (by simp [AV.lt, AV.ltL, errV]) (Ret_of rfl)
        ·(try rw [h8]); replace h8 := zcl h8
         refine AWp_skip ?_
         have hn : eE s i = none := by cases hz : eE s i with | none => rfl | some z => rw [hz] at h8; cases h8
         obtain ⟨j, ej, hij, hjs, hol, hstep⟩ := (esc_step s a0 i out (by omega) (by omega)).2 hn
         rw [ej, if_pos hn]
         refine ⟨(j, out ++ eO s i, true), σ.length + 2, ⟨hjs, by simp only [List.length_append]; omega, hu.trans hstep⟩, by simp only; omega, by simp [rdrO], ⟨rfl, rfl, rfl, rfl, rfl, rfl, rfl, trivial⟩, rdr_closed hcl (by simp [AV.lt]), ?_, rdr_take⟩
         simp [ltE, AV.lt]
       ·(try rw [h7]); replace h7 := zcl h7
        refine zu4 ?_
        refine zt rfl (op_load1 rfl Tryd.isAgg3 (ldv_ptr rdr_box rfl)) ?_
        refine zg1 ?_
        simp only [Int.toNat_natCast]
        refine zt rfl (zc rfl (decr_c _ _)) ?_
        have hdu := dec_u8 s i (by omega)
        have hul := u8_le (s := s) (a := i) (by omega)
        generalize (Go.Lib.decodeGo (s.extract i s.size)).1 = dv at hdu ⊢
        generalize (Go.Lib.decodeGo (s.extract i s.size)).2 = dn at hdu ⊢
        refine zv5 ?_
        refine AWp_seq ?_
        refine zu3 ?_
        refine zsp 58 rfl (fun h9 => ?_) fun h9 => ?_
        ·rw [h9]; replace h9 := zcl h9
         refine zv3 ?_
         refine AWp_cond rfl (fun h10 => ?_) (fun h10 => ?_)
         ·(try rw [h10]); replace h10 := zcl h10
          refine zu3 ?_
          refine zt rfl (op_load1 rfl Tryd.isAgg3 (ldv_ptr rdr_box rfl)) ?_
          refine zt rfl (zc rfl (fail_c (i : Int) 2 _)) ?_
          refine zv3 ?_
          refine zrt ?_
          rw [hu, unqF_bad (by omega) (by omega) (by omega) (by omega) (by rcases hdu with h | h; exact h.2.2; exfalso; omega)]
          unfold rdrO
          exact ResQ_3 rfl rfl rfl hcl (by simp [AV.lt, AV.ltL, errV]) (Ret_of rfl)
         ·(try rw [h10]); replace h10 := zcl h10
          refine AWp_skip ?_
          refine AWp_seq ?_
          refine AWp_drawL #[0, 1, 3, 0, 0, 16, 48, 112, 0, 256, 768, 1792, 0, 7936, 16376, 32767] Tryd.mixed (by decide +kernel) (by decide +kernel) ?_
          refine zd7 ?_
          refine yP rfl rfl (op_load1 rfl Tryd.isAgg3 (ldv_ptr rdr_box rfl)) (trivial) ?_
          refine zd3 ?_
          refine yP rfl rfl (op_load1 rfl Tryd.isAgg3 (ldv_ptr rdr_box rfl)) (trivial) ?_
          refine zd3 ?_
          rw [show ((i : Int) + (dn : Int)).toNat = i + dn by omega]
          simp only [Int.toNat_natCast]
          have hxs : (s.extract i (i + dn)).size ≤ dn := by rw [ByteArray.size_extract]; omega
          have hdn : dn ≤ s.size + 1 := by rcases hdu with h | h <;> omega
          refine yE rfl rfl (zc rfl (wsR (s.extract i (i + dn)) (aOf_ok σ w) (by omega))) (⟨.inl rfl, ⟨.inl rfl, trivial⟩⟩) (trivial) ?_
          refine RP.nil rfl ?_
          refine AWp_regL ?_
          refine zg3 ?_
          refine zt rfl (op_load1 rfl Tryd.isAgg3 (ldv_ptr rdr_box rfl)) ?_
          refine zg4 ?_
          refine ztN rfl rfl (op_storeP (r := [.str s, .int .i64 ((i : Int) + (dn : Int)), .ptr σ.length 2, .bts (σ.length + 1) (out ++ (s.extract i (i + dn)).data.toList).length]) rfl Tryd.sizeOf3 rfl rfl rfl rdr_box rfl (by decide)) ?_
          rw [rdr_at]
          refine zon ?_
          have hd : (dn : Int) = u8 s i ∧ u8 s i ≠ 0 := by rcases hdu with h | h; exfalso; omega; exact h.2
          have hdu8 : u8 s i = dn := by omega
          have hx2 : (s.extract i (i + dn)).data.toList.length = dn := by show (s.extract i (i + dn)).size = dn; rw [ByteArray.size_extract]; omega
          have hstep := unqF_plain (s := s) (a := a0) (i := i) (out := ba out) (by omega) (by omega) (by omega) (by omega) (by omega)
          rw [hdu8, ba_eta (s.extract i (i + dn)), ba_app] at hstep
          refine ⟨(i + dn, out ++ (s.extract i (i + dn)).data.toList, true), σ.length + 2, ⟨by simp only; omega, by simp only [List.length_append]; omega, hu.trans hstep⟩, by simp only; omega, by simp [rdrO], ⟨rfl, rfl, rfl, rfl, rfl, rfl, rfl, trivial⟩, rdr_closed hcl (by simp [AV.lt]), ?_, rdr_take⟩
          simp [ltE, AV.lt]
        ·rw [h9]; replace h9 := zcl h9
         refine zv3 ?_
         refine AWp_condF rfl ?_
         refine AWp_skip ?_
         refine AWp_seq ?_
         refine AWp_drawL #[0, 1, 3, 0, 0, 16, 48, 112, 0, 256, 768, 1792, 0, 7936, 16376, 32767] Tryd.mixed (by decide +kernel) (by decide +kernel) ?_
         refine zd7 ?_
         refine yP rfl rfl (op_load1 rfl Tryd.isAgg3 (ldv_ptr rdr_box rfl)) (trivial) ?_
         refine zd3 ?_
         refine yP rfl rfl (op_load1 rfl Tryd.isAgg3 (ldv_ptr rdr_box rfl)) (trivial) ?_
         refine zd3 ?_
         rw [show ((i : Int) + (dn : Int)).toNat = i + dn by omega]
         simp only [Int.toNat_natCast]
         have hxs : (s.extract i (i + dn)).size ≤ dn := by rw [ByteArray.size_extract]; omega
         have hdn : dn ≤ s.size + 1 := by rcases hdu with h | h <;> omega
         refine yE rfl rfl (zc rfl (wsR (s.extract i (i + dn)) (aOf_ok σ w) (by omega))) (⟨.inl rfl, ⟨.inl rfl, trivial⟩⟩) (trivial) ?_
         refine RP.nil rfl ?_
         refine AWp_regL ?_
         refine zg3 ?_
         refine zt rfl (op_load1 rfl Tryd.isAgg3 (ldv_ptr rdr_box rfl)) ?_
         refine zg4 ?_
         refine ztN rfl rfl (op_storeP (r := [.str s, .int .i64 ((i : Int) + (dn : Int)), .ptr σ.length 2, .bts (σ.length + 1) (out ++ (s.extract i (i + dn)).data.toList).length]) rfl Tryd.sizeOf3 rfl rfl rfl rdr_box rfl (by decide)) ?_
         rw [rdr_at]
         refine zon ?_
         have hd : (dn : Int) = u8 s i ∧ u8 s i ≠ 0 := by rcases hdu with h | h; exfalso; omega; exact h.2
         have hdu8 : u8 s i = dn := by omega
         have hx2 : (s.extract i (i + dn)).data.toList.length = dn := by show (s.extract i (i + dn)).size = dn; rw [ByteArray.size_extract]; omega
         have hstep := unqF_plain (s := s) (a := a0) (i := i) (out := ba out) (by omega) (by omega) (by omega) (by omega) (by omega)
         rw [hdu8, ba_eta (s.extract i (i + dn)), ba_app] at hstep
         refine ⟨(i + dn, out ++ (s.extract i (i + dn)).data.toList, true), σ.length + 2, ⟨by simp only; omega, by simp only [List.length_append]; omega, hu.trans hstep⟩, by simp only; omega, by simp [rdrO], ⟨rfl, rfl, rfl, rfl, rfl, rfl, rfl, trivial⟩, rdr_closed hcl (by simp [AV.lt]), ?_, rdr_take⟩
         simp [ltE, AV.lt]
    ·(try rw [h4]); replace h4 := zcl h4
     refine AWp_exit ?_
     refine zu2 ?_
     refine zt rfl (zc rfl (fail_c (s.size : Int) 1 _)) ?_
     refine zv3 ?_
     refine zrt ?_
     rw [hu, unqF_end (by omega)]
     unfold rdrO
     exact ResQ_3 rfl rfl rfl hcl (by simp [AV.lt, AV.ltL, errV]) (Ret_of rfl)
end Lg
namespace Lg
open Go
theorem unqF_zero (s : ByteArray) (a : Nat) : ∀ (k i : Nat) (out : ByteArray), s.size - i ≤ k → (unqF s a i out).bad = 0 → (unqF s a i out).at_ = 0 := by
  intro k
  induction k with
  | zero =>
    intro i out hk h
    rw [unqF_end (by omega)] at h
    simp at h
  | succ k ih =>
    intro i out hk
    rw [unqF]
    split
    · split
      · intro _; rfl
      · split
        · intro h; simp at h
        · split
          · split
            · intro h; simp at h
            · rename_i hu; exact ih _ _ (by omega)
          · split
            · intro h; simp at h
            · split
              · split
                · intro h; simp at h
                · split
                  · exact ih _ _ (by omega)
                  · split
                    · intro h; simp at h
                    · exact ih _ _ (by omega)
              · split
                · intro h; simp at h
                · exact ih _ _ (by omega)
    · intro h; simp at h
theorem rUnq_zero (s : ByteArray) (a : Int) (h : (rUnq s a).bad = 0) : (rUnq s a).at_ = 0 := by
  unfold rUnq at h ⊢
  split at h
  · simp at h
  · rename_i h1
    rw [if_neg h1]
    split at h
    · simp at h
    · rename_i h2
      rw [if_neg h2]; exact unqF_zero s _ (s.size) _ _ (by omega) h
def exS : ByteArray := ⟨#[34, 97, 92, 117, 48, 48, 52, 49, 34]⟩
theorem exS_hex : rhex exS 4 = (65, -1) := by
  unfold rhex
  rw [hexF_go (by decide) (by decide) (by decide), hexF_go (by decide) (by decide) (by decide), hexF_go (by decide) (by decide) (by decide), hexF_go (by decide) (by decide) (by decide), hexF_done]
  rfl
theorem exS_unq : rUnq exS 0 = ⟨⟨#[97, 65]⟩, 9, 0, 0⟩ := by
  have h0 : rUnq exS 0 = unqF exS 0 1 e0 := by
    unfold rUnq; rw [if_neg (by decide), if_neg (by decide)]; rfl
  have hu : u8 exS 1 = 1 := u8N_1 (by decide)
  rw [h0, unqF_plain (by decide) (by decide) (by decide) (by decide) (by rw [hu]; decide), hu,
    unqF_u (by decide) (by decide) (by decide) (by rw [show (1 + 1 + 2) = 4 from rfl, exS_hex]; decide) (by rw [show (1 + 1 + 2) = 4 from rfl, exS_hex]; rintro ⟨h, _⟩; revert h; decide) (by rw [show (1 + 1 + 2) = 4 from rfl, exS_hex]; rintro ⟨h, _⟩; revert h; decide),
    unqF_q (by decide) (by decide), show (1 + 1 + 2) = 4 from rfl, exS_hex]
  rfl
end Lg
set_option maxRecDepth 20000
set_option maxHeartbeats 4000000
namespace Lg
open Go Go.Proofs Go.RowKit
variable [GLay] [U8]
theorem unq_any (s : ByteArray) (at_ : Int) (σ : List AO) (hs : s.size ≤ 1000000) : ACalls Tryd.prog 11 [.str s, .int .i64 at_] σ (Ret (.tup [.str (rUnq s at_).s, .int .i64 (rUnq s at_).n, errV (errU (rUnq s at_))]) σ) := by
  by_cases h : at_ < 0 ∨ (s.size : Int) ≤ at_
  · exact unq_out s at_ σ hs h
  · have := unq_in s at_.toNat σ hs (by omega)
    rwa [show ((at_.toNat : Nat) : Int) = at_ by omega] at this
theorem spot_u (u : UR) (σ : List AO) (h : u.bad = 0 → u.at_ = 0) : ACalls Tryd.prog 51 [errV (errU u)] σ (Ret (.tup [.int .i64 u.bad, .int .i64 u.at_]) σ) := by
  by_cases hb : u.bad = 0
  · have e : errU u = none := by unfold errU; rw [if_pos hb]
    rw [e, hb, h hb]; exact spot_0 σ
  · have e : errU u = some (u.at_, u.bad) := by unfold errU; rw [if_neg hb]
    rw [e]; exact spot_s u.at_ u.bad σ
theorem quoteS_c (s : ByteArray) (σ : List AO) (hs : s.size ≤ 1000000) : ACalls Tryd.prog 10 [.str s] σ (Ret (.str (ba (quoteL s.data.toList))) σ) := by
  have h := quote_c s.data.toList σ hs
  rwa [← ba_eta] at h
theorem rquoteS_c (s : ByteArray) (σ : List AO) (hs : s.size ≤ 1000000) : ACalls Tryd.prog 40 [.str s] σ (Ret (.str (ba (quoteL s.data.toList))) σ) := by
  have h := rquote_c s.data.toList σ hs
  rwa [← ba_eta] at h
theorem ex_unq (σ : List AO) : ACalls Tryd.prog 11 [.str ⟨#[34, 97, 92, 117, 48, 48, 52, 49, 34]⟩, .int .i64 0] σ (Ret (.tup [.str ⟨#[97, 65]⟩, .int .i64 9, .nili]) σ) := by
  have h := unq_any exS 0 σ (by decide)
  rw [exS_unq] at h; exact h
theorem ex_quo (σ : List AO) : ACalls Tryd.prog 10 [.str ⟨#[34, 10]⟩] σ (Ret (.str ⟨#[34, 92, 34, 92, 117, 48, 48, 48, 97, 34]⟩) σ) := quote_c [34, 10] σ (by decide)
theorem up2_c (σ : List AO) : ACalls Tryd.prog 8 [] σ (Ret (.bool true) σ) := by
 refine ACalls_body Tryd.func8 rfl Tryd.ntmps8 (res1 Tryd.results8) (Nat.le_of_ble_eq_true rfl) (fun hcl hal => ?_)
 refine zw1 ?_
 refine zsr ?_
 refine zt rfl (zc rfl (ex_unq _)) ?_
 refine zv7 ?_
 refine zu1 ?_
 refine zt rfl (op_seqT rfl rfl rfl rfl) ?_
 refine zg2 ?_
 refine ztG rfl rfl (op_eqlT rfl rfl rfl rfl) ?_
 refine zg6 ?_
 refine ztG rfl rfl (zc rfl (ex_quo _)) ?_
 refine ztG rfl rfl (op_seqT rfl rfl rfl rfl) ?_
 refine zv2 ?_
 refine zrt ?_
 exact ResQ_10 rfl hcl trivial ⟨rfl, rfl⟩
end Lg
namespace Lg
open Go Go.RowKit
variable [GLay]
variable {P : Program} {σ : List AO} {e : Env} {o : Oper}
theorem tmod_emod (n m : Int) (h : 0 < m) : (if n.tmod m < 0 then n.tmod m + m else n.tmod m) = n % m ∧ -m < n.tmod m ∧ n.tmod m < m := by
  have h1 := Int.emod_nonneg n (show m ≠ 0 by omega)
  have h2 := Int.emod_lt_of_pos n h
  rcases Int.le_total 0 n with hn | hn
  · rw [Int.tmod_eq_emod_of_nonneg hn, if_neg (by omega)]; omega
  · have h3 := Int.tmod_eq_emod (a := n) (b := m)
    split at h3 <;> (split <;> omega)
end Lg
set_option maxRecDepth 20000
set_option maxHeartbeats 4000000
namespace Lg
open Go Go.Proofs Go.RowKit
variable [GLay] [U8]
theorem pick_c (n m : Int) (σ : List AO) (hm : 0 < m) (hm2 : m ≤ 1000000000) : ACalls Tryd.prog 12 [.int .i64 n, .int .i64 m] σ (Ret (.int .i64 (n % m)) σ) := by
 refine ACalls_body Tryd.func12 rfl Tryd.ntmps12 (res1 Tryd.results12) (Nat.le_of_ble_eq_true rfl) (fun hcl hal => ?_)
 obtain ⟨he, hlo, hup⟩ := tmod_emod n m hm
 refine zw1 ?_
 refine zu2 ?_
 refine zt rfl (op_remT rfl rfl rfl (by omega)) ?_
 refine zv1 ?_
 refine AWp_seq ?_
 refine zw2 ?_
 refine AWp_cond rfl (fun h1 => ?_) (fun h1 => ?_)
 ·(try rw [h1]); replace h1 := zcl h1
  refine AWp_regL ?_
  refine zv4 ?_
  refine zw2 ?_
  refine zrt ?_
  first | (rw [if_pos (by assumption)] at he; rw [← he]; exact ResQ_10 rfl hcl trivial (Ret_of rfl)) | (rw [if_neg (by omega)] at he; rw [← he]; exact ResQ_10 rfl hcl trivial (Ret_of rfl))
 ·(try rw [h1]); replace h1 := zcl h1
  refine AWp_skip ?_
  refine zw2 ?_
  refine zrt ?_
  first | (rw [if_pos (by assumption)] at he; rw [← he]; exact ResQ_10 rfl hcl trivial (Ret_of rfl)) | (rw [if_neg (by omega)] at he; rw [← he]; exact ResQ_10 rfl hcl trivial (Ret_of rfl))
end Lg
set_option maxRecDepth 20000
set_option maxHeartbeats 4000000
namespace Lg
open Go Go.Proofs Go.RowKit
variable [GLay] 
theorem utf8_c (s : ByteArray) (a : Int) (σ : List AO) (hs : s.size ≤ 140737488355328) (h0 : 0 ≤ a) (ha : a < s.size) : ACalls Tryd.prog 30 [.str s, .int .i64 a] σ (Ret (.int .i64 (u8 s a.toNat : Int)) σ) := by
 refine ACalls_body Tryd.func30 rfl Tryd.ntmps30 (res1 Tryd.results30) (Nat.le_of_ble_eq_true rfl) (fun hcl hal => ?_)
 have c0 := bat_lt s a.toNat
 have c1 := bat_lt s (a.toNat + 1)
 have c2 := bat_lt s (a.toNat + 2)
 have c3 := bat_lt s (a.toNat + 3)
 refine zw1 ?_
 refine zw5 ?_
 refine AWp_seq ?_
 refine zw2 ?_
 refine AWp_cond rfl (fun h1 => ?_) (fun h1 => ?_)
 ·(try rw [h1]); replace h1 := zcl h1
  refine zw1 ?_
  refine zrt ?_
  refine ResQ_10 rfl hcl trivial (Ret_of ?_)
  congr 1
  unfold u8
  first | rw [u8N_1 (by omega)] | rw [u8N_2 (by omega) (by omega)] | rw [u8N_3 (by omega) (by omega) rfl] | rw [u8N_4 (by omega) (by omega) rfl] | rw [u8N_0 (by omega) (by omega)]
  all_goals (try split) <;> omega
 ·(try rw [h1]); replace h1 := zcl h1
  refine AWp_skip ?_
  refine zw1 ?_
  refine zw1 ?_
  refine zw1 ?_
  refine AWp_seq ?_
  refine zu3 ?_
  refine zsp 19 rfl (fun h2 => ?_) fun h2 => ?_
  ·rw [h2]; replace h2 := zcl h2
   refine zv3 ?_
   refine AWp_cond rfl (fun h3 => ?_) (fun h3 => ?_)
   ·(try rw [h3]); replace h3 := zcl h3
    refine zw1 ?_
    refine zw1 ?_
    refine AWp_regL ?_
    refine zv3 ?_
    refine AWp_seq ?_
    refine zw6 ?_
    refine AWp_cond rfl (fun h4 => ?_) (fun h4 => ?_)
    ·(try rw [h4]); replace h4 := zcl h4
     refine zw1 ?_
     refine zrt ?_
     refine ResQ_10 rfl hcl trivial (Ret_of ?_)
     congr 1
     unfold u8
     first | rw [u8N_1 (by omega)] | rw [u8N_2 (by omega) (by omega)] | rw [u8N_3 (by omega) (by omega) rfl] | rw [u8N_4 (by omega) (by omega) rfl] | rw [u8N_0 (by omega) (by omega)]
     all_goals (try split) <;> omega
    ·(try rw [h4]); replace h4 := zcl h4
     refine AWp_skip ?_
     refine AWp_seq ?_
     refine zw1 ?_
     refine AWp_block ?_
     -- loop 0 LIVE 0:param 1:param 4:assign 6:assign 7:assign 8:assign 9:assign
     refine AWp_loop (ι := Nat × Int) (fun p => (p.1 = 1 ∧ p.2 = ((bat s a.toNat).toNat : Int) - 192) ∨ (p.1 = 2 ∧ 128 ≤ ((bat s (a.toNat + 1)).toNat : Int) ∧ ((bat s (a.toNat + 1)).toNat : Int) < 192 ∧ p.2 = (64 * (((bat s a.toNat).toNat : Int) - 192) + (((bat s (a.toNat + 1)).toNat : Int) - 128)))) (fun p => ⟨[], [(0, .str s), (1, .int .i64 a), (6, .int .i64 2), (7, .int .i64 128), (8, .int .i64 p.2), (9, .int .i64 (p.1 : Int))]⟩) (fun p => σ) (fun p => 2 - p.1) ((1, ((bat s a.toNat).toNat : Int) - 192)) (.inl ⟨rfl, rfl⟩) ?_ rfl (fun p hp => ?_)
     ·exact ⟨rfl, rfl, rfl, rfl, rfl, rfl, rfl, trivial⟩
     obtain ⟨i, v⟩ := p
     simp only at hp ⊢
     have ci := bat_lt s (a + (i : Int)).toNat
     have k1 : i = 1 → (bat s (a + (i : Int)).toNat).toNat = (bat s (a.toNat + 1)).toNat := fun h => by rw [h]; congr 2; omega
     have k2 : i = 2 → (bat s (a + (i : Int)).toNat).toNat = (bat s (a.toNat + 2)).toNat := fun h => by rw [h]; congr 2; omega
     have k3 : i = 3 → (bat s (a + (i : Int)).toNat).toNat = (bat s (a.toNat + 3)).toNat := fun h => by rw [h]; congr 2; omega
     refine AWp_seq ?_
     refine zw3 ?_
     refine AWp_cond rfl (fun h5 => ?_) (fun h5 => ?_)
     ·(try rw [h5]); replace h5 := zcl h5
      refine AWp_skip ?_
      refine AWp_seq ?_
      refine AWp_block ?_
      refine zw7 ?_
      refine AWp_seq ?_
      refine zu3 ?_
      refine zsp 60 rfl (fun h6 => ?_) fun h6 => ?_
      ·rw [h6]; replace h6 := zcl h6
       refine zv3 ?_
       refine AWp_condT rfl ?_
       refine zw1 ?_
       refine zrt ?_
       refine ResQ_10 rfl hcl trivial (Ret_of ?_)
       congr 1
       unfold u8
       first | rw [u8N_1 (by omega)] | rw [u8N_2 (by omega) (by omega)] | rw [u8N_3 (by omega) (by omega) rfl] | rw [u8N_4 (by omega) (by omega) rfl] | rw [u8N_0 (by omega) (by omega)]
       all_goals (try split) <;> omega
      ·rw [h6]; replace h6 := zcl h6
       refine zv3 ?_
       refine AWp_cond rfl (fun h7 => ?_) (fun h7 => ?_)
       ·(try rw [h7]); replace h7 := zcl h7
        refine zw1 ?_
        refine zrt ?_
        refine ResQ_10 rfl hcl trivial (Ret_of ?_)
        congr 1
        unfold u8
        first | rw [u8N_1 (by omega)] | rw [u8N_2 (by omega) (by omega)] | rw [u8N_3 (by omega) (by omega) rfl] | rw [u8N_4 (by omega) (by omega) rfl] | rw [u8N_0 (by omega) (by omega)]
        all_goals (try split) <;> omega
       ·(try rw [h7]); replace h7 := zcl h7
        refine AWp_skip ?_
        refine AWp_regL ?_
        refine zv6 ?_
        refine AWp_regL ?_
        refine zv3 ?_
        refine ⟨(i + 1, _), σ.length, ?_, ?_, Nat.le_refl _, ⟨rfl, rfl, rfl, rfl, rfl, rfl, rfl, trivial⟩, hcl, ?_, List.take_length⟩
        ·simp only; omega
        ·simp only; omega
        ·simp [ltE, AV.lt]
     ·(try rw [h5]); replace h5 := zcl h5
      refine AWp_exit ?_
      refine AWp_seq ?_
      refine zu4 ?_
      refine zsp 72 rfl (fun h8 => ?_) fun h8 => ?_
      ·rw [h8]; replace h8 := zcl h8
       refine zg10 ?_
       refine zg1 ?_
       refine zon ?_
       refine AWp_condT rfl ?_
       refine zw1 ?_
       refine zrt ?_
       refine ResQ_10 rfl hcl trivial (Ret_of ?_)
       congr 1
       unfold u8
       first | rw [u8N_1 (by omega)] | rw [u8N_2 (by omega) (by omega)] | rw [u8N_3 (by omega) (by omega) rfl] | rw [u8N_4 (by omega) (by omega) rfl] | rw [u8N_0 (by omega) (by omega)]
       all_goals (try split) <;> omega
      ·rw [h8]; replace h8 := zcl h8
       refine zg4 ?_
       refine zsp 76 rfl (fun h9 => ?_) fun h9 => ?_
       ·rw [h9]; replace h9 := zcl h9
        refine zv7 ?_
        refine AWp_condT rfl ?_
        refine zw1 ?_
        refine zrt ?_
        refine ResQ_10 rfl hcl trivial (Ret_of ?_)
        congr 1
        unfold u8
        first | rw [u8N_1 (by omega)] | rw [u8N_2 (by omega) (by omega)] | rw [u8N_3 (by omega) (by omega) rfl] | rw [u8N_4 (by omega) (by omega) rfl] | rw [u8N_0 (by omega) (by omega)]
        all_goals (try split) <;> omega
       ·rw [h9]; replace h9 := zcl h9
        refine zg3 ?_
        refine zsp 79 rfl (fun h10 => ?_) fun h10 => ?_
        ·rw [h10]; replace h10 := zcl h10
         refine zv4 ?_
         refine AWp_cond rfl (fun h11 => ?_) (fun h11 => ?_)
         ·(try rw [h11]); replace h11 := zcl h11
          refine zw1 ?_
          refine zrt ?_
          refine ResQ_10 rfl hcl trivial (Ret_of ?_)
          congr 1
          unfold u8
          first | rw [u8N_1 (by omega)] | rw [u8N_2 (by omega) (by omega)] | rw [u8N_3 (by omega) (by omega) rfl] | rw [u8N_4 (by omega) (by omega) rfl] | rw [u8N_0 (by omega) (by omega)]
          all_goals (try split) <;> omega
         ·(try rw [h11]); replace h11 := zcl h11
          refine AWp_skip ?_
          refine zw2 ?_
          refine zrt ?_
          refine ResQ_10 rfl hcl trivial (Ret_of ?_)
          congr 1
          unfold u8
          first | rw [u8N_1 (by omega)] | rw [u8N_2 (by omega) (by omega)] | rw [u8N_3 (by omega) (by omega) rfl] | rw [u8N_4 (by omega) (by omega) rfl] | rw [u8N_0 (by omega) (by omega)]
          all_goals (try split) <;> omega
        ·rw [h10]; replace h10 := zcl h10
         refine zv4 ?_
         refine AWp_condF rfl ?_
         refine AWp_skip ?_
         refine zw2 ?_
         refine zrt ?_
         refine ResQ_10 rfl hcl trivial (Ret_of ?_)
         congr 1
         unfold u8
         first | rw [u8N_1 (by omega)] | rw [u8N_2 (by omega) (by omega)] | rw [u8N_3 (by omega) (by omega) rfl] | rw [u8N_4 (by omega) (by omega) rfl] | rw [u8N_0 (by omega) (by omega)]
         all_goals (try split) <;> omega
   ·(try rw [h3]); replace h3 := zcl h3
    refine zu3 ?_
    refine zsp 27 rfl (fun h12 => ?_) fun h12 => ?_
    ·rw [h12]; replace h12 := zcl h12
     refine zv3 ?_
     refine AWp_cond rfl (fun h13 => ?_) (fun h13 => ?_)
     ·(try rw [h13]); replace h13 := zcl h13
      refine zw1 ?_
      refine zw1 ?_
      refine AWp_regL ?_
      refine zv3 ?_
      refine AWp_seq ?_
      refine zw6 ?_
      refine AWp_cond rfl (fun h14 => ?_) (fun h14 => ?_)
      ·(try rw [h14]); replace h14 := zcl h14
       refine zw1 ?_
       refine zrt ?_
       refine ResQ_10 rfl hcl trivial (Ret_of ?_)
       congr 1
       unfold u8
       first | rw [u8N_1 (by omega)] | rw [u8N_2 (by omega) (by omega)] | rw [u8N_3 (by omega) (by omega) rfl] | rw [u8N_4 (by omega) (by omega) rfl] | rw [u8N_0 (by omega) (by omega)]
       all_goals (try split) <;> omega
      ·(try rw [h14]); replace h14 := zcl h14
       refine AWp_skip ?_
       refine AWp_seq ?_
       refine zw1 ?_
       refine AWp_block ?_
       -- loop 1 LIVE 0:param 1:param 4:assign 6:assign 7:assign 8:assign 9:assign
       refine AWp_loop (ι := Nat × Int) (fun p => (p.1 = 1 ∧ p.2 = ((bat s a.toNat).toNat : Int) - 224) ∨ (p.1 = 2 ∧ 128 ≤ ((bat s (a.toNat + 1)).toNat : Int) ∧ ((bat s (a.toNat + 1)).toNat : Int) < 192 ∧ p.2 = (64 * (((bat s a.toNat).toNat : Int) - 224) + (((bat s (a.toNat + 1)).toNat : Int) - 128))) ∨ (p.1 = 3 ∧ 128 ≤ ((bat s (a.toNat + 1)).toNat : Int) ∧ ((bat s (a.toNat + 1)).toNat : Int) < 192 ∧ 128 ≤ ((bat s (a.toNat + 2)).toNat : Int) ∧ ((bat s (a.toNat + 2)).toNat : Int) < 192 ∧ p.2 = (64 * (64 * (((bat s a.toNat).toNat : Int) - 224) + (((bat s (a.toNat + 1)).toNat : Int) - 128)) + (((bat s (a.toNat + 2)).toNat : Int) - 128)))) (fun p => ⟨[], [(0, .str s), (1, .int .i64 a), (6, .int .i64 3), (7, .int .i64 2048), (8, .int .i64 p.2), (9, .int .i64 (p.1 : Int))]⟩) (fun p => σ) (fun p => 3 - p.1) ((1, ((bat s a.toNat).toNat : Int) - 224)) (.inl ⟨rfl, rfl⟩) ?_ rfl (fun p hp => ?_)
       ·exact ⟨rfl, rfl, rfl, rfl, rfl, rfl, rfl, trivial⟩
       obtain ⟨i, v⟩ := p
       simp only at hp ⊢
       have ci := bat_lt s (a + (i : Int)).toNat
       have k1 : i = 1 → (bat s (a + (i : Int)).toNat).toNat = (bat s (a.toNat + 1)).toNat := fun h => by rw [h]; congr 2; omega
       have k2 : i = 2 → (bat s (a + (i : Int)).toNat).toNat = (bat s (a.toNat + 2)).toNat := fun h => by rw [h]; congr 2; omega
       have k3 : i = 3 → (bat s (a + (i : Int)).toNat).toNat = (bat s (a.toNat + 3)).toNat := fun h => by rw [h]; congr 2; omega
       refine AWp_seq ?_
       refine zw3 ?_
       refine AWp_cond rfl (fun h15 => ?_) (fun h15 => ?_)
       ·(try rw [h15]); replace h15 := zcl h15
        refine AWp_skip ?_
        refine AWp_seq ?_
        refine AWp_block ?_
        refine zw7 ?_
        refine AWp_seq ?_
        refine zu3 ?_
        refine zsp 60 rfl (fun h16 => ?_) fun h16 => ?_
        ·rw [h16]; replace h16 := zcl h16
         refine zv3 ?_
         refine AWp_condT rfl ?_
         refine zw1 ?_
         refine zrt ?_
         refine ResQ_10 rfl hcl trivial (Ret_of ?_)
         congr 1
         unfold u8
         first | rw [u8N_1 (by omega)] | rw [u8N_2 (by omega) (by omega)] | rw [u8N_3 (by omega) (by omega) rfl] | rw [u8N_4 (by omega) (by omega) rfl] | rw [u8N_0 (by omega) (by omega)]
         all_goals (try split) <;> omega
        ·rw [h16]; replace h16 := zcl h16
         refine zv3 ?_
         refine AWp_cond rfl (fun h17 => ?_) (fun h17 => ?_)
         ·(try rw [h17]); replace h17 := zcl h17
          refine zw1 ?_
          refine zrt ?_
          refine ResQ_10 rfl hcl trivial (Ret_of ?_)
          congr 1
          unfold u8
          first | rw [u8N_1 (by omega)] | rw [u8N_2 (by omega) (by omega)] | rw [u8N_3 (by omega) (by omega) rfl] | rw [u8N_4 (by omega) (by omega) rfl] | rw [u8N_0 (by omega) (by omega)]
          all_goals (try split) <;> omega
         ·(try rw [h17]); replace h17 := zcl h17
          refine AWp_skip ?_
          refine AWp_regL ?_
          refine zv6 ?_
          refine AWp_regL ?_
          refine zv3 ?_
          refine ⟨(i + 1, _), σ.length, ?_, ?_, Nat.le_refl _, ⟨rfl, rfl, rfl, rfl, rfl, rfl, rfl, trivial⟩, hcl, ?_, List.take_length⟩
          ·simp only; omega
          ·simp only; omega
          ·simp [ltE, AV.lt]
       ·(try rw [h15]); replace h15 := zcl h15
        refine AWp_exit ?_
        refine AWp_seq ?_
        refine zu4 ?_
        refine zsp 72 rfl (fun h18 => ?_) fun h18 => ?_
        ·rw [h18]; replace h18 := zcl h18
         refine zg10 ?_
         refine zg1 ?_
         refine zon ?_
         refine AWp_condT rfl ?_
         refine zw1 ?_
         refine zrt ?_
         refine ResQ_10 rfl hcl trivial (Ret_of ?_)
         congr 1
         unfold u8
         first | rw [u8N_1 (by omega)] | rw [u8N_2 (by omega) (by omega)] | rw [u8N_3 (by omega) (by omega) rfl] | rw [u8N_4 (by omega) (by omega) rfl] | rw [u8N_0 (by omega) (by omega)]
         all_goals (try split) <;> omega
        ·rw [h18]; replace h18 := zcl h18
         refine zg4 ?_
         refine zsp 76 rfl (fun h19 => ?_) fun h19 => ?_
         ·rw [h19]; replace h19 := zcl h19
          refine zv7 ?_
          refine AWp_condT rfl ?_
          refine zw1 ?_
          refine zrt ?_
          refine ResQ_10 rfl hcl trivial (Ret_of ?_)
          congr 1
          unfold u8
          first | rw [u8N_1 (by omega)] | rw [u8N_2 (by omega) (by omega)] | rw [u8N_3 (by omega) (by omega) rfl] | rw [u8N_4 (by omega) (by omega) rfl] | rw [u8N_0 (by omega) (by omega)]
          all_goals (try split) <;> omega
         ·rw [h19]; replace h19 := zcl h19
          refine zg3 ?_
          refine zsp 79 rfl (fun h20 => ?_) fun h20 => ?_
          ·rw [h20]; replace h20 := zcl h20
           refine zv4 ?_
           refine AWp_cond rfl (fun h21 => ?_) (fun h21 => ?_)
           ·(try rw [h21]); replace h21 := zcl h21
            refine zw1 ?_
            refine zrt ?_
            refine ResQ_10 rfl hcl trivial (Ret_of ?_)
            congr 1
            unfold u8
            first | rw [u8N_1 (by omega)] | rw [u8N_2 (by omega) (by omega)] | rw [u8N_3 (by omega) (by omega) rfl] | rw [u8N_4 (by omega) (by omega) rfl] | rw [u8N_0 (by omega) (by omega)]
            all_goals (try split) <;> omega
           ·(try rw [h21]); replace h21 := zcl h21
            refine AWp_skip ?_
            refine zw2 ?_
            refine zrt ?_
            refine ResQ_10 rfl hcl trivial (Ret_of ?_)
            congr 1
            unfold u8
            first | rw [u8N_1 (by omega)] | rw [u8N_2 (by omega) (by omega)] | rw [u8N_3 (by omega) (by omega) rfl] | rw [u8N_4 (by omega) (by omega) rfl] | rw [u8N_0 (by omega) (by omega)]
            all_goals (try split) <;> omega
          ·rw [h20]; replace h20 := zcl h20
           refine zv4 ?_
           refine AWp_condF rfl ?_
           refine AWp_skip ?_
           refine zw2 ?_
           refine zrt ?_
           refine ResQ_10 rfl hcl trivial (Ret_of ?_)
           congr 1
           unfold u8
           first | rw [u8N_1 (by omega)] | rw [u8N_2 (by omega) (by omega)] | rw [u8N_3 (by omega) (by omega) rfl] | rw [u8N_4 (by omega) (by omega) rfl] | rw [u8N_0 (by omega) (by omega)]
           all_goals (try split) <;> omega
     ·(try rw [h13]); replace h13 := zcl h13
      refine zu3 ?_
      refine zsp 35 rfl (fun h22 => ?_) fun h22 => ?_
      ·rw [h22]; replace h22 := zcl h22
       refine zv3 ?_
       refine AWp_cond rfl (fun h23 => ?_) (fun h23 => ?_)
       ·(try rw [h23]); replace h23 := zcl h23
        refine zw1 ?_
        refine zw1 ?_
        refine AWp_regL ?_
        refine zv3 ?_
        refine AWp_seq ?_
        refine zw6 ?_
        refine AWp_cond rfl (fun h24 => ?_) (fun h24 => ?_)
        ·(try rw [h24]); replace h24 := zcl h24
         refine zw1 ?_
         refine zrt ?_
         refine ResQ_10 rfl hcl trivial (Ret_of ?_)
         congr 1
         unfold u8
         first | rw [u8N_1 (by omega)] | rw [u8N_2 (by omega) (by omega)] | rw [u8N_3 (by omega) (by omega) rfl] | rw [u8N_4 (by omega) (by omega) rfl] | rw [u8N_0 (by omega) (by omega)]
         all_goals (try split) <;> omega
        ·(try rw [h24]); replace h24 := zcl h24
         refine AWp_skip ?_
         refine AWp_seq ?_
         refine zw1 ?_
         refine AWp_block ?_
         -- loop 2 LIVE 0:param 1:param 4:assign 6:assign 7:assign 8:assign 9:assign
         refine AWp_loop (ι := Nat × Int) (fun p => (p.1 = 1 ∧ p.2 = ((bat s a.toNat).toNat : Int) - 240) ∨ (p.1 = 2 ∧ 128 ≤ ((bat s (a.toNat + 1)).toNat : Int) ∧ ((bat s (a.toNat + 1)).toNat : Int) < 192 ∧ p.2 = (64 * (((bat s a.toNat).toNat : Int) - 240) + (((bat s (a.toNat + 1)).toNat : Int) - 128))) ∨ (p.1 = 3 ∧ 128 ≤ ((bat s (a.toNat + 1)).toNat : Int) ∧ ((bat s (a.toNat + 1)).toNat : Int) < 192 ∧ 128 ≤ ((bat s (a.toNat + 2)).toNat : Int) ∧ ((bat s (a.toNat + 2)).toNat : Int) < 192 ∧ p.2 = (64 * (64 * (((bat s a.toNat).toNat : Int) - 240) + (((bat s (a.toNat + 1)).toNat : Int) - 128)) + (((bat s (a.toNat + 2)).toNat : Int) - 128))) ∨ (p.1 = 4 ∧ 128 ≤ ((bat s (a.toNat + 1)).toNat : Int) ∧ ((bat s (a.toNat + 1)).toNat : Int) < 192 ∧ 128 ≤ ((bat s (a.toNat + 2)).toNat : Int) ∧ ((bat s (a.toNat + 2)).toNat : Int) < 192 ∧ 128 ≤ ((bat s (a.toNat + 3)).toNat : Int) ∧ ((bat s (a.toNat + 3)).toNat : Int) < 192 ∧ p.2 = (64 * (64 * (64 * (((bat s a.toNat).toNat : Int) - 240) + (((bat s (a.toNat + 1)).toNat : Int) - 128)) + (((bat s (a.toNat + 2)).toNat : Int) - 128)) + (((bat s (a.toNat + 3)).toNat : Int) - 128)))) (fun p => ⟨[], [(0, .str s), (1, .int .i64 a), (6, .int .i64 4), (7, .int .i64 65536), (8, .int .i64 p.2), (9, .int .i64 (p.1 : Int))]⟩) (fun p => σ) (fun p => 4 - p.1) ((1, ((bat s a.toNat).toNat : Int) - 240)) (.inl ⟨rfl, rfl⟩) ?_ rfl (fun p hp => ?_)
         ·exact ⟨rfl, rfl, rfl, rfl, rfl, rfl, rfl, trivial⟩
         obtain ⟨i, v⟩ := p
         simp only at hp ⊢
         have ci := bat_lt s (a + (i : Int)).toNat
         have k1 : i = 1 → (bat s (a + (i : Int)).toNat).toNat = (bat s (a.toNat + 1)).toNat := fun h => by rw [h]; congr 2; omega
         have k2 : i = 2 → (bat s (a + (i : Int)).toNat).toNat = (bat s (a.toNat + 2)).toNat := fun h => by rw [h]; congr 2; omega
         have k3 : i = 3 → (bat s (a + (i : Int)).toNat).toNat = (bat s (a.toNat + 3)).toNat := fun h => by rw [h]; congr 2; omega
         refine AWp_seq ?_
         refine zw3 ?_
         refine AWp_cond rfl (fun h25 => ?_) (fun h25 => ?_)
         ·(try rw [h25]); replace h25 := zcl h25
          refine AWp_skip ?_
          refine AWp_seq ?_
          refine AWp_block ?_
          refine zw7 ?_
          refine AWp_seq ?_
          refine zu3 ?_
          refine zsp 60 rfl (fun h26 => ?_) fun h26 => ?_
          ·rw [h26]; replace h26 := zcl h26
           refine zv3 ?_
           refine AWp_condT rfl ?_
           refine zw1 ?_
           refine zrt ?_
           refine ResQ_10 rfl hcl trivial (Ret_of ?_)
           congr 1
           unfold u8
           first | rw [u8N_1 (by omega)] | rw [u8N_2 (by omega) (by omega)] | rw [u8N_3 (by omega) (by omega) rfl] | rw [u8N_4 (by omega) (by omega) rfl] | rw [u8N_0 (by omega) (by omega)]
           all_goals (try split) <;> omega
          ·rw [h26]; replace h26 := zcl h26
           refine zv3 ?_
           refine AWp_cond rfl (fun h27 => ?_) (fun h27 => ?_)
           ·(try rw [h27]); replace h27 := zcl h27
            refine zw1 ?_
            refine zrt ?_
            refine ResQ_10 rfl hcl trivial (Ret_of ?_)
            congr 1
            unfold u8
            first | rw [u8N_1 (by omega)] | rw [u8N_2 (by omega) (by omega)] | rw [u8N_3 (by omega) (by omega) rfl] | rw [u8N_4 (by omega) (by omega) rfl] | rw [u8N_0 (by omega) (by omega)]
            all_goals (try split) <;> omega
           ·(try rw [h27]); replace h27 := zcl h27
            refine AWp_skip ?_
            refine AWp_regL ?_
            refine zv6 ?_
            refine AWp_regL ?_
            refine zv3 ?_
            refine ⟨(i + 1, _), σ.length, ?_, ?_, Nat.le_refl _, ⟨rfl, rfl, rfl, rfl, rfl, rfl, rfl, trivial⟩, hcl, ?_, List.take_length⟩
            ·simp only; omega
            ·simp only; omega
            ·simp [ltE, AV.lt]
         ·(try rw [h25]); replace h25 := zcl h25
          refine AWp_exit ?_
          refine AWp_seq ?_
          refine zu4 ?_
          refine zsp 72 rfl (fun h28 => ?_) fun h28 => ?_
          ·rw [h28]; replace h28 := zcl h28
           refine zg10 ?_
           refine zg1 ?_
           refine zon ?_
           refine AWp_condT rfl ?_
           refine zw1 ?_
           refine zrt ?_
           refine ResQ_10 rfl hcl trivial (Ret_of ?_)
           congr 1
           unfold u8
           first | rw [u8N_1 (by omega)] | rw [u8N_2 (by omega) (by omega)] | rw [u8N_3 (by omega) (by omega) rfl] | rw [u8N_4 (by omega) (by omega) rfl] | rw [u8N_0 (by omega) (by omega)]
           all_goals (try split) <;> omega
          ·rw [h28]; replace h28 := zcl h28
           refine zg4 ?_
           refine zsp 76 rfl (fun h29 => ?_) fun h29 => ?_
           ·rw [h29]; replace h29 := zcl h29
            refine zv7 ?_
            refine AWp_condT rfl ?_
            refine zw1 ?_
            refine zrt ?_
            refine ResQ_10 rfl hcl trivial (Ret_of ?_)
            congr 1
            unfold u8
            first | rw [u8N_1 (by omega)] | rw [u8N_2 (by omega) (by omega)] | rw [u8N_3 (by omega) (by omega) rfl] | rw [u8N_4 (by omega) (by omega) rfl] | rw [u8N_0 (by omega) (by omega)]
            all_goals (try split) <;> omega
           ·rw [h29]; replace h29 := zcl h29
            refine zg3 ?_
            refine zsp 79 rfl (fun h30 => ?_) fun h30 => ?_
            ·rw [h30]; replace h30 := zcl h30
             refine zv4 ?_
             refine AWp_cond rfl (fun h31 => ?_) (fun h31 => ?_)
             ·(try rw [h31]); replace h31 := zcl h31
              refine zw1 ?_
              refine zrt ?_
              refine ResQ_10 rfl hcl trivial (Ret_of ?_)
              congr 1
              unfold u8
              first | rw [u8N_1 (by omega)] | rw [u8N_2 (by omega) (by omega)] | rw [u8N_3 (by omega) (by omega) rfl] | rw [u8N_4 (by omega) (by omega) rfl] | rw [u8N_0 (by omega) (by omega)]
              all_goals (try split) <;> omega
             ·(try rw [h31]); replace h31 := zcl h31
              refine AWp_skip ?_
              refine zw2 ?_
              refine zrt ?_
              refine ResQ_10 rfl hcl trivial (Ret_of ?_)
              congr 1
              unfold u8
              first | rw [u8N_1 (by omega)] | rw [u8N_2 (by omega) (by omega)] | rw [u8N_3 (by omega) (by omega) rfl] | rw [u8N_4 (by omega) (by omega) rfl] | rw [u8N_0 (by omega) (by omega)]
              all_goals (try split) <;> omega
            ·rw [h30]; replace h30 := zcl h30
             refine zv4 ?_
             refine AWp_condF rfl ?_
             refine AWp_skip ?_
             refine zw2 ?_
             refine zrt ?_
             refine ResQ_10 rfl hcl trivial (Ret_of ?_)
             congr 1
             unfold u8
             first | rw [u8N_1 (by omega)] | rw [u8N_2 (by omega) (by omega)] | rw [u8N_3 (by omega) (by omega) rfl] | rw [u8N_4 (by omega) (by omega) rfl] | rw [u8N_0 (by omega) (by omega)]
             all_goals (try split) <;> omega
       ·(try rw [h23]); replace h23 := zcl h23
        refine zw1 ?_
        refine zrt ?_
        refine ResQ_10 rfl hcl trivial (Ret_of ?_)
        congr 1
        unfold u8
        first | rw [u8N_1 (by omega)] | rw [u8N_2 (by omega) (by omega)] | rw [u8N_3 (by omega) (by omega) rfl] | rw [u8N_4 (by omega) (by omega) rfl] | rw [u8N_0 (by omega) (by omega)]
        all_goals (try split) <;> omega
      ·rw [h22]; replace h22 := zcl h22
       exfalso; omega
    ·rw [h12]; replace h12 := zcl h12
     exfalso; omega
  ·rw [h2]; replace h2 := zcl h2
   refine zv3 ?_
   refine AWp_condF rfl ?_
   refine zu3 ?_
   refine zsp 27 rfl (fun h32 => ?_) fun h32 => ?_
   ·rw [h32]; replace h32 := zcl h32
    exfalso; omega
   ·rw [h32]; replace h32 := zcl h32
    refine zv3 ?_
    refine AWp_condF rfl ?_
    refine zu3 ?_
    refine zsp 35 rfl (fun h33 => ?_) fun h33 => ?_
    ·rw [h33]; replace h33 := zcl h33
     exfalso; omega
    ·rw [h33]; replace h33 := zcl h33
     refine zv3 ?_
     refine AWp_condF rfl ?_
     refine zw1 ?_
     refine zrt ?_
     refine ResQ_10 rfl hcl trivial (Ret_of ?_)
     congr 1
     unfold u8
     first | rw [u8N_1 (by omega)] | rw [u8N_2 (by omega) (by omega)] | rw [u8N_3 (by omega) (by omega) rfl] | rw [u8N_4 (by omega) (by omega) rfl] | rw [u8N_0 (by omega) (by omega)]
     all_goals (try split) <;> omega

theorem text_c (s : ByteArray) (σ : List AO) (hs : s.size ≤ 140737488355328) : ACalls Tryd.prog 9 [.str s] σ (Ret (.bool (pb (Utf s))) σ) := by
 refine ACalls_body Tryd.func9 rfl Tryd.ntmps9 (res1 Tryd.results9) (Nat.le_of_ble_eq_true rfl) (fun hcl hal => ?_)
 have hU : utfFrom s 0 = Go.Lib.validD s.data.toList := rfl
 refine zw1 ?_
 refine AWp_seq ?_
 refine zw1 ?_
 refine AWp_block ?_
 -- loop 0 LIVE 0:param 2:assign 3:assign
 refine AWp_loop (ι := Nat) (fun i => i ≤ s.size ∧ utfFrom s i = utfFrom s 0) (fun i => ⟨[], [(0, .str s), (3, .int .i64 (i : Int))]⟩) (fun i => σ) (fun i => s.size - i) (0) (⟨Nat.zero_le _, rfl⟩) ?_ rfl (fun i hi => ?_)
 ·exact ⟨rfl, rfl, rfl, trivial⟩
 obtain ⟨hi1, hi2⟩ := hi
 refine AWp_seq ?_
 refine zw4 ?_
 refine AWp_cond rfl (fun h1 => ?_) (fun h1 => ?_)
 ·(try rw [h1]); replace h1 := zcl h1
  have hst := utfFrom_step (s := s) (a := i) (by omega)
  have hle := u8_le (s := s) (a := i) (by omega)
  refine AWp_skip ?_
  refine AWp_block ?_
  refine zu2 ?_
  refine zt rfl (zc rfl (utf8_c s _ _ (by omega) (by omega) (by omega))) ?_
  simp only [Int.toNat_natCast]
  refine zv1 ?_
  refine AWp_seq ?_
  refine zw2 ?_
  refine AWp_cond rfl (fun h2 => ?_) (fun h2 => ?_)
  ·(try rw [h2]); replace h2 := zcl h2
   refine zw1 ?_
   refine zrt ?_
   refine ResQ_10 rfl hcl trivial (Ret_of (bool_f ?_))
   rw [if_pos (by omega)] at hst
   unfold Utf; rw [← hU, ← hi2, hst]; decide
  ·(try rw [h2]); replace h2 := zcl h2
   refine AWp_skip ?_
   refine AWp_regL ?_
   refine zv4 ?_
   have hn : u8 s i ≠ 0 := by omega
   rw [if_neg hn] at hst
   refine ⟨i + u8 s i, σ.length, ⟨u8_le (by omega), by rw [← hi2, hst]⟩, by omega, Nat.le_refl _, ⟨rfl, rfl, ?_, trivial⟩, hcl, ?_, List.take_length⟩
   ·rw [Int.natCast_add]; rfl
   ·simp [ltE, AV.lt]
 ·(try rw [h1]); replace h1 := zcl h1
  have hend := utfFrom_end (s := s) (a := i) (by omega)
  refine AWp_exit ?_
  refine zw1 ?_
  refine zrt ?_
  exact ResQ_10 rfl hcl trivial (Ret_of (bool_t (by unfold Utf; rw [← hU, ← hi2, hend])))
end Lg
namespace Lg
open Go
/-! ### What was quoted is unquoted -/
theorem u8N_same {n n' b0 b1 b2 b3 c1 c2 c3 m : Nat} (h : u8N n b0 b1 b2 b3 = m) (h0 : m ≠ 0) (hb : b0 < 256) (hn : m ≤ n') (h1 : 1 < m → c1 = b1) (h2 : 2 < m → c2 = b2) (h3 : 3 < m → c3 = b3) :
    u8N n' b0 c1 c2 c3 = m ∧ m ≤ n ∧ (b0 < 128 → m = 1) ∧ (128 ≤ b0 → 2 ≤ m ∧ 128 ≤ b1 ∧ (2 < m → 128 ≤ b2) ∧ (3 < m → 128 ≤ b3)) ∧ m ≤ 4 ∨ n = 0 := by
  by_cases hn0 : n = 0
  · exact .inr hn0
  left
  by_cases k0 : b0 < 128
  · rw [u8N_1 k0] at h; subst h; rw [u8N_1 k0]; refine ⟨rfl, ?_, ?_, ?_, ?_⟩ <;> omega
  by_cases k1 : b0 < 192 ∨ 248 ≤ b0
  · rw [u8N_0 (by omega) hb] at h; omega
  by_cases k2 : b0 < 224
  · rw [u8N_2 (by omega) k2] at h ⊢
    split at h
    · rename_i hc
      subst h
      rw [if_pos (by rw [h1 (by omega)]; omega)]; refine ⟨rfl, ?_, ?_, ?_, ?_⟩ <;> omega
    · omega
  by_cases k3 : b0 < 240
  · rw [u8N_3 (by omega) k3 rfl] at h ⊢
    split at h
    · rename_i hc
      subst h
      rw [if_pos (by rw [h1 (by omega), h2 (by omega)]; omega)]; refine ⟨rfl, ?_, ?_, ?_, ?_⟩ <;> omega
    · omega
  · rw [u8N_4 (by omega) (by omega) rfl] at h ⊢
    split at h
    · rename_i hc
      subst h
      rw [if_pos (by rw [h1 (by omega), h2 (by omega), h3 (by omega)]; omega)]; refine ⟨rfl, ?_, ?_, ?_, ?_⟩ <;> omega
    · omega
theorem u8N_cut {n n' b0 b1 b2 b3 c1 c2 c3 m : Nat} (h : u8N n b0 b1 b2 b3 = m) (hb : b0 < 256) (h2 : 2 ≤ m) (hn : n' < m) : u8N n' b0 c1 c2 c3 = 0 := by
  by_cases k0 : b0 < 128
  · rw [u8N_1 k0] at h; omega
  by_cases k1 : b0 < 192 ∨ 248 ≤ b0
  · exact u8N_0 (by omega) hb
  by_cases k2 : b0 < 224
  · rw [u8N_2 (by omega) k2] at h ⊢; split at h; rw [if_neg (by omega)]; omega
  by_cases k3 : b0 < 240
  · rw [u8N_3 (by omega) k3 rfl] at h ⊢; split at h; rw [if_neg (by omega)]; omega
  · rw [u8N_4 (by omega) (by omega) rfl] at h ⊢; split at h; rw [if_neg (by omega)]; omega
theorem bat_dr {T : ByteArray} {i : Nat} {L : BL} (h : T.data.toList.drop i = L) (j : Nat) : bat T (i + j) = L.getD j 0 := by
  rw [← h, bat_getD]; simp [List.getD, List.getElem?_drop]
theorem size_dr {T : ByteArray} {i : Nat} {L : BL} (h : T.data.toList.drop i = L) (hi : i ≤ T.size) : T.size = i + L.length := by
  rw [← h, List.length_drop]; have : T.data.toList.length = T.size := Array.length_toList ..; omega
theorem dr_dr {T : ByteArray} {i : Nat} {L : BL} (h : T.data.toList.drop i = L) (j : Nat) : T.data.toList.drop (i + j) = L.drop j := by
  rw [← h, List.drop_drop]
theorem ex_dr {T : ByteArray} {i : Nat} {L : BL} (h : T.data.toList.drop i = L) (m : Nat) : T.extract i (i + m) = ba (L.take m) := by
  rw [ba_eta T, ba_ex, List.drop_take, ← h, Nat.add_sub_cancel_left]
theorem hxd_hexd : ∀ n : Fin 16, hexd (hxd n.val).toNat = (n.val : Int) := by decide
theorem hxd_hexd' {n : Nat} (h : n < 16) : hexd (hxd n).toNat = (n : Int) := hxd_hexd ⟨n, h⟩
theorem esc34 {b : UInt8} (h : b.toNat = 34 ∨ b.toNat = 92) : esc b.toNat = some b.toNat := by
  rcases h with h | h <;> rw [h] <;> rfl
theorem rchar_lo (b : UInt8) (h : b.toNat < 32) : rchar (b.toNat : Int) = ba [b] := by
  unfold rchar; rw [if_pos (by omega)]; unfold u8b; simp [ba]
theorem ba_snoc {l : BL} {k : Nat} (hk : k < l.length) {b : UInt8} (hb : l.getD k 0 = b) : ba (l.take k) ++ ba [b] = ba (l.take (k + 1)) := by
  rw [ba_app, take_snoc hk, hb]
theorem drop_cons {l : BL} {k : Nat} (hk : k < l.length) : l.drop k = l.getD k 0 :: l.drop (k + 1) := by
  rw [List.drop_eq_getElem_cons hk, List.getD_eq_getElem?_getD, List.getElem?_eq_getElem hk]; rfl
theorem qbody_cons (b : UInt8) (l : BL) : qbody (b :: l) = qch b ++ qbody l := by simp [qbody]
theorem qch_hi {b : UInt8} (h : 128 ≤ b.toNat) : qch b = [b] := qch3 (by omega) (by omega)
theorem qb_hi (x y : BL) (h : ∀ b ∈ x, 128 ≤ b.toNat) : qbody (x ++ y) = x ++ qbody y := by
  induction x with
  | nil => rfl
  | cons b x ih => rw [List.cons_append, qbody_cons, qch_hi (h b (by simp)), ih (fun c hc => h c (by simp [hc]))]; rfl
theorem unq_q (T : ByteArray) (a : Nat) (l B : BL) : ∀ (n k i M : Nat), l.length - k ≤ n → k ≤ l.length → utfFrom (ba l) k = true → i ≤ T.size → T.data.toList.drop i = (qbody (l.drop k) ++ 34 :: B).take M →
    ((qbody (l.drop k)).length < M → unqF T a i (ba (l.take k)) = ⟨ba l, (i : Int) + (qbody (l.drop k)).length + 1 - a, 0, 0⟩) ∧ (M ≤ (qbody (l.drop k)).length → (unqF T a i (ba (l.take k))).bad ≠ 0) := by
  intro n
  induction n with
  | zero =>
    intro k i M hn hk hu hi hT
    have : k = l.length := by omega
    subst this
    rw [List.drop_length] at hT ⊢
    have hs := size_dr hT hi
    have hb := bat_dr hT 0
    refine ⟨fun h => ?_, fun h => ?_⟩
    · cases M with
      | zero => simp at h
      | succ M =>
        simp [qbody] at hs hb
        rw [unqF_q (by omega) (by rw [hb]; rfl), List.take_length]
        simp [qbody]
    · simp [qbody] at h; subst h
      simp at hs
      rw [unqF_end (by omega)]; simp
  | succ n ih =>
    intro k i M hn hk hu hi hT
    by_cases hk' : k = l.length
    · exact (by
        subst hk'
        rw [List.drop_length] at hT ⊢
        have hs := size_dr hT hi
        have hb := bat_dr hT 0
        refine ⟨fun h => ?_, fun h => ?_⟩
        · cases M with
          | zero => simp at h
          | succ M =>
            simp [qbody] at hs hb
            rw [unqF_q (by omega) (by rw [hb]; rfl), List.take_length]
            simp [qbody]
        · simp [qbody] at h; subst h
          simp at hs
          rw [unqF_end (by omega)]; simp)
    have hkl : k < l.length := by omega
    have hsz : (ba l).size = l.length := ba_size l
    have hst := utfFrom_step (s := ba l) (a := k) (by omega)
    rw [hu] at hst
    have hu0 : u8 (ba l) k ≠ 0 := by intro h0; rw [if_pos h0] at hst; cases hst
    rw [if_neg hu0] at hst
    have hbl : bat (ba l) k = l.getD k 0 := bat_ba l k
    have hdc := drop_cons hkl
    generalize hbb : l.getD k 0 = b at hdc hbl
    have hb256 := b.toNat_lt
    rw [hdc, qbody_cons] at hT ⊢
    have hs := size_dr hT hi
    by_cases hM0 : M = 0
    · subst hM0
      simp at hs
      refine ⟨fun h => by omega, fun _ => ?_⟩
      rw [unqF_end (by omega)]; simp
    -- the character's width
    have hw : (b.toNat < 128 → u8 (ba l) k = 1) := fun h => by unfold u8; rw [hbl, u8N_1 h]
    by_cases c1 : b.toNat = 34 ∨ b.toNat = 92
    · rw [qch1 c1] at hT ⊢
      rw [qch1 c1] at hs
      have hb0 := bat_dr hT 0
      have hb1 := bat_dr hT 1
      have h92 : (bat T i).toNat = 92 := by rw [show bat T i = bat T (i + 0) from rfl, hb0]; cases M with | zero => omega | succ M => rfl
      by_cases hM1 : M = 1
      · subst hM1
        simp at hs
        refine ⟨fun h => by simp at h, fun _ => ?_⟩
        rw [unqF_last (by omega) h92]; simp
      · obtain ⟨M, rfl⟩ : ∃ M', M = M' + 2 := ⟨M - 2, by omega⟩
        have hb1' : bat T (i + 1) = b := by rw [hb1]; rfl
        have hd2 := dr_dr hT 2
        have hs2 : i + 2 ≤ T.size := by simp at hs; omega
        have hI := ih (k + 1) (i + 2) M (by omega) (by omega) (by rw [hw (by omega)] at hst; exact hst.symm) hs2 (by rw [hd2]; rfl)
        have hE : unqF T a i (ba (l.take k)) = unqF T a (i + 2) (ba (l.take (k + 1))) := by
          rw [unqF_e (by omega) h92 (by rw [hb1']; omega) (by rw [hb1']; exact esc34 c1), UInt8.ofNat_toNat]
          congr 1
          exact ba_snoc hkl hbb
        rw [hE]
        simp only [List.length_append, List.length_cons, List.length_nil]
        refine ⟨fun h => ?_, fun h => hI.2 (by omega)⟩
        rw [hI.1 (by omega)]; congr 1; omega
    by_cases c2 : b.toNat < 32
    · rw [qch2 c1 c2] at hT ⊢
      rw [qch2 c1 c2] at hs
      have hb0 := bat_dr hT 0
      have hb1 := bat_dr hT 1
      have h92 : (bat T i).toNat = 92 := by rw [show bat T i = bat T (i + 0) from rfl, hb0]; cases M with | zero => omega | succ M => rfl
      by_cases hM1 : M = 1
      · subst hM1
        simp at hs
        refine ⟨fun h => by simp at h, fun _ => ?_⟩
        rw [unqF_last (by omega) h92]; simp
      · have h117 : (bat T (i + 1)).toNat = 117 := by
          rw [hb1]; obtain ⟨M, rfl⟩ : ∃ M', M = M' + 2 := ⟨M - 2, by omega⟩; rfl
        by_cases hM6 : M < 6
        · have hs' : T.size = i + M := by rw [hs, List.length_take]; simp; omega
          refine ⟨fun h => by simp at h; omega, fun _ => ?_⟩
          have hr := rhex_ok T (i + 2)
          rw [unqF_hb (by omega) h92 h117 (by omega)]; simp
        · obtain ⟨M, rfl⟩ : ∃ M', M = M' + 6 := ⟨M - 6, by omega⟩
          have hb2 : bat T (i + 2) = 48 := by rw [bat_dr hT 2]; rfl
          have hb3 : bat T (i + 2 + 1) = 48 := by rw [show i + 2 + 1 = i + 3 from rfl, bat_dr hT 3]; rfl
          have hb4 : bat T (i + 2 + 1 + 1) = hxd (b.toNat / 16) := by rw [show i + 2 + 1 + 1 = i + 4 from rfl, bat_dr hT 4]; rfl
          have hb5 : bat T (i + 2 + 1 + 1 + 1) = hxd (b.toNat % 16) := by rw [show i + 2 + 1 + 1 + 1 = i + 5 from rfl, bat_dr hT 5]; rfl
          have hs6 : i + 6 ≤ T.size := by simp at hs; omega
          have hx4 : hexd (bat T (i + 2 + 1 + 1)).toNat = ((b.toNat / 16 : Nat) : Int) := by rw [hb4]; exact hxd_hexd' (by omega)
          have hx5 : hexd (bat T (i + 2 + 1 + 1 + 1)).toNat = ((b.toNat % 16 : Nat) : Int) := by rw [hb5]; exact hxd_hexd' (by omega)
          have hx2 : hexd (bat T (i + 2)).toNat = 0 := by rw [hb2]; rfl
          have hx3 : hexd (bat T (i + 2 + 1)).toNat = 0 := by rw [hb3]; rfl
          have hr : rhex T (i + 2) = ((b.toNat : Int), -1) := by
            unfold rhex
            rw [hexF_go (by omega) (by omega) (by omega), hexF_go (by omega) (by omega) (by omega), hexF_go (by omega) (by omega) (by omega), hexF_go (by omega) (by omega) (by omega), hexF_done, hx2, hx3, hx4, hx5]
            congr 1; omega
          have hd6 := dr_dr hT 6
          have hI := ih (k + 1) (i + 6) M (by omega) (by omega) (by rw [hw (by omega)] at hst; exact hst.symm) hs6 (by rw [hd6]; rfl)
          have hE : unqF T a i (ba (l.take k)) = unqF T a (i + 6) (ba (l.take (k + 1))) := by
            rw [unqF_u (by omega) h92 h117 (by rw [hr]; show (-1 : Int) < 0; omega) (by rw [hr]; intro h; have := h.1; simp only at this; omega) (by rw [hr]; intro h; have := h.1; simp only at this; omega), hr]
            congr 1
            simp only
            rw [rchar_lo b c2]
            exact ba_snoc hkl hbb
          rw [hE]
          simp only [List.length_append, List.length_cons, List.length_nil]
          refine ⟨fun h => ?_, fun h => hI.2 (by omega)⟩
          rw [hI.1 (by omega)]; congr 1; omega
    -- a plain character
    have hT0 := hT
    rw [← qbody_cons, ← hdc] at hT
    have hb0 : bat T (i + 0) = b := by
      rw [bat_dr hT0 0, qch3 c1 c2]; cases M with | zero => omega | succ M => rfl
    have hb0' : (bat T i).toNat = b.toNat := by rw [← hb0]; rfl
    have hsM : i < T.size := by
      rw [hs, qch3 c1 c2]; cases M with | zero => omega | succ M => simp
    have hm := (u8N_same (n' := u8 (ba l) k) (c1 := (bat (ba l) (k + 1)).toNat) (c2 := (bat (ba l) (k + 2)).toNat) (c3 := (bat (ba l) (k + 3)).toNat) (show u8N _ _ _ _ _ = u8 (ba l) k from rfl) hu0 ((bat _ _).toNat_lt) (Nat.le_refl _) (fun _ => rfl) (fun _ => rfl) (fun _ => rfl)).resolve_right (by omega)
    obtain ⟨_, hm1, hm2, hm3, hm4⟩ := hm
    rw [hbl] at hm2 hm3
    rw [hsz] at hm1
    -- the bytes of the character stand as they are
    have hx : qbody (l.drop k) = (l.drop k).take (u8 (ba l) k) ++ qbody (l.drop (k + u8 (ba l) k)) := by
      by_cases hb : b.toNat < 128
      · rw [hw hb, hdc, qbody_cons, qch3 c1 c2]; rfl
      · have h3 := hm3 (by omega)
        rw [← List.drop_drop, ← qb_hi _ _ (fun c hc => ?_), List.take_append_drop]
        obtain ⟨j, hj⟩ := List.getElem?_of_mem hc
        rw [List.getElem?_take] at hj
        split at hj
        · rename_i hjm
          rw [List.getElem?_drop] at hj
          have e : bat (ba l) (k + j) = c := by rw [bat_ba, List.getD_eq_getElem?_getD, hj]; rfl
          have : j = 0 ∨ j = 1 ∨ j = 2 ∨ j = 3 := by omega
          rcases this with rfl | rfl | rfl | rfl
          · rw [← e]; rw [show k + 0 = k from rfl, hbl]; omega
          · rw [← e]; exact h3.2.1
          · rw [← e]; exact h3.2.2.1 hjm
          · rw [← e]; exact h3.2.2.2 hjm
        · cases hj
    have hxl : ((l.drop k).take (u8 (ba l) k)).length = u8 (ba l) k := by rw [List.length_take, List.length_drop]; omega
    rw [← qbody_cons, ← hdc]
    rw [hx, List.append_assoc] at hT
    rw [hx]
    have hTb : ∀ j, j < u8 (ba l) k → j < M → bat T (i + j) = bat (ba l) (k + j) := fun j hj hjM => by
      rw [bat_dr hT j, bat_ba, List.getD_eq_getElem?_getD, List.getD_eq_getElem?_getD, List.getElem?_take, if_pos hjM, List.getElem?_append_left (by omega), List.getElem?_take, if_pos hj, List.getElem?_drop]
    by_cases hMm : M < u8 (ba l) k
    · have hs' : T.size = i + M := by
        have := size_dr hT hi
        rw [this, List.length_take, List.length_append]; omega
      refine ⟨fun h => by rw [List.length_append] at h; omega, fun _ => ?_⟩
      have h2m : 2 ≤ u8 (ba l) k := by omega
      have hz : u8 T i = 0 := by
        have := u8N_cut (n' := T.size - i) (c1 := (bat T (i + 1)).toNat) (c2 := (bat T (i + 2)).toNat) (c3 := (bat T (i + 3)).toNat) (show u8N _ _ _ _ _ = u8 (ba l) k from rfl) ((bat _ _).toNat_lt) h2m (by omega)
        rw [hbl, ← hb0'] at this
        exact this
      rw [unqF_bad hsM (by omega) (by omega) (by omega) hz]; simp
    · have hT' := dr_dr hT (u8 (ba l) k)
      have hsm : i + u8 (ba l) k ≤ T.size := by
        have := size_dr hT hi
        rw [this, List.length_take, List.length_append]; omega
      have hum : u8 T i = u8 (ba l) k := by
        have := ((u8N_same (n' := T.size - i) (c1 := (bat T (i + 1)).toNat) (c2 := (bat T (i + 2)).toNat) (c3 := (bat T (i + 3)).toNat) (show u8N _ _ _ _ _ = u8 (ba l) k from rfl) hu0 ((bat _ _).toNat_lt) (by omega)
          (fun h => by rw [hTb 1 h (by omega)]) (fun h => by rw [hTb 2 h (by omega)]) (fun h => by rw [hTb 3 h (by omega)])).resolve_right (by omega)).1
        rw [hbl, ← hb0'] at this
        exact this
      have hI := ih (k + u8 (ba l) k) (i + u8 (ba l) k) (M - u8 (ba l) k) (by omega) (by omega) hst.symm hsm (by
        rw [hT', List.drop_take]
        congr 1
        exact List.drop_left' hxl)
      have hE : unqF T a i (ba (l.take k)) = unqF T a (i + u8 (ba l) k) (ba (l.take (k + u8 (ba l) k))) := by
        rw [unqF_plain hsM (by omega) (by omega) (by omega) (by omega), hum]
        congr 1
        rw [ex_dr hT, List.take_take, Nat.min_eq_left (by omega), List.take_left' hxl, ba_app]
        congr 1
        rw [List.take_add]
      rw [hE]
      simp only [List.length_append, hxl]
      refine ⟨fun h => ?_, fun h => hI.2 (by omega)⟩
      rw [hI.1 (by omega)]; congr 1; omega
end Lg
namespace Lg
open Go Go.Lib
/-! ### UTF-8, put together -/
def u8L (l : List UInt8) : Nat := u8N l.length (l.getD 0 0).toNat (l.getD 1 0).toNat (l.getD 2 0).toNat (l.getD 3 0).toNat
theorem validD_u8 (l : List UInt8) (hne : l ≠ []) : validD l = if u8L l = 0 then false else validD (l.drop (u8L l)) := by
  rw [validD_step _ hne]
  have hw := decodeL_width l
  rw [decodeL_N] at hw ⊢
  unfold u8L u8N
  by_cases hc : (decodeN l.length (l.getD 0 0).toNat (l.getD 1 0).toNat (l.getD 2 0).toNat (l.getD 3 0).toNat).1 = 65533 ∧ (decodeN l.length (l.getD 0 0).toNat (l.getD 1 0).toNat (l.getD 2 0).toNat (l.getD 3 0).toNat).2 = 1
  · rw [if_pos hc, if_pos hc, if_pos rfl]
  · rw [if_neg hc, if_neg hc, if_neg (by omega)]
theorem u8N_pre {n b0 b1 b2 b3 n' c0 c1 c2 c3 w : Nat} (hb0 : b0 < 256) (h : u8N n b0 b1 b2 b3 = w) (hw : w ≠ 0) (hl : w ≤ n') (h0 : c0 = b0) (h1 : 1 < w → c1 = b1) (h2 : 2 < w → c2 = b2) (h3 : 3 < w → c3 = b3) (hn : 1 ≤ n) :
    u8N n' c0 c1 c2 c3 = w ∧ w ≤ n := by
  subst h0
  by_cases k0 : c0 < 128
  · rw [u8N_1 k0] at h; subst h; exact ⟨u8N_1 k0, hn⟩
  by_cases k1 : c0 < 192 ∨ 248 ≤ c0
  · rw [u8N_0 (by omega) hb0] at h; exact absurd h.symm hw
  by_cases k2 : c0 < 224
  · rw [u8N_2 (by omega) k2] at h
    split at h
    · subst h
      have := h1 (by omega); subst this
      rw [u8N_2 (by omega) k2, if_pos (by omega)]; omega
    · exact absurd h.symm hw
  by_cases k3 : c0 < 240
  · rw [u8N_3 (by omega) k3 rfl] at h
    split at h
    · subst h
      have := h1 (by omega); subst this
      have := h2 (by omega); subst this
      rw [u8N_3 (by omega) k3 rfl, if_pos (by omega)]; omega
    · exact absurd h.symm hw
  · rw [u8N_4 (by omega) (by omega) rfl] at h
    split at h
    · subst h
      have := h1 (by omega); subst this
      have := h2 (by omega); subst this
      have := h3 (by omega); subst this
      rw [u8N_4 (by omega) (by omega) rfl, if_pos (by omega)]; omega
    · exact absurd h.symm hw
theorem u8L_pre {L L' : List UInt8} (hne : L ≠ []) (hw : u8L L ≠ 0) (hl : u8L L ≤ L'.length) (hp : ∀ k, k < u8L L → L'.getD k 0 = L.getD k 0) : u8L L' = u8L L ∧ u8L L ≤ L.length := by
  have hn : 1 ≤ L.length := by cases L with
    | nil => exact absurd rfl hne
    | cons => simp
  exact u8N_pre (L.getD 0 0).toNat_lt (rfl : u8L L = u8L L) hw hl (by rw [hp 0 (by omega)]) (fun h => by rw [hp 1 h]) (fun h => by rw [hp 2 h]) (fun h => by rw [hp 3 h]) hn
theorem validD_app (m : List UInt8) (hm : validD m = true) : ∀ (n : Nat) (l : List UInt8), l.length ≤ n → validD l = true → validD (l ++ m) = true := by
  intro n
  induction n with
  | zero => intro l hl _; have : l = [] := List.eq_nil_of_length_eq_zero (by omega); subst this; exact hm
  | succ n ih =>
    intro l hl h
    by_cases hne : l = []
    · subst hne; exact hm
    rw [validD_u8 l hne] at h
    split at h
    · cases h
    · rename_i hw
      have hle := (u8L_pre hne hw (L' := l ++ List.replicate (u8L l) 0) (by simp) (fun k hk => by
        by_cases hkl : k < l.length
        · simp [List.getD_eq_getElem?_getD, List.getElem?_append_left hkl]
        · simp only [List.getD_eq_getElem?_getD]
          rw [List.getElem?_append_right (by omega), List.getElem?_eq_none (l := l) (by omega)]
          rw [List.getElem?_replicate]; split <;> rfl)).2
      have he := (u8L_pre hne hw (L' := l ++ m) (by simp; omega) (fun k hk => by
        simp [List.getD_eq_getElem?_getD, List.getElem?_append_left (show k < l.length by omega)])).1
      rw [validD_u8 (l ++ m) (by simp [hne]), he, if_neg hw, List.drop_append_of_le_length hle]
      exact ih _ (by rw [List.length_drop]; omega) h
theorem Utf.app {a b : ByteArray} (ha : Utf a) (hb : Utf b) : Utf (a ++ b) := by
  unfold Utf at *
  have : (a ++ b).data.toList = a.data.toList ++ b.data.toList := by simp
  rw [this]
  exact validD_app _ hb _ _ (Nat.le_refl _) ha
theorem u8L_bat (s : ByteArray) (i : Nat) : u8L (s.data.toList.drop i) = u8 s i := by
  have hg : ∀ k, (s.data.toList.drop i).getD k 0 = bat s (i + k) := fun k => by simp [bat, List.getD, List.getElem?_drop]
  unfold u8L u8
  rw [hg, hg, hg, hg, List.length_drop, Array.length_toList]; rfl
theorem Utf.ext {s : ByteArray} {i : Nat} (h : i < s.size) (hu : ¬ u8 s i = 0) : Utf (s.extract i (i + u8 s i)) := by
  have hne : s.data.toList.drop i ≠ [] := by
    intro e
    have := congrArg List.length e
    rw [List.length_drop, Array.length_toList] at this
    have h' : i < s.data.size := h
    simp at this; omega
  have hle := u8_le h
  have hsz : s.data.size = s.size := rfl
  have hlist : (s.extract i (i + u8 s i)).data.toList = (s.data.toList.drop i).take (u8 s i) := by
    simp [ByteArray.data_extract, List.extract_eq_take_drop]
  have hlen : ((s.data.toList.drop i).take (u8 s i)).length = u8 s i := by simp; omega
  unfold Utf
  rw [hlist]
  have he := (u8L_pre hne (by rw [u8L_bat]; exact hu) (L' := (s.data.toList.drop i).take (u8 s i)) (by rw [hlen, u8L_bat]; exact Nat.le_refl _) (fun k hk => by
    rw [u8L_bat] at hk
    simp only [List.getD_eq_getElem?_getD, List.getElem?_take, hk, if_true])).1
  rw [u8L_bat] at he
  rw [validD_u8 _ (fun e => by rw [e] at hlen; simp at hlen; omega), he, if_neg hu, List.drop_eq_nil_of_le (by omega)]
  rfl
theorem u8b_nat {n : Int} (h0 : 0 ≤ n) (h1 : n < 256) : (u8b n).toNat = n.toNat := by
  have := u8b_toNat h0 h1; omega
theorem Utf.char {v : Int} (h0 : 0 ≤ v) (h1 : v < 1114112) (h2 : ¬ (55296 ≤ v ∧ v < 57344)) : Utf (rchar v) := by
  unfold Utf rchar
  split
  · show validD [u8b v] = true
    rw [validD_cons _ _ (by rw [u8b_nat h0 (by omega)]; omega)]; rfl
  split
  · show validD [u8b (192 + v / 64), u8b (128 + v % 64)] = true
    have e : u8L [u8b (192 + v / 64), u8b (128 + v % 64)] = 2 := by
      show u8N 2 (u8b (192 + v / 64)).toNat (u8b (128 + v % 64)).toNat 0 0 = 2
      rw [u8b_nat (by omega) (by omega), u8b_nat (by omega) (by omega), u8N_2 (by omega) (by omega), if_pos (by omega)]
    rw [validD_u8 _ (by simp), e]; rfl
  split
  · show validD [u8b (224 + v / 4096), u8b (128 + v / 64 % 64), u8b (128 + v % 64)] = true
    have e : u8L [u8b (224 + v / 4096), u8b (128 + v / 64 % 64), u8b (128 + v % 64)] = 3 := by
      show u8N 3 (u8b (224 + v / 4096)).toNat (u8b (128 + v / 64 % 64)).toNat (u8b (128 + v % 64)).toNat 0 = 3
      rw [u8b_nat (by omega) (by omega), u8b_nat (by omega) (by omega), u8b_nat (by omega) (by omega), u8N_3 (by omega) (by omega) rfl, if_pos (by omega)]
    rw [validD_u8 _ (by simp), e]; rfl
  · show validD [u8b (240 + v / 262144), u8b (128 + v / 4096 % 64), u8b (128 + v / 64 % 64), u8b (128 + v % 64)] = true
    have e : u8L [u8b (240 + v / 262144), u8b (128 + v / 4096 % 64), u8b (128 + v / 64 % 64), u8b (128 + v % 64)] = 4 := by
      show u8N 4 (u8b (240 + v / 262144)).toNat (u8b (128 + v / 4096 % 64)).toNat (u8b (128 + v / 64 % 64)).toNat (u8b (128 + v % 64)).toNat = 4
      rw [u8b_nat (by omega) (by omega), u8b_nat (by omega) (by omega), u8b_nat (by omega) (by omega), u8b_nat (by omega) (by omega), u8N_4 (by omega) (by omega) rfl, if_pos (by omega)]
    rw [validD_u8 _ (by simp), e]; rfl
theorem esc_ok {c b : Nat} (h : esc c = some b) : b < 128 := by
  unfold esc at h
  rw [Option.map_eq_some_iff] at h
  obtain ⟨q, hq, rfl⟩ := h
  have := List.mem_of_find?_eq_some hq
  revert this
  have : ∀ q ∈ escL, q.2 < 128 := by decide
  exact this q
theorem Utf.asc {b : Nat} (h : b < 128) : Utf ⟨#[UInt8.ofNat b]⟩ := by
  unfold Utf
  show validD [UInt8.ofNat b] = true
  rw [validD_cons _ _ (by rw [UInt8.toNat_ofNat']; omega)]; rfl
/-- What a text in quotes comes to. -/
def UOK (s : ByteArray) (a : Nat) (u : UR) : Prop := (u.bad = 0 ∧ 0 ≤ u.n ∧ (a : Int) + u.n ≤ s.size ∧ Utf u.s ∧ (u.s.size : Int) ≤ u.n) ∨ ((u.bad = 1 ∨ u.bad = 2) ∧ u.n = 0 ∧ u.s = e0)
theorem unqF_ok (s : ByteArray) (a : Nat) : ∀ (k i : Nat) (out : ByteArray), s.size - i ≤ k → a < i → Utf out → out.size ≤ i - a → UOK s a (unqF s a i out) := by
  intro k
  induction k with
  | zero => intro i out hk hi hu ho; rw [unqF_end (by omega)]; exact .inr ⟨.inl rfl, rfl, rfl⟩
  | succ k ih =>
    intro i out hk hi hu ho
    by_cases h : s.size ≤ i
    · rw [unqF_end h]; exact .inr ⟨.inl rfl, rfl, rfl⟩
    by_cases h1 : (bat s i).toNat = 34
    · rw [unqF_q (by omega) h1]; exact .inl ⟨rfl, by dsimp only; omega, by dsimp only; omega, hu, by dsimp only; omega⟩
    by_cases h2 : (bat s i).toNat < 32
    · rw [unqF_ctl (by omega) h2]; exact .inr ⟨.inl rfl, rfl, rfl⟩
    by_cases h3 : (bat s i).toNat = 92
    · by_cases h4 : i + 1 = s.size
      · rw [unqF_last h4 h3]; exact .inr ⟨.inl rfl, rfl, rfl⟩
      by_cases h5 : (bat s (i + 1)).toNat = 117
      · by_cases h6 : 0 ≤ (rhex s (i + 2)).2
        · rw [unqF_hb (by omega) h3 h5 h6]; exact .inr ⟨.inl rfl, rfl, rfl⟩
        have hx := rhex_ok s (i + 2)
        have hl := rlow_ok s (i + 6)
        by_cases h7 : 55296 ≤ (rhex s (i + 2)).1 ∧ (rhex s (i + 2)).1 < 56320 ∧ 0 ≤ rlow s (i + 6)
        · rw [unqF_pair (by omega) h3 h5 (by omega) h7]
          have hs := rchar_size (65536 + 1024 * ((rhex s (i + 2)).1 - 55296) + rlow s (i + 6) - 56320)
          exact ih _ _ (by omega) (by omega) (hu.app (Utf.char (by omega) (by omega) (by omega))) (by rw [ByteArray.size_append]; omega)
        by_cases h8 : 55296 ≤ (rhex s (i + 2)).1 ∧ (rhex s (i + 2)).1 < 57344
        · rw [unqF_sur (by omega) h3 h5 (by omega) h7 h8]; exact .inr ⟨.inr rfl, rfl, rfl⟩
        · rw [unqF_u (by omega) h3 h5 (by omega) h7 h8]
          have hs := rchar_size (rhex s (i + 2)).1
          exact ih _ _ (by omega) (by omega) (hu.app (Utf.char (by omega) (by omega) h8)) (by rw [ByteArray.size_append]; omega)
      · cases h6 : esc (bat s (i + 1)).toNat with
        | none => rw [unqF_eb (by omega) h3 h5 h6]; exact .inr ⟨.inl rfl, rfl, rfl⟩
        | some b =>
          rw [unqF_e (by omega) h3 h5 h6]
          have h1b : (ByteArray.mk #[UInt8.ofNat b]).size = 1 := rfl
          exact ih _ _ (by omega) (by omega) (hu.app (Utf.asc (esc_ok h6))) (by rw [ByteArray.size_append]; omega)
    · by_cases h4 : u8 s i = 0
      · rw [unqF_bad (by omega) h1 (by omega) h3 h4]; exact .inr ⟨.inr rfl, rfl, rfl⟩
      · rw [unqF_plain (by omega) h1 (by omega) h3 h4]
        exact ih _ _ (by omega) (by omega) (hu.app (Utf.ext (by omega) h4)) (by rw [ByteArray.size_append, ByteArray.size_extract]; omega)
theorem rUnq_ok (s : ByteArray) (a : Nat) : UOK s a (rUnq s (a : Int)) := by
  unfold rUnq
  split
  · exact .inr ⟨.inl rfl, rfl, rfl⟩
  split
  · exact .inr ⟨.inl rfl, rfl, rfl⟩
  · rw [Int.toNat_natCast]
    exact unqF_ok s a _ _ _ (Nat.le_refl _) (by omega) rfl (Nat.zero_le _)
end Lg
namespace Lg
open Go
theorem quoteL_len (l : BL) : (quoteL l).length = (qbody l).length + 2 := by unfold quoteL; simp
theorem rUnq_quote (A B s : ByteArray) (hu : Utf s) : rUnq (A ++ ba (quoteL s.data.toList) ++ B) (A.size : Int) = ⟨s, (quoteL s.data.toList).length, 0, 0⟩ := by
  have hl : s = ba s.data.toList := ba_eta s
  generalize s.data.toList = l at hl
  subst hl
  have hu' : utfFrom (ba l) 0 = true := hu
  have hT : (A ++ ba (quoteL l) ++ B).data.toList = A.data.toList ++ (34 :: (qbody l ++ 34 :: B.data.toList)) := by
    rw [ba_eta A, ba_eta B, ba_app, ba_app, ba_toList, ba_toList, ba_toList]; simp [quoteL]
  have hA : A.data.toList.length = A.size := Array.length_toList ..
  generalize hTT : A ++ ba (quoteL l) ++ B = T at hT
  have hd : T.data.toList.drop A.size = 34 :: (qbody l ++ 34 :: B.data.toList) := by rw [hT]; exact List.drop_left' hA
  have hs : T.size = A.size + (34 :: (qbody l ++ 34 :: B.data.toList)).length := size_dr hd (by rw [← hTT]; simp; omega)
  simp at hs
  have h0 := bat_dr hd 0
  have hd1 := dr_dr hd 1
  have h := unq_q T A.size l B.data.toList l.length 0 (A.size + 1) ((qbody l).length + 1 + B.data.toList.length) (by omega) (by omega) hu' (by omega) (by
    rw [hd1]; simp only [List.drop_succ_cons, List.drop_zero]
    rw [List.take_of_length_le]; simp; omega)
  simp only [List.drop_zero, List.take_zero] at h
  unfold rUnq
  rw [if_neg (by omega), Int.toNat_natCast, if_neg (by rw [show bat T A.size = bat T (A.size + 0) from rfl, h0]; simp)]
  show unqF T A.size (A.size + 1) (ba []) = _
  rw [h.1 (by omega), quoteL_len]
  congr 1; omega
theorem rUnq_cut (s : ByteArray) (k : Nat) (hu : Utf s) (hk : k < (quoteL s.data.toList).length) : (rUnq ((ba (quoteL s.data.toList)).extract 0 k) 0).bad ≠ 0 := by
  have hl : s = ba s.data.toList := ba_eta s
  generalize s.data.toList = l at hl hk
  subst hl
  have hu' : utfFrom (ba l) 0 = true := hu
  rw [ba_pre]
  generalize hT : ba ((quoteL l).take k) = T
  have hTl : T.data.toList = (quoteL l).take k := by rw [← hT, ba_toList]
  have hTs : T.size = k := by rw [← hT, ba_size, List.length_take]; omega
  unfold rUnq
  by_cases h0 : k = 0
  · rw [if_pos (by omega)]; simp
  · obtain ⟨k, rfl⟩ : ∃ k', k = k' + 1 := ⟨k - 1, by omega⟩
    rw [quoteL_len] at hk
    have h := unq_q T 0 l [] l.length 0 1 k (by omega) (by omega) hu' (by omega) (by rw [hTl]; unfold quoteL; simp)
    simp only [List.drop_zero, List.take_zero] at h
    have hb : bat T 0 = 34 := by rw [bat_getD, hTl]; rfl
    rw [if_neg (by omega), show (0 : Int).toNat = 0 from rfl, if_neg (by rw [hb]; simp)]
    exact h.2 (by omega)
theorem rUnq_utf (b : ByteArray) (h : (rUnq b 0).bad = 0) : Utf (rUnq b 0).s ∧ (rUnq b 0).s.size ≤ b.size := by
  rcases rUnq_ok b 0 with ⟨_, h1, h2, h3, h4⟩ | ⟨h1, _⟩
  · exact ⟨h3, by simp only [Int.natCast_zero] at *; omega⟩
  · simp only [Int.natCast_zero] at h1; omega
/-- What was unquoted, quoted, is unquoted as it was. -/
theorem rUnq_back (b : ByteArray) (h : (rUnq b 0).bad = 0) : rUnq (ba (quoteL (rUnq b 0).s.data.toList)) 0 = ⟨(rUnq b 0).s, (quoteL (rUnq b 0).s.data.toList).length, 0, 0⟩ := by
  have := rUnq_quote e0 e0 _ (rUnq_utf b h).1
  have e : e0 ++ ba (quoteL (rUnq b 0).s.data.toList) ++ e0 = ba (quoteL (rUnq b 0).s.data.toList) := by
    rw [show e0 = ba [] from rfl, ba_app, ba_app]; simp
  rw [e] at this
  exact this
end Lg
set_option maxRecDepth 20000
set_option maxHeartbeats 4000000
namespace Lg
open Go Go.Proofs Go.RowKit
variable [GLay] [U8]
theorem unq_qt (A B s : ByteArray) (σ : List AO) (hu : Utf s) (h1 : A.size ≤ 300) (h2 : B.size ≤ 300) (h3 : s.size ≤ 300) : ACalls Tryd.prog 11 [.str (A ++ ba (quoteL s.data.toList) ++ B), .int .i64 A.size] σ (Ret (.tup [.str s, .int .i64 ((quoteL s.data.toList).length : Int), .nili]) σ) := by
  have hq := qbody_len s.data.toList
  have hl : s.data.toList.length = s.size := Array.length_toList ..
  have hL := quoteL_len s.data.toList
  have h := unq_any (A ++ ba (quoteL s.data.toList) ++ B) A.size σ (by rw [ByteArray.size_append, ByteArray.size_append, ba_size]; omega)
  rw [rUnq_quote A B s hu] at h; exact h
theorem unq_ct (s : ByteArray) (k : Int) (σ : List AO) (hu : Utf s) (h3 : s.size ≤ 300) (h0 : 0 ≤ k) (hk : k < (quoteL s.data.toList).length) : ∃ x n a c, ACalls Tryd.prog 11 [.str ((ba (quoteL s.data.toList)).extract (0 : Int).toNat k.toNat), .int .i64 0] σ (Ret (.tup [.str x, .int .i64 n, errV (some (a, c))]) σ) := by
  have hq := qbody_len s.data.toList
  have hl : s.data.toList.length = s.size := Array.length_toList ..
  have hL := quoteL_len s.data.toList
  have hc := rUnq_cut s k.toNat hu (by omega)
  have h := unq_any ((ba (quoteL s.data.toList)).extract 0 k.toNat) 0 σ (by rw [ByteArray.size_extract, ba_size]; omega)
  have he : errU (rUnq ((ba (quoteL s.data.toList)).extract 0 k.toNat) 0) = some ((rUnq ((ba (quoteL s.data.toList)).extract 0 k.toNat) 0).at_, (rUnq ((ba (quoteL s.data.toList)).extract 0 k.toNat) 0).bad) := by unfold errU; rw [if_neg hc]
  rw [he] at h
  exact ⟨_, _, _, _, h⟩
theorem unq_bk (b : ByteArray) (σ : List AO) (hb : b.size ≤ 300) (h : (errU (rUnq b 0)).isSome = false) : ACalls Tryd.prog 10 [.str (rUnq b 0).s] σ (Ret (.str (ba (quoteL (rUnq b 0).s.data.toList))) σ) ∧ ACalls Tryd.prog 11 [.str (ba (quoteL (rUnq b 0).s.data.toList)), .int .i64 0] σ (Ret (.tup [.str (rUnq b 0).s, .int .i64 ((quoteL (rUnq b 0).s.data.toList).length : Int), .nili]) σ) := by
  have hb0 : (rUnq b 0).bad = 0 := by
    unfold errU at h; split at h
    · assumption
    · cases h
  have hu := rUnq_utf b hb0
  have hq := qbody_len (rUnq b 0).s.data.toList
  have hl : (rUnq b 0).s.data.toList.length = (rUnq b 0).s.size := Array.length_toList ..
  have hL := quoteL_len (rUnq b 0).s.data.toList
  have h := unq_any (ba (quoteL (rUnq b 0).s.data.toList)) 0 σ (by rw [ba_size]; omega)
  rw [rUnq_back b hb0] at h
  exact ⟨quoteS_c _ σ (by omega), h⟩
theorem strBack_c (ahead s behind : ByteArray) (cut : Int) (b : ByteArray) (σ : List AO) (hs : s.size ≤ 140737488355328) : ACalls Tryd.prog 3 [.str ahead, .str s, .str behind, .int .i64 cut, .str b] σ (Ret (.bool true) σ) := by
 refine ACalls_body Tryd.func3 rfl Tryd.ntmps3 (res1 Tryd.results3) (Nat.le_of_ble_eq_true rfl) (fun hcl hal => ?_)
 refine zw1 ?_
 refine zsr ?_
 refine zt rfl (zc rfl (up2_c _)) ?_
 refine zv1 ?_
 refine zu1 ?_
 refine zt rfl (zc rfl (text_c s _ hs)) ?_
 refine zv1 ?_
 refine AWp_seq ?_
 refine zu4 ?_
 refine zsp 33 rfl (fun h1 => ?_) fun h1 => ?_
 ·rw [h1]; replace h1 := zcl h1
  refine zg10 ?_
  refine zg4 ?_
  refine zon ?_
  refine AWp_condT rfl ?_
  refine zw2 ?_
  refine zrt ?_
  exact ResQ_10 rfl hcl trivial ⟨rfl, rfl⟩
 ·rw [h1]; replace h1 := zcl h1
  refine zg5 ?_
  refine zsp 38 rfl (fun h2 => ?_) fun h2 => ?_
  ·rw [h2]; replace h2 := zcl h2
   refine zv9 ?_
   refine AWp_condT rfl ?_
   refine zw2 ?_
   refine zrt ?_
   exact ResQ_10 rfl hcl trivial ⟨rfl, rfl⟩
  ·rw [h2]; replace h2 := zcl h2
   refine zg5 ?_
   refine zsp 43 rfl (fun h3 => ?_) fun h3 => ?_
   ·rw [h3]; replace h3 := zcl h3
    refine zv4 ?_
    refine AWp_condT rfl ?_
    refine zw2 ?_
    refine zrt ?_
    exact ResQ_10 rfl hcl trivial ⟨rfl, rfl⟩
   ·rw [h3]; replace h3 := zcl h3
    refine zv4 ?_
    refine AWp_cond rfl (fun h4 => ?_) (fun h4 => ?_)
    ·(try rw [h4]); replace h4 := zcl h4
     refine zw2 ?_
     refine zrt ?_
     exact ResQ_10 rfl hcl trivial ⟨rfl, rfl⟩
    ·(try rw [h4]); replace h4 := zcl h4
     refine AWp_skip ?_
     refine AWp_seq ?_
     refine zw1 ?_
     refine AWp_cond rfl (fun h5 => ?_) (fun h5 => ?_)
     ·(try rw [h5]); replace h5 := zcl h5
      have hu := (pb_iff _).1 h5
      refine zu1 ?_
      refine zt rfl (zc rfl (quoteS_c s _ (by omega))) ?_
      have hqz : (ba (quoteL s.data.toList)).size = (quoteL s.data.toList).length := ba_size _
      have hqb := qbody_len s.data.toList
      have hql := quoteL_len s.data.toList
      have hsl : s.data.toList.length = s.size := Array.length_toList ..
      have hsa := ByteArray.size_append (a := ahead) (b := ba (quoteL s.data.toList))
      refine zv1 ?_
      refine zu7 ?_
      refine zt rfl (zc rfl (unq_qt ahead behind s _ hu (by omega) (by omega) (by omega))) ?_
      refine zv7 ?_
      refine AWp_seq ?_
      refine zu2 ?_
      refine zt rfl (op_sneqF rfl rfl rfl rfl) ?_
      refine zg4 ?_
      refine ztG rfl rfl (op_neqF rfl rfl rfl (by omega)) ?_
      refine zg7 ?_
      refine ztG rfl rfl (op_lssF rfl rfl rfl (by omega)) ?_
      refine zv1 ?_
      refine AWp_condF rfl ?_
      refine AWp_skip ?_
      refine zu3 ?_
      refine zt rfl (zc rfl (pick_c cut _ _ (by omega) (by omega))) ?_
      have hk0 := Int.emod_nonneg cut (b := ((ba (quoteL s.data.toList)).size : Int)) (by omega)
      have hk1 := Int.emod_lt_of_pos cut (b := ((ba (quoteL s.data.toList)).size : Int)) (by omega)
      refine zv1 ?_
      refine zu3 ?_
      obtain ⟨cx, cn, ca, cc, hct⟩ := unq_ct s (cut % ((ba (quoteL s.data.toList)).size : Int)) σ hu (by omega) hk0 (by omega)
      refine zt rfl (zc rfl (hct)) ?_
      refine zv7 ?_
      refine zw2 ?_
      refine AWp_condF rfl ?_
      refine AWp_skip ?_
      refine zu1 ?_
      refine zt rfl (zc rfl (unq_any b 0 _ (by omega))) ?_
      refine zv7 ?_
      refine AWp_seq ?_
      refine zu1 ?_
      refine zt rfl (op_neErr rfl Tryd.underlying26 rfl) ?_
      refine zon ?_
      refine AWp_cond rfl (fun h6 => ?_) (fun h6 => ?_)
      ·(try rw [h6]); replace h6 := zcl h6
       refine zw2 ?_
       refine zrt ?_
       exact ResQ_10 rfl hcl trivial ⟨rfl, rfl⟩
      ·(try rw [h6]); replace h6 := zcl h6
       have hb := h6
       refine AWp_skip ?_
       refine zu1 ?_
       refine zt rfl (zc rfl ((unq_bk b _ (by omega) hb).1)) ?_
       refine zt rfl (zc rfl ((unq_bk b _ (by omega) hb).2)) ?_
       refine zv7 ?_
       refine zu8 ?_
       refine ztG rfl rfl (op_seqT rfl rfl rfl rfl) ?_
       refine zv2 ?_
       refine zrt ?_
       exact ResQ_10 rfl hcl trivial ⟨rfl, rfl⟩
     ·(try rw [h5]); replace h5 := zcl h5
      refine AWp_skip ?_
      refine zu1 ?_
      refine zt rfl (zc rfl (unq_any b 0 _ (by omega))) ?_
      refine zv7 ?_
      refine AWp_seq ?_
      refine zu1 ?_
      refine zt rfl (op_neErr rfl Tryd.underlying26 rfl) ?_
      refine zon ?_
      refine AWp_cond rfl (fun h7 => ?_) (fun h7 => ?_)
      ·(try rw [h7]); replace h7 := zcl h7
       refine zw2 ?_
       refine zrt ?_
       exact ResQ_10 rfl hcl trivial ⟨rfl, rfl⟩
      ·(try rw [h7]); replace h7 := zcl h7
       have hb := h7
       refine AWp_skip ?_
       refine zu1 ?_
       refine zt rfl (zc rfl ((unq_bk b _ (by omega) hb).1)) ?_
       refine zt rfl (zc rfl ((unq_bk b _ (by omega) hb).2)) ?_
       refine zv7 ?_
       refine zu8 ?_
       refine ztG rfl rfl (op_seqT rfl rfl rfl rfl) ?_
       refine zv2 ?_
       refine zrt ?_
       exact ResQ_10 rfl hcl trivial ⟨rfl, rfl⟩
end Lg
set_option maxRecDepth 100000
set_option maxHeartbeats 4000000
namespace Go.Proofs.YtnnmpiagmpbebaaDoor
open Go Go.ChangeShapes Go.WideShapes Go.ChangeAt Go.RowKit Go.Lib
open Go.ChangeMaps (open_string shut_string)
noncomputable def strBack_lw (os : Os) : World := World.laidAll Tryd.prog os Rows.strBackRow.laid
theorem strBack_pl : (Rows.strBackRow.laid.all fun x => x.2.handleName?.isNone) = true := by kernel_rfl
theorem strBack_mh (os : Os) (args : Array Value) : laidMetH Tryd.prog Rows.strBackRow.laid ((strBack_lw os).forCall (fun _ _ => 0) ⟨#[], args, []⟩).memory := by
  rw [MakeChecks.laidMetH_plain _ _ _ strBack_pl]; exact laidMet_laidAll _ (by kernel_rfl) (by kernel_rfl)
theorem strBack_lifted (os : Os) (started : os.Started) (H : Type) (enc : TypeId × Value → H) :
    ReturnsInHanded {} Tryd.checked os 3 .any (fun w args => (Rows.strBackSpec.pre enc Tryd.prog Tryd.f3 [] false w args ∧ laidMetH Tryd.prog Rows.strBackRow.laid w) ∧ sizedMet enc Tryd.prog Tryd.f3 (OpenSpec.ofChange Rows.strBackSpec) false w args)
      (Rows.strBackSpec.post enc Tryd.prog Tryd.f3 false true false false) := by
  refine returnsInHanded_of_change_and (C := Tryd.checked) (X := fun w _ => laidMetH Tryd.prog Rows.strBackRow.laid w) (fun _ _ _ hh h => h.of_heap hh) own started (by kernel_rfl) Tryd.func3
    (ChangeSpec.witness_shaped (enc := enc) (C := Tryd.checked) (os := os) (X := fun w _ => laidMetH Tryd.prog Rows.strBackRow.laid w) false (strBack_lw os) #[.string ⟨#[]⟩, .string ⟨#[]⟩, .string ⟨#[]⟩, .int .i64 0, .string ⟨#[]⟩] 8 (World.laidAll_os _ _ _)
      (World.shaped_of_ZipB (by kernel_rfl) (by kernel_rfl)) (by kernel_rfl) (by kernel_rfl) (by kernel_rfl) (strBack_mh os _)) ?_
  intro W base args ds gs before hval0 hW hz0 hz hL _
  have hval : ∀ (j : Nat) t v, Tryd.f3.params[j]? = some t → args[j]? = some v → Value.okWide Tryd.prog W .any base t v := hval0
  have hW' := hW
  obtain ⟨p, q, hA0, hV, rfl, hfz, hnd⟩ := hW
  have hA : DataW.TrodAll enc Tryd.prog W 0 (fun _ => true) true Tryd.f3.params.toList args.toList ds p := hA0
  rw [Tryd.params3] at hA hval hz
  obtain ⟨v0, vs0, d0, ds0, p0, q0, hargs, rfl, rfl, h0, r0⟩ := trodAll_cons hA
  obtain ⟨v1, vs1, d1, ds1, p1, q1, rfl, rfl, rfl, h1, r1⟩ := trodAll_cons r0
  obtain ⟨v2, vs2, d2, ds2, p2, q2, rfl, rfl, rfl, h2, r2⟩ := trodAll_cons r1
  obtain ⟨v3, vs3, d3, ds3, p3, q3, rfl, rfl, rfl, h3, r3⟩ := trodAll_cons r2
  obtain ⟨v4, vs4, d4, ds4, p4, q4, rfl, rfl, rfl, h4, r4⟩ := trodAll_cons r3
  obtain ⟨rfl, rfl, rfl⟩ := trodAll_nil r4
  obtain rfl : args = #[v0, v1, v2, v3, v4] := by cases args; simp_all
  obtain ⟨rfl, rfl⟩ := trodVars_none hV
  obtain ⟨x0, rfl, rfl, rfl, w0⟩ := open_string Tryd.underlying9 (hval 0 9 v0 rfl rfl) h0
  obtain ⟨x1, rfl, rfl, rfl, w1⟩ := open_string Tryd.underlying9 (hval 1 9 v1 rfl rfl) h1
  obtain ⟨x2, rfl, rfl, rfl, w2⟩ := open_string Tryd.underlying9 (hval 2 9 v2 rfl rfl) h2
  obtain ⟨x3, rfl, rfl, rfl, w3⟩ := open_int Tryd.underlying3 (hval 3 3 v3 rfl rfl) h3
  obtain ⟨x4, rfl, rfl, rfl, w4⟩ := open_string Tryd.underlying9 (hval 4 9 v4 rfl rfl) h4
  clear hA0 hval0
  simp only [List.append_nil] at hW'
  have b1 : x1.size ≤ 140737488355328 := by
    have := List.all_eq_true.1 hz x1.data.toList.length (by simp [DataW.weightsEach, DataW.weights])
    have e : x1.data.toList.length = x1.size := Array.length_toList ..
    rw [e] at this; have := of_decide_eq_true this; unfold reachBytes at this; omega
  have hT8 := u8_of strBack_pl hL (by simp [Rows.strBackRow]) (by simp [Rows.strBackRow])
  have hcall := Lg.calls_of (P := Tryd.prog) (f := 3) (args := [.str x0, .str x1, .str x2, .int .i64 x3, .str x4]) (cargs := [.string x0, .string x1, .string x2, .int .i64 x3, .string x4]) (W := W)
    (fun st => (.cons (.str _) (.cons (.str _) (.cons (.str _) (.cons (.int _ _) (.cons (.str _) .nil))))))
    (fun hg => by haveI := Lg.U8.of hT8 hg; exact Lg.strBack_c x0 x1 x2 x3 x4 [] b1)
  refine hcall.mono fun e W' ⟨he, hg⟩ => ?_
  subst he
  refine ⟨_, rfl, _, _, _, [], [], [], hW', trodAll_mk1 (shut_bool Tryd.underlying4 _), ?_, rfl, hg.frame _, fun h => by cases h⟩
  exact (trodAll_cons_mk (shut_string Tryd.underlying9 w0) (trodAll_cons_mk (shut_string Tryd.underlying9 w1) (trodAll_cons_mk (shut_string Tryd.underlying9 w2) (trodAll_cons_mk (shut_int Tryd.underlying3 w3) (trodAll_cons_mk (shut_string Tryd.underlying9 w4) trodAll_mk0)))))
theorem strBack_holds : Rows.StrBackSaid :=
  OpenClaim.holds_of_wide 3 Tryd.f3 rfl rfl rfl rfl rfl rfl rfl ⟨rfl, rfl, rfl, rfl, rfl⟩ rfl rfl rfl rfl rfl (by kernel_rfl) Tryd.func3 (by kernel_rfl)
    (of_decide_eq_true (by kernel_rfl)) (by unfold Func.isWrapper; first | (rw [if_pos (by decide +kernel)]; kernel_rfl) | (rw [if_neg (by decide +kernel)]; exact ⟨rfl, rfl⟩))
    (fun os started H enc _ => strBack_lifted os started H enc)
end Go.Proofs.YtnnmpiagmpbebaaDoor
