/- A part of the proof of Merge of two sorted lists is Sort of both together, either way round; sorted again a list is the same; it has all that was there, and nothing else; under a name it rises, too.. -/
import Derived.Test.YtpcjccmmeaaeaaaDoorF1
import Derived.Test.YtpcjccmmeaaeaaaDoorF2
import Derived.Test.YtpcjccmmeaaeaaaDoorF3
import Derived.Test.YtpcjccmmeaaeaaaDoorF4
import Derived.Test.YtpcjccmmeaaeaaaDoorF5
import Derived.ChangeKeysEq
import Derived.SizedLaws
import Derived.Test.YtpcjccmmeaaeaaaDoorTie
import Derived.Test.YtpcjccmmeaaeaaaDoorCards
import Derived.SevenTiedAt
set_option linter.unusedVariables false
set_option linter.unusedSimpArgs false
set_option linter.unusedSectionVars false
namespace Lg
open Go Go.RowKit
variable [GLay]

section steps
variable {P : Program} {N : Nat} {e : Env} {σ : List AO} {Q : QA} {ops : Array Oper} {o : Oper}

section
variable {D : List (FuncId × List AV)} {l : List (Nat × AV)}
variable {tb : Array Nat} {QR : Env → List AO → Prop} {X : AV → List AO → Prop} {i : Nat} {past : List (Nat × List AO)} {held : List (Nat × (List AO → Prop))}
end
section ints
variable {T T' : TypeId} {x y : Operand} {k : IntKind} {a b : Int}
theorem op_eqlF (ho : o.op = .binOp .eql T x y T') (hx : opv e x = .int k a) (hy : opv e y = .int k b) (h : ¬ a = b) : AOp P σ e o (.bool false) σ := by
  have := op_eql (P := P) (σ := σ) ho hx hy; rwa [decide_eq_false h] at this
end ints
section strs
variable {T T' : TypeId} {x y : Operand} {a b : ByteArray}
end strs

end steps
end Lg
namespace Lg
open Go Go.RowKit
variable [GLay]

variable {P : Program} {N : Nat} {σ : List AO} {e : Env} {Q : QA} {ops : Array Oper} {o : Oper}

section split
variable {D : List (FuncId × List AV)} {l : List (Nat × AV)} {b : Bool}
theorem RP_split {tb : Array Nat} {QR : Env → List AO → Prop} {X : AV → List AO → Prop} {i : Nat} {past : List (Nat × List AO)} {held : List (Nat × (List AO → Prop))} (d : Nat) (hb : lookO l d = some (.bool b))
    (kt : b = true → RP P N ops tb QR X i ⟨D, l⟩ σ past held) (kf : b = false → RP P N ops tb QR X i ⟨D, l⟩ σ past held) : RP P N ops tb QR X i ⟨D, l⟩ σ past held := bool_split b kt kf
end split

end Lg
namespace Lg
open Go

theorem pb_iff (p : Prop) : pb p = true ↔ p := by unfold pb; exact @decide_eq_true_iff p (Classical.propDecidable p)
end Lg
namespace Lg
open Go
end Lg
namespace Lg
open Go Go.RowKit
variable [GLay]
variable {P : Program} {σ : List AO} {e : Env} {o : Oper}
theorem zspr {D : List (FuncId × List AV)} {l : List (Nat × AV)} {N : Nat} {ops : Array Oper} {b : Bool} {tb : Array Nat} {QR : Env → List AO → Prop} {X : AV → List AO → Prop} {i : Nat} {past : List (Nat × List AO)} {held : List (Nat × (List AO → Prop))} (d : Nat) (hb : lookO l d = some (.bool b)) (kt : b = true → RP P N ops tb QR X i ⟨D, l⟩ σ past held) (kf : b = false → RP P N ops tb QR X i ⟨D, l⟩ σ past held) : RP P N ops tb QR X i ⟨D, l⟩ σ past held := RP_split d hb kt kf
theorem zd10 {G R : Prop} (k : R) (h : Hid R → G := by
  intro kk
  iterate 10 (first | refine yS rfl rfl rfl ?_ | refine yAG rfl rfl rfl (fun _ => zoa) ?_ | refine yA rfl rfl (fun _ => zoa) ?_)
  exact kk.h) : G := h ⟨k⟩
end Lg
namespace Lg
open Go Go.Proofs
theorem fs_fs (a : List FT) : fs (fs a) = fs a := SS_ext (fs_SS _) (fs_SS _) fun x => by rw [fs_mem]
theorem fmg_fs (a b : List FT) : fmg (fs a) (fs b) = fs (a ++ b) := SS_ext (fmg_SS (fs_SS a) (fs_SS b)) (fs_SS _) fun c => by rw [fmg_mem, fs_mem, fs_mem, fs_mem]; simp
theorem fmg_fs2 (a b : List FT) : fmg (fs b) (fs a) = fs (a ++ b) := SS_ext (fmg_SS (fs_SS b) (fs_SS a)) (fs_SS _) fun c => by rw [fmg_mem, fs_mem, fs_mem, fs_mem]; simp [or_comm]
theorem bytesLess_app : ∀ (p x y : List UInt8), Op.bytesLess (p ++ x) (p ++ y) = Op.bytesLess x y
  | [], _, _ => rfl
  | b :: p, x, y => by
    show Op.bytesLess (b :: (p ++ x)) (b :: (p ++ y)) = _
    rw [Op.bytesLess, bytesLess_app p x y]
    simp
theorem flt_und (n : ByteArray) (x y : FT) : flt (und n x) (und n y) = flt x y := by
  have e : ∀ (p u v : ByteArray), cmpF (p ++ u) (p ++ v) = cmpF u v := fun p u v => by
    have h : ∀ (z : ByteArray), (p ++ z).toList = p.toList ++ z.toList := fun z => by rw [Lib.toList_data, Lib.toList_data, Lib.toList_data]; simp [ByteArray.data_append]
    unfold cmpF
    rw [h, h, bytesLess_app]
    simp
  unfold flt fcmp und
  rw [e]
theorem und_SS (n : ByteArray) {l : List FT} (h : SS l) : SS (l.map (und n)) := by
  unfold SS at *
  rw [List.pairwise_map]
  exact h.imp fun {x y} hxy => by rw [flt_und]; exact hxy
theorem fs_und (n : ByteArray) (a : List FT) : fs ((fs a).map (und n)) = (fs a).map (und n) := SS_ext (fs_SS _) (und_SS n (fs_SS a)) fun c => by rw [fs_mem]
theorem fs_len [GLay] (a : List FT) : (fs a).length ≤ a.length := by rw [fs_rsort]; have := rsort_len a a.length; rwa [List.take_length] at this
theorem take_mem {l : List FT} {k : Nat} {z x : FT} (h : l[k]? = some z) : x ∈ l.take (k + 1) ↔ x ∈ l.take k ∨ z = x := by
  rw [List.take_add_one, h]; simp [eq_comm]
theorem take_memT {l : List FT} {k : Nat} {z x : FT} (h : l[k]? = some z) (hm : pb (x ∈ l.take k) = true) : pb (x ∈ l.take (k + 1)) = true := by
  exact pb_t ((take_mem h).2 (.inl ((pb_iff _).1 hm)))
theorem take_memF {l : List FT} {k : Nat} {z x : FT} (h : l[k]? = some z) (hm : pb (x ∈ l.take k) = false) : pb (x ∈ l.take (k + 1)) = decide (z = x) := by
  have hm' : ¬ x ∈ l.take k := fun e => by rw [pb_t e] at hm; cases hm
  by_cases e : z = x
  · rw [pb_t ((take_mem h).2 (.inr e)), decide_eq_true e]
  · rw [pb_f (fun hh => ((take_mem h).1 hh).elim hm' e), decide_eq_false e]
end Lg
set_option maxRecDepth 20000
set_option maxHeartbeats 4000000
namespace Lg
open Go Go.Proofs Go.RowKit
variable [GLay] [ML]
theorem faultsBoth_c (f : Bool) (a : List FT) (g : Bool) (b : List FT) (nm : ByteArray) (σ : List AO) (hla : a.length ≤ 140737488355328) (hlb : b.length ≤ 140737488355328) (hs : ∀ x ∈ a, x.1.size ≤ 140737488355328) : ACalls Tryd.prog 4 [.sl f 3 (frows a), .sl g 3 (frows b), .str nm] σ (Ret (.bool true) σ) := by
 refine ACalls_body Tryd.func4 rfl Tryd.ntmps4 (res1 Tryd.results4) (Nat.le_of_ble_eq_true rfl) (fun hcl hal => ?_)
 have hra := frows_len a
 have hrb := frows_len b
 have hrx := frows_len (fs a)
 have hx1 := fs_len a
 have hy1 := fs_len b
 have hxy := fs_len (a ++ b)
 rw [List.length_append] at hxy
 refine zw1 ?_
 refine zsr ?_
 refine zt rfl (zc rfl (up13_c _)) ?_
 refine zv1 ?_
 refine AWp_seq ?_
 refine zu4 ?_
 refine zsp 22 rfl (fun h1 => ?_) fun h1 => ?_
 ·rw [h1]; replace h1 := zcl h1
  refine zv9 ?_
  refine AWp_condT rfl ?_
  refine zw2 ?_
  refine zrt ?_
  exact ResQ_10 rfl hcl trivial (Ret_of rfl)
 ·rw [h1]; replace h1 := zcl h1
  refine zg5 ?_
  refine zsp 27 rfl (fun h2 => ?_) fun h2 => ?_
  ·rw [h2]; replace h2 := zcl h2
   refine zv4 ?_
   refine AWp_condT rfl ?_
   refine zw2 ?_
   refine zrt ?_
   exact ResQ_10 rfl hcl trivial (Ret_of rfl)
  ·rw [h2]; replace h2 := zcl h2
   refine zv4 ?_
   refine AWp_cond rfl (fun h3 => ?_) (fun h3 => ?_)
   ·(try rw [h3]); replace h3 := zcl h3
    refine zw2 ?_
    refine zrt ?_
    exact ResQ_10 rfl hcl trivial (Ret_of rfl)
   ·(try rw [h3]); replace h3 := zcl h3
    have hpz := pth_sz nm (by omega)
    refine AWp_skip ?_
    refine zu1 ?_
    refine zt rfl (zc rfl (fsort_c f a _ (by omega))) ?_
    refine zv1 ?_
    refine zu1 ?_
    refine zt rfl (zc rfl (fsort_c g b _ (by omega))) ?_
    refine zv1 ?_
    refine AWp_seq ?_
    refine AWp_heap (σ' := σ ++ []) (by simp) ?_
    refine AWp_regL ?_
    refine zt rfl (op_buildSlice0 (sz := 3) rfl Tryd.underlying22 Tryd.sizeOf28) ?_
    refine zg1 ?_
    refine zt rfl (op_appendNewT rfl (n := 0) rfl (sz := 3) (m := a.length) (cs := (frows a).flatten) rfl (.inr ⟨_, rfl⟩) Tryd.underlying22 Tryd.underlying22 Tryd.type28 rfl rfl rfl (by decide) (.inr rfl) (by show some ((frows a).flatten, (frows a).length) = _; rw [frows_len]) rfl (ones_frows _) (by show a.length * 48 ≤ _; omega) (by omega) (frows_flen _)) ?_
    refine zg1 ?_
    refine zt rfl (op_appendArrT rfl 0 (sz := 3) (m := b.length) (len := a.length) (cs := (frows b).flatten) rfl (.inr ⟨_, rfl⟩) Tryd.underlying22 Tryd.underlying22 Tryd.type28 rfl rfl rfl (by decide) rfl rfl (frows_flen a).symm (by show some ((frows b).flatten, (frows b).length) = _; rw [frows_len]) rfl (ones_frows _) (by show (a.length + b.length) * 48 ≤ _; omega) (by omega) (frows_flen _)) ?_
    refine AOps_freezeAO 41 0 1 3 (a.length + b.length) (frows (a ++ b)) rfl (by rw [frows_app]; rfl) (frows_el _) (by rw [frows_len, List.length_append]) (by decide) ?_ (by decide)
    refine zt rfl (zc rfl (fsort_c false (a ++ b) _ (by rw [List.length_append]; omega))) ?_
    refine zv1 ?_
    refine AWp_seq ?_
    refine zu2 ?_
    refine zt rfl (zc rfl (fmerge_c (fs a) (fs b) _ (by omega) (by omega))) ?_
    refine zg1 ?_
    refine zt rfl (zc rfl (faults_c false false (fmg (fs a) (fs b)) (fs (a ++ b)) _ (by rw [fmg_fs]; omega) (by omega))) ?_
    rw [pb_t (fmg_fs a b)]
    refine zt rfl (op_eqlF rfl rfl rfl (by decide)) ?_
    refine zg3 ?_
    refine ztG rfl rfl (zc rfl (fmerge_c (fs b) (fs a) _ (by omega) (by omega))) ?_
    refine zg1 ?_
    refine ztG rfl rfl (zc rfl (faults_c false false (fmg (fs b) (fs a)) (fs (a ++ b)) _ (by rw [fmg_fs2]; omega) (by omega))) ?_
    rw [pb_t (fmg_fs2 a b)]
    refine ztG rfl rfl (op_eqlF rfl rfl rfl (by decide)) ?_
    refine zg3 ?_
    refine ztG rfl rfl (zc rfl (fsort_c false (fs a) _ (by omega))) ?_
    refine zg1 ?_
    refine ztG rfl rfl (zc rfl (faults_c false false (fs (fs a)) (fs a) _ (by rw [fs_fs]; omega) (by omega))) ?_
    rw [pb_t (fs_fs a)]
    refine ztG rfl rfl (op_eqlF rfl rfl rfl (by decide)) ?_
    refine zv1 ?_
    refine AWp_condF rfl ?_
    refine AWp_skip ?_
    refine AWp_seq ?_
    refine zw1 ?_
    refine AWp_block ?_
    -- loop 0 LIVE 0:param 2:param 6:assign 7:assign 8:assign 11:assign
    refine AWp_loop (ι := Nat) (fun i => i ≤ a.length) (fun i => ⟨[], [(0, .sl f 3 (frows a)), (2, .str nm), (7, .bool true), (8, .sl false 3 (frows (fs a))), (11, .int .i64 (i : Int))]⟩) (fun i => σ ++ [.dead]) (fun i => a.length - i) (0) (Nat.zero_le _) ?_ rfl (fun i hi => ?_)
    ·exact ⟨rfl, rfl, rfl, rfl, rfl, rfl, trivial⟩
    refine AWp_seq ?_
    refine zw4 ?_
    refine AWp_cond rfl (fun h4 => ?_) (fun h4 => ?_)
    ·(try rw [h4]); replace h4 := zcl h4
     obtain ⟨x, hx⟩ : ∃ x, a[i]? = some x := ⟨_, List.getElem?_eq_getElem (show i < a.length by omega)⟩
     have hxr := frows_get hx
     refine AWp_skip ?_
     refine AWp_seq ?_
     refine AWp_block ?_
     refine zw1 ?_
     refine AWp_seq ?_
     refine zw1 ?_
     refine AWp_block ?_
     -- loop 1 LIVE 0:param 2:param 6:assign 7:assign 8:assign 11:assign 12:assign 13:assign
     refine AWp_loop (ι := Nat) (fun k => k ≤ (fs a).length) (fun k => ⟨[], [(0, .sl f 3 (frows a)), (2, .str nm), (7, .bool true), (8, .sl false 3 (frows (fs a))), (11, .int .i64 (i : Int)), (12, .bool (pb (x ∈ (fs a).take k))), (13, .int .i64 (k : Int))]⟩) (fun k => σ ++ [.dead]) (fun k => (fs a).length - k) (0) (Nat.zero_le _) ?_ rfl (fun k hk => ?_)
     ·exact ⟨rfl, rfl, rfl, rfl, rfl, rfl, (by show AV.bool false = AV.bool _; rw [pb_f (by simp)]), rfl, trivial⟩
     refine AWp_seq ?_
     refine zw4 ?_
     refine AWp_cond rfl (fun h5 => ?_) (fun h5 => ?_)
     ·(try rw [h5]); replace h5 := zcl h5
      obtain ⟨w, hw⟩ : ∃ z, (fs a)[k]? = some z := ⟨_, List.getElem?_eq_getElem (show k < (fs a).length by omega)⟩
      have hwr := frows_get hw
      refine AWp_skip ?_
      refine AWp_seq ?_
      refine AWp_block ?_
      refine AWp_drawL #[0, 1, 3, 3, 15, 31, 3, 3, 195, 451, 1023, 2047, 4095] Tryd.mixed (by decide +kernel) (by decide +kernel) ?_
      refine zd2 ?_
      refine zspr 77 rfl (fun h6 => ?_) fun h6 => ?_
      ·rw [h6]; replace h6 := zcl h6
       refine zd10 ?_
       refine zd1 ?_
       refine RP.nil rfl ?_
       refine AWp_regL ?_
       refine zv3 ?_
       refine ⟨k + 1, σ.length + 1, by omega, by omega, by simp, ⟨rfl, rfl, rfl, rfl, rfl, rfl, ?_, rfl, trivial⟩, closed_own 1 hcl ?_, ?_, take_own 1⟩
       ·show AV.bool _ = AV.bool _; rw [take_memT hw (by first | exact h6 | exact pb_t h6)]
       ·simp [ownLt, AO.cells, AV.ltL, AV.lt]
       ·simp [ltE, AV.lt]
      ·rw [h6]; replace h6 := zcl h6
       refine zd2 ?_
       refine yAG rfl rfl rfl (fun _ => op_indexAddr rfl Tryd.underlying22 Tryd.sizeOf28 rfl rfl (by omega) (hwr)) ?_
       refine zp1 ?_
       refine zd2 ?_
       refine yAG rfl rfl rfl (fun _ => op_indexAddr rfl Tryd.underlying22 Tryd.sizeOf28 rfl rfl (by omega) (hxr)) ?_
       refine zp1 ?_
       refine yAG rfl rfl rfl (fun _ => op_eqSR rfl Tryd.underlying28 (by kernel_rfl) (by kernel_rfl) (.str _ _ _ _ _ _ _ _ (by decide) rfl Tryd.underlying9 (.str _ _ _ _ _ _ _ _ (by decide) rfl Tryd.underlying9 (.str _ _ _ _ _ _ _ _ (by decide) rfl Tryd.underlying9 (.nil _)))) rfl rfl (feq_b w x)) ?_
       refine zd2 ?_
       refine RP.nil rfl ?_
       refine AWp_regL ?_
       refine zv3 ?_
       refine ⟨k + 1, σ.length + 1, by omega, by omega, by simp, ⟨rfl, rfl, rfl, rfl, rfl, rfl, ?_, rfl, trivial⟩, closed_own 1 hcl ?_, ?_, take_own 1⟩
       ·show AV.bool _ = AV.bool _; rw [take_memF hw (by first | exact h6 | exact pb_f h6)]; (try congr 1); (try simp [eq_comm])
       ·simp [ownLt, AO.cells, AV.ltL, AV.lt]
       ·simp [ltE, AV.lt]
     ·(try rw [h5]); replace h5 := zcl h5
      have hke : k = (fs a).length := by omega
      have hin : x ∈ fs a := (fs_mem a).2 (List.mem_of_getElem? hx)
      rw [hke, List.take_length, pb_t hin]
      refine AWp_exit ?_
      refine zw2 ?_
      refine AWp_cond rfl (fun h7 => ?_) (fun h7 => ?_)
      ·(try rw [h7]); replace h7 := zcl h7
       first | exact absurd True.intro h7 | exact absurd rfl h7 | (exfalso; simp at h7; done)
      ·(try rw [h7]); replace h7 := zcl h7
       refine AWp_skip ?_
       refine AWp_regL ?_
       refine zv3 ?_
       refine ⟨i + 1, σ.length + 1, by omega, by omega, by simp, ⟨rfl, rfl, rfl, rfl, rfl, rfl, trivial⟩, closed_own 1 hcl ?_, ?_, take_own 1⟩
       ·simp [ownLt, AO.cells, AV.ltL, AV.lt]
       ·simp [ltE, AV.lt]
    ·(try rw [h4]); replace h4 := zcl h4
     refine AWp_exit ?_
     refine AWp_seq ?_
     refine zw1 ?_
     refine AWp_block ?_
     -- loop 2 LIVE 0:param 2:param 6:assign 7:assign 8:assign 14:assign
     refine AWp_loop (ι := Nat) (fun i => i ≤ (fs a).length) (fun i => ⟨[], [(0, .sl f 3 (frows a)), (2, .str nm), (7, .bool true), (8, .sl false 3 (frows (fs a))), (14, .int .i64 (i : Int))]⟩) (fun i => σ ++ [.dead]) (fun i => (fs a).length - i) (0) (Nat.zero_le _) ?_ rfl (fun i hi => ?_)
     ·exact ⟨rfl, rfl, rfl, rfl, rfl, rfl, trivial⟩
     refine AWp_seq ?_
     refine zw4 ?_
     refine AWp_cond rfl (fun h8 => ?_) (fun h8 => ?_)
     ·(try rw [h8]); replace h8 := zcl h8
      obtain ⟨x, hx⟩ : ∃ z, (fs a)[i]? = some z := ⟨_, List.getElem?_eq_getElem (show i < (fs a).length by omega)⟩
      have hxr := frows_get hx
      refine AWp_skip ?_
      refine AWp_seq ?_
      refine AWp_block ?_
      refine zw1 ?_
      refine AWp_seq ?_
      refine zw1 ?_
      refine AWp_block ?_
      -- loop 3 LIVE 0:param 2:param 6:assign 7:assign 8:assign 14:assign 15:assign 16:assign
      refine AWp_loop (ι := Nat) (fun k => k ≤ a.length) (fun k => ⟨[], [(0, .sl f 3 (frows a)), (2, .str nm), (7, .bool true), (8, .sl false 3 (frows (fs a))), (14, .int .i64 (i : Int)), (15, .bool (pb (x ∈ a.take k))), (16, .int .i64 (k : Int))]⟩) (fun k => σ ++ [.dead]) (fun k => a.length - k) (0) (Nat.zero_le _) ?_ rfl (fun k hk => ?_)
      ·exact ⟨rfl, rfl, rfl, rfl, rfl, rfl, (by show AV.bool false = AV.bool _; rw [pb_f (by simp)]), rfl, trivial⟩
      refine AWp_seq ?_
      refine zw4 ?_
      refine AWp_cond rfl (fun h9 => ?_) (fun h9 => ?_)
      ·(try rw [h9]); replace h9 := zcl h9
       obtain ⟨w, hw⟩ : ∃ z, a[k]? = some z := ⟨_, List.getElem?_eq_getElem (show k < a.length by omega)⟩
       have hwr := frows_get hw
       refine AWp_skip ?_
       refine AWp_seq ?_
       refine AWp_block ?_
       refine AWp_drawL #[0, 1, 3, 3, 15, 31, 3, 3, 195, 451, 1023, 2047, 4095] Tryd.mixed (by decide +kernel) (by decide +kernel) ?_
       refine zd2 ?_
       refine zspr 103 rfl (fun h10 => ?_) fun h10 => ?_
       ·rw [h10]; replace h10 := zcl h10
        refine zd10 ?_
        refine zd1 ?_
        refine RP.nil rfl ?_
        refine AWp_regL ?_
        refine zv3 ?_
        refine ⟨k + 1, σ.length + 1, by omega, by omega, by simp, ⟨rfl, rfl, rfl, rfl, rfl, rfl, ?_, rfl, trivial⟩, closed_own 1 hcl ?_, ?_, take_own 1⟩
        ·show AV.bool _ = AV.bool _; rw [take_memT hw (by first | exact h10 | exact pb_t h10)]
        ·simp [ownLt, AO.cells, AV.ltL, AV.lt]
        ·simp [ltE, AV.lt]
       ·rw [h10]; replace h10 := zcl h10
        refine zd2 ?_
        refine yAG rfl rfl rfl (fun _ => op_indexAddr rfl Tryd.underlying22 Tryd.sizeOf28 rfl rfl (by omega) (hxr)) ?_
        refine zp1 ?_
        refine zd2 ?_
        refine yAG rfl rfl rfl (fun _ => op_indexAddr rfl Tryd.underlying22 Tryd.sizeOf28 rfl rfl (by omega) (hwr)) ?_
        refine zp1 ?_
        refine yAG rfl rfl rfl (fun _ => op_eqSR rfl Tryd.underlying28 (by kernel_rfl) (by kernel_rfl) (.str _ _ _ _ _ _ _ _ (by decide) rfl Tryd.underlying9 (.str _ _ _ _ _ _ _ _ (by decide) rfl Tryd.underlying9 (.str _ _ _ _ _ _ _ _ (by decide) rfl Tryd.underlying9 (.nil _)))) rfl rfl (feq_b x w)) ?_
        refine zd2 ?_
        refine RP.nil rfl ?_
        refine AWp_regL ?_
        refine zv3 ?_
        refine ⟨k + 1, σ.length + 1, by omega, by omega, by simp, ⟨rfl, rfl, rfl, rfl, rfl, rfl, ?_, rfl, trivial⟩, closed_own 1 hcl ?_, ?_, take_own 1⟩
        ·show AV.bool _ = AV.bool _; rw [take_memF hw (by first | exact h10 | exact pb_f h10)]; (try congr 1); (try simp [eq_comm])
        ·simp [ownLt, AO.cells, AV.ltL, AV.lt]
        ·simp [ltE, AV.lt]
      ·(try rw [h9]); replace h9 := zcl h9
       have hke : k = a.length := by omega
       have hin : x ∈ a := (fs_mem a).1 (List.mem_of_getElem? hx)
       rw [hke, List.take_length, pb_t hin]
       refine AWp_exit ?_
       refine zw2 ?_
       refine AWp_cond rfl (fun h11 => ?_) (fun h11 => ?_)
       ·(try rw [h11]); replace h11 := zcl h11
        first | exact absurd True.intro h11 | exact absurd rfl h11 | (exfalso; simp at h11; done)
       ·(try rw [h11]); replace h11 := zcl h11
        refine AWp_skip ?_
        refine AWp_regL ?_
        refine zv3 ?_
        refine ⟨i + 1, σ.length + 1, by omega, by omega, by simp, ⟨rfl, rfl, rfl, rfl, rfl, rfl, trivial⟩, closed_own 1 hcl ?_, ?_, take_own 1⟩
        ·simp [ownLt, AO.cells, AV.ltL, AV.lt]
        ·simp [ltE, AV.lt]
     ·(try rw [h8]); replace h8 := zcl h8
      refine AWp_exit ?_
      refine zu2 ?_
      refine zt rfl (zc rfl (funder_c nm false (fs a) _ (by omega) (by omega) (fun x hx => hs x ((fs_mem a).1 hx)))) ?_
      refine zv1 ?_
      refine zu3 ?_
      refine ztG rfl rfl (zc rfl (fsort_c false ((fs a).map (und nm)) _ (by rw [List.length_map]; omega))) ?_
      refine zg1 ?_
      refine ztG rfl rfl (zc rfl (faults_c false false (fs ((fs a).map (und nm))) ((fs a).map (und nm)) _ (by rw [fs_und, List.length_map]; omega) (by rw [List.length_map]; omega))) ?_
      rw [pb_t (fs_und nm a)]
      refine ztG rfl rfl (op_eqlT rfl rfl rfl rfl) ?_
      refine zv2 ?_
      refine zrt ?_
      exact ResQ_1 rfl hcl trivial (Ret_of rfl)
end Lg
set_option maxRecDepth 100000
set_option maxHeartbeats 4000000
namespace Go.Proofs.YtpcjccmmeaaeaaaDoor
open Go Go.ChangeShapes Go.WideShapes Go.ChangeAt Go.RowKit Go.Lib
open Go.ChangeMaps (open_string shut_string)
noncomputable def faultsBoth_lw (os : Os) : World := World.laidAll Tryd.prog os Rows.faultsBothRow.laid
theorem faultsBoth_pl : (Rows.faultsBothRow.laid.all fun x => x.2.handleName?.isNone) = true := by kernel_rfl
theorem faultsBoth_mh (os : Os) (args : Array Value) : laidMetH Tryd.prog Rows.faultsBothRow.laid ((faultsBoth_lw os).forCall (fun _ _ => 0) ⟨#[], args, []⟩).memory := by
  rw [MakeChecks.laidMetH_plain _ _ _ faultsBoth_pl]; exact laidMet_laidAll _ (by kernel_rfl) (by kernel_rfl)
theorem faultsBoth_lifted (os : Os) (started : os.Started) (H : Type) (enc : TypeId × Value → H) :
    ReturnsInHanded {} Tryd.checked os 4 .any (fun w args => (Rows.faultsBothSpec.pre enc Tryd.prog Tryd.f4 [] false w args ∧ laidMetH Tryd.prog Rows.faultsBothRow.laid w) ∧ sizedMet enc Tryd.prog Tryd.f4 (OpenSpec.ofChange Rows.faultsBothSpec) false w args)
      (Rows.faultsBothSpec.post enc Tryd.prog Tryd.f4 false true false false) := by
  refine Lg.returns_shaped_sized (C := Tryd.checked) (X := fun w _ => laidMetH Tryd.prog Rows.faultsBothRow.laid w) (fun _ _ _ hh h => h.of_heap hh) own started (by kernel_rfl) Tryd.func4
    (ChangeSpec.witness_shaped (enc := enc) (C := Tryd.checked) (os := os) (X := fun w _ => laidMetH Tryd.prog Rows.faultsBothRow.laid w) false (faultsBoth_lw os) #[.slice none 0 0, .slice none 0 0, .string ⟨#[]⟩] 8 (World.laidAll_os _ _ _)
      (World.shaped_of_ZipB (by kernel_rfl) (by kernel_rfl)) (by kernel_rfl) (by kernel_rfl) (by kernel_rfl) (faultsBoth_mh os _)) ?_
  intro W base args ds gs before hval0 hW hz hL hS
  have hval : ∀ (j : Nat) t v, Tryd.f4.params[j]? = some t → args[j]? = some v → Value.okWide Tryd.prog W .any base t v := hval0
  have hW' := hW
  obtain ⟨p, q, hA0, hV, rfl, hfz, hnd⟩ := hW
  have hA : DataW.TrodAll enc Tryd.prog W 0 (fun _ => true) true Tryd.f4.params.toList args.toList ds p := hA0
  rw [Tryd.params4] at hA hval hz
  obtain ⟨v0, vs0, d0, ds0, p0, q0, hargs, rfl, rfl, h0, r0⟩ := trodAll_cons hA
  obtain ⟨v1, vs1, d1, ds1, p1, q1, rfl, rfl, rfl, h1, r1⟩ := trodAll_cons r0
  obtain ⟨v2, vs2, d2, ds2, p2, q2, rfl, rfl, rfl, h2, r2⟩ := trodAll_cons r1
  obtain ⟨rfl, rfl, rfl⟩ := trodAll_nil r2
  obtain rfl : args = #[v0, v1, v2] := by cases args; simp_all
  obtain ⟨rfl, rfl⟩ := trodVars_none hV
  obtain ⟨a0, n0, c0, rfl⟩ := okWide_slice Tryd.underlying22 (hval 0 22 v0 rfl rfl)
  have h0k := h0
  obtain ⟨fu0, hf0⟩ := h0
  obtain ⟨a1, n1, c1, rfl⟩ := okWide_slice Tryd.underlying22 (hval 1 22 v1 rfl rfl)
  have h1k := h1
  obtain ⟨fu1, hf1⟩ := h1
  obtain ⟨x2, rfl, rfl, rfl, w2⟩ := open_string Tryd.underlying9 (hval 2 9 v2 rfl rfl) h2
  clear hA0 hval0
  simp only [List.append_nil] at hW'
  have b2 : x2.size ≤ 140737488355328 := by
    have := List.all_eq_true.1 hz x2.data.toList.length (by simp [DataW.weightsEach, DataW.weights])
    have e : x2.data.toList.length = x2.size := Array.length_toList ..
    rw [e] at this; have := of_decide_eq_true this; unfold reachBytes at this; omega
  have hlt : ∀ x ∈ p0 ++ p1, x.block < W.heap.size := fun x hx => by simpa using hW'.lt x hx
  obtain ⟨x0, hwt0, hl0⟩ := Lg.faults_V Tryd.underlying22 Tryd.underlying28 rfl rfl rfl Tryd.underlying9 Tryd.underlying9 Tryd.underlying9 (by kernel_rfl) (by kernel_rfl) (by kernel_rfl) (by kernel_rfl) (of_decide_eq_true (by kernel_rfl)) hf0
  have hb0 := hwt0 140737488355328 (fun k hk => by
    have := List.all_eq_true.1 hz k (by simp only [DataW.weightsEach, List.cons_append, List.nil_append, List.mem_append]; first | exact .inl hk | exact .inr (.inl hk) | exact .inr (.inr (.inl hk)))
    have := of_decide_eq_true this; unfold reachBytes at this; omega)
  obtain ⟨x1, hwt1, hl1⟩ := Lg.faults_V Tryd.underlying22 Tryd.underlying28 rfl rfl rfl Tryd.underlying9 Tryd.underlying9 Tryd.underlying9 (by kernel_rfl) (by kernel_rfl) (by kernel_rfl) (by kernel_rfl) (of_decide_eq_true (by kernel_rfl)) hf1
  have hb1 := hwt1 140737488355328 (fun k hk => by
    have := List.all_eq_true.1 hz k (by simp only [DataW.weightsEach, List.cons_append, List.nil_append, List.mem_append]; first | exact .inl hk | exact .inr (.inl hk) | exact .inr (.inr (.inl hk)))
    have := of_decide_eq_true this; unfold reachBytes at this; omega)
  have hcall := Lg.calls_of2 (P := Tryd.prog) (f := 4) (args := [.sl false 3 (Lg.frows x0), .sl false 3 (Lg.frows x1), .str x2]) (cargs := [.slice a0 n0 c0, .slice a1 n1 c1, .string x2]) (W := W)
    (fun st hs hok => (.cons (hl0 st hs hok) (.cons (hl1 st hs hok) (.cons (.str _) .nil))))
    (fun hg => by haveI := Lg.ML.of hS hg; exact Lg.faultsBoth_c false x0 false x1 x2 [] hb0.1 hb1.1 hb0.2)
  refine hcall.mono fun e W' ⟨he, hg⟩ => ?_
  subst he
  refine ⟨_, rfl, _, _, _, [], p0 ++ p1, [], hW', trodAll_mk1 (shut_bool Tryd.underlying4 _), ?_, rfl, hg.frame _, fun h => by cases h⟩
  have ht := (trodAll_cons_mk (Below.trod (show laidOutB Tryd.prog = true by kernel_rfl) (by kernel_rfl) (of_decide_eq_true (by kernel_rfl)) h0k hg (fun x hx => hlt x (by simp [hx]))) (trodAll_cons_mk (Below.trod (show laidOutB Tryd.prog = true by kernel_rfl) (by kernel_rfl) (of_decide_eq_true (by kernel_rfl)) h1k hg (fun x hx => hlt x (by simp [hx]))) (trodAll_cons_mk (shut_string Tryd.underlying9 w2) trodAll_mk0)))
  simp only [List.append_nil] at ht
  exact ht
theorem faultsBoth_holds : Rows.FaultsBothSaid :=
  OpenClaim.holds_of_wide 4 Tryd.f4 rfl rfl rfl rfl rfl rfl rfl ⟨rfl, rfl, rfl, rfl, rfl⟩ rfl rfl rfl rfl rfl (by kernel_rfl) Tryd.func4 (by kernel_rfl)
    (of_decide_eq_true (by kernel_rfl)) (by unfold Func.isWrapper; first | (rw [if_pos (by decide +kernel)]; kernel_rfl) | (rw [if_neg (by decide +kernel)]; exact ⟨rfl, rfl⟩))
    (fun os started H enc _ => faultsBoth_lifted os started H enc)
end Go.Proofs.YtpcjccmmeaaeaaaDoor
