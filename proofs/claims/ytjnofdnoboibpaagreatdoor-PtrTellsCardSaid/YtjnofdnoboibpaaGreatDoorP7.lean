/- A part of the proof of For all texts, lists of names and counts the law PtrTells answers true, and they read afterwards as before; the card ties the tables.: M1 Lr7 Sh6 Le2 Le3 Le4 Lr8 X1 Q1 Sh5 P1 Lg35 E0 P2 W5 W9 Qz W8 X2 X3 X4 B5. -/
import Derived.Test.YtjnofdnoboibpaaGreatDoorP6
import Derived.Test.YtjnofdnoboibpaaGreatDoorP4
import Derived.Test.YtjnofdnoboibpaaGreatDoorP3
import Derived.Test.YtjnofdnoboibpaaGreatDoorP5
import Derived.Lib.SlTrimSet
import Derived.Shelf.Strings.SlTrimAscii
import Derived.Shelf.Strconv.Atoi
import Derived.Test.YtjnofdnoboibpaaGreatDoorProg
import Derived.Shelf.Strings.Replace
import Derived.Shelf.Strings.Split
import Derived.Shelf.Strings.Shaped
set_option linter.unusedVariables false
set_option linter.unusedSimpArgs false
set_option linter.unusedSectionVars false
set_option maxRecDepth 20000
set_option maxHeartbeats 4000000
namespace Lg
open Go Go.Proofs Go.RowKit
variable [GLay] 
theorem ba_nil0 {nm : BL} : (ba nm = ⟨#[]⟩) = (nm = []) := propext ⟨fun h => by have := congrArg ByteArray.size h; rw [ba_size] at this; exact List.eq_nil_of_length_eq_zero this, fun h => by subst h; rfl⟩
theorem ba_minus {nm : BL} : (ba nm = ⟨#[45]⟩) = (nm = [45]) := propext ⟨fun h => by have := congrArg (fun b => b.data.toList) h; rwa [ba_toList] at this, fun h => by subst h; rfl⟩
theorem jixB_len {nm : BL} : jixB nm ↔ (nm.length = 0 ∨ ¬ runl (ba nm) 0 = nm.length ∨ (1 < nm.length ∧ (bat (ba nm) 0).toNat = 48) ∨ 18 < nm.length) := by unfold jixB; rw [List.length_eq_zero_iff]
theorem ridx_c (nm : BL) (n : Nat) (e : Bool) (σ : List AO) (hs : nm.length ≤ 1000000) (hn : n ≤ 1000000000) : ACalls Tryz.prog 26 [.str (ba nm), .int .i64 (n : Int), .bool e] σ (Ret (.tup [.int .i64 (jixN nm n e), .bool (jixO nm n e)]) σ) := by
 refine ACalls_body Tryz.func26 rfl Tryz.ntmps26 (res2 Tryz.results26) (Nat.le_of_ble_eq_true rfl) (fun hcl hal => ?_)
 have hbs := ba_size nm
 refine zw2 ?_
 refine AWp_join (ι := Unit) (fun b => ¬ (e = true ∧ nm = [45])) (fun b => ⟨[], [(0, .str (ba nm)), (1, .int .i64 (n : Int)), (2, .bool e), (6, .int .i64 0), (7, .bool false)]⟩) (fun b => σ) ?_ (fun b hj => ?_)
 ·skip
  refine zu2 ?_
  refine zsp 11 rfl (fun h1 => ?_) fun h1 => ?_
  ·rw [h1]; replace h1 := zcl h1
   refine zv3 ?_
   refine AWp_cond rfl (fun h2 => ?_) (fun h2 => ?_)
   ·(try rw [h2]); replace h2 := zcl h2
    refine zw3 ?_
    refine zrt ?_
    obtain ⟨q1, q2⟩ := jix_minus (n := n) (e := true) rfl (ba_minus ▸ h2)
    rw [q1, q2]
    exact ResQ_20 rfl rfl hcl (by simp [AV.lt, AV.ltL]) (Ret_of rfl)
   ·(try rw [h2]); replace h2 := zcl h2
    refine AWp_skip ?_
    exact ⟨(), (fun x => h2 (ba_minus ▸ x.2)), ⟨rfl, rfl, rfl, rfl, rfl, rfl, trivial⟩, rfl⟩
  ·rw [h1]; replace h1 := zcl h1
   refine zv3 ?_
   refine AWp_condF rfl ?_
   refine AWp_skip ?_
   exact ⟨(), (fun x => by cases x.1), ⟨rfl, rfl, rfl, rfl, rfl, rfl, trivial⟩, rfl⟩
 ·skip
  have hj0 := hj
  clear hj
  refine AWp_seq ?_
  refine AWp_join (ι := Bool) (fun b => b = decide (jixB nm)) (fun b => ⟨[], [(0, .str (ba nm)), (1, .int .i64 (n : Int)), (2, .bool e), (6, .int .i64 0), (7, .bool false), (39, .bool b)]⟩) (fun b => σ) ?_ (fun b hj => ?_)
  ·skip
   refine AWp_regL ?_
   refine zg3 ?_
   refine zsp 18 rfl (fun h3 => ?_) fun h3 => ?_
   ·rw [h3]; replace h3 := zcl h3
    refine zg20 ?_
    refine zg1 ?_
    refine zon ?_
    refine ⟨_, ?_, ⟨rfl, rfl, rfl, rfl, rfl, rfl, rfl, trivial⟩, rfl⟩
    (try rw [ba_nil0, ← List.length_eq_zero_iff] at h3)
    (try rw [show ((0 : Int).toNat) = 0 from rfl] at h4)
    (try rw [show ((0 : Int).toNat) = 0 from rfl] at h6)
    first | exact (decide_eq_true (jixB_len.2 (by omega))).symm | exact (decide_eq_false (fun x => by have := jixB_len.1 x; omega)).symm | exact decide_eq_decide.2 (by rw [jixB_len]; omega)
   ·rw [h3]; replace h3 := zcl h3
    refine zg1 ?_
    refine ztG rfl rfl (zc rfl (run_c _ _ _ (by omega) (by omega) (by omega))) ?_
    refine zg5 ?_
    refine zsp 25 rfl (fun h4 => ?_) fun h4 => ?_
    ·rw [h4]; replace h4 := zcl h4
     refine zg10 ?_
     refine zg4 ?_
     refine zon ?_
     refine ⟨_, ?_, ⟨rfl, rfl, rfl, rfl, rfl, rfl, rfl, trivial⟩, rfl⟩
     (try rw [ba_nil0, ← List.length_eq_zero_iff] at h3)
     (try rw [show ((0 : Int).toNat) = 0 from rfl] at h4)
     (try rw [show ((0 : Int).toNat) = 0 from rfl] at h6)
     first | exact (decide_eq_true (jixB_len.2 (by omega))).symm | exact (decide_eq_false (fun x => by have := jixB_len.1 x; omega)).symm | exact decide_eq_decide.2 (by rw [jixB_len]; omega)
    ·rw [h4]; replace h4 := zcl h4
     refine zg4 ?_
     refine zsp 29 rfl (fun h5 => ?_) fun h5 => ?_
     ·rw [h5]; replace h5 := zcl h5
      refine zg6 ?_
      refine zsp 35 rfl (fun h6 => ?_) fun h6 => ?_
      ·rw [h6]; replace h6 := zcl h6
       refine zv4 ?_
       refine ⟨_, ?_, ⟨rfl, rfl, rfl, rfl, rfl, rfl, rfl, trivial⟩, rfl⟩
       (try rw [ba_nil0, ← List.length_eq_zero_iff] at h3)
       (try rw [show ((0 : Int).toNat) = 0 from rfl] at h4)
       (try rw [show ((0 : Int).toNat) = 0 from rfl] at h6)
       first | exact (decide_eq_true (jixB_len.2 (by omega))).symm | exact (decide_eq_false (fun x => by have := jixB_len.1 x; omega)).symm | exact decide_eq_decide.2 (by rw [jixB_len]; omega)
      ·rw [h6]; replace h6 := zcl h6
       refine zv4 ?_
       refine ⟨_, ?_, ⟨rfl, rfl, rfl, rfl, rfl, rfl, rfl, trivial⟩, rfl⟩
       (try rw [ba_nil0, ← List.length_eq_zero_iff] at h3)
       (try rw [show ((0 : Int).toNat) = 0 from rfl] at h4)
       (try rw [show ((0 : Int).toNat) = 0 from rfl] at h6)
       first | exact (decide_eq_true (jixB_len.2 (by omega))).symm | exact (decide_eq_false (fun x => by have := jixB_len.1 x; omega)).symm | exact decide_eq_decide.2 (by rw [jixB_len]; omega)
     ·rw [h5]; replace h5 := zcl h5
      refine zg10 ?_
      refine zon ?_
      refine ⟨_, ?_, ⟨rfl, rfl, rfl, rfl, rfl, rfl, rfl, trivial⟩, rfl⟩
      (try rw [ba_nil0, ← List.length_eq_zero_iff] at h3)
      (try rw [show ((0 : Int).toNat) = 0 from rfl] at h4)
      (try rw [show ((0 : Int).toNat) = 0 from rfl] at h6)
      first | exact (decide_eq_true (jixB_len.2 (by omega))).symm | exact (decide_eq_false (fun x => by have := jixB_len.1 x; omega)).symm | exact decide_eq_decide.2 (by rw [jixB_len]; omega)
  ·skip
   subst hj
   refine AWp_cond rfl (fun h7 => ?_) (fun h7 => ?_)
   ·(try rw [h7]); replace h7 := zcl h7
    refine zw2 ?_
    refine zrt ?_
    obtain ⟨q1, q2⟩ := jix_bad (n := n) hj0 (by simpa using h7)
    rw [q1, q2]
    exact ResQ_20 rfl rfl hcl (by simp [AV.lt, AV.ltL]) (Ret_of rfl)
   ·(try rw [h7]); replace h7 := zcl h7
    have hb : ¬ jixB nm := by simpa using h7
    obtain ⟨hd, hl0, hl18⟩ := jixB_aD hb
    have hv0 := valL_bd hd
    refine AWp_skip ?_
    refine zw1 ?_
    refine AWp_seq ?_
    refine zw1 ?_
    refine AWp_block ?_
    -- loop 0 LIVE 0:param 1:param 2:param 6:assign 7:assign 8:assign 9:assign
    refine AWp_loop (ι := Nat) (fun i => i ≤ nm.length) (fun i => ⟨[], [(0, .str (ba nm)), (1, .int .i64 (n : Int)), (2, .bool e), (6, .int .i64 0), (7, .bool false), (8, .int .i64 (valL 0 (nm.take i))), (9, .int .i64 (i : Int))]⟩) (fun i => σ) (fun i => nm.length - i) (0) (Nat.zero_le _) ?_ rfl (fun i hi => ?_)
    ·repeat' first | rfl | trivial | constructor
    refine AWp_seq ?_
    refine zw4 ?_
    refine AWp_cond rfl (fun h8 => ?_) (fun h8 => ?_)
    ·(try rw [h8]); replace h8 := zcl h8
     obtain ⟨c, hc⟩ : ∃ c, nm[i]? = some c := ⟨_, List.getElem?_eq_getElem (show i < nm.length by omega)⟩
     have hb1 := valL_take hd hl18 (show i < nm.length by omega)
     have hc256 := c.toNat_lt
     have hbc : bat (ba nm) i = c := by rw [bat_ba, List.getD_eq_getElem?_getD, hc]; rfl
     have hbt : (bat (ba nm) (i : Int).toNat).toNat = c.toNat := by rw [Int.toNat_natCast, hbc]
     refine AWp_skip ?_
     refine AWp_seq ?_
     refine AWp_block ?_
     refine AWp_regL ?_
     refine zv9 ?_
     refine AWp_regL ?_
     refine zv3 ?_
     refine ⟨i + 1, σ.length, by omega, by omega, Nat.le_refl _, ⟨rfl, rfl, rfl, rfl, rfl, rfl, ?_, rfl, trivial⟩, hcl, by simp [ltE, AV.lt], List.take_length⟩
     have hst := valL_step hc
     rw [← hbt] at hst
     rw [hst]; rfl
    ·(try rw [h8]); replace h8 := zcl h8
     have hie : i = nm.length := by omega
     subst hie
     rw [List.take_length]
     refine AWp_exit ?_
     refine AWp_seq ?_
     refine zu4 ?_
     refine zsp 57 rfl (fun h9 => ?_) fun h9 => ?_
     ·rw [h9]; replace h9 := zcl h9
      refine zv7 ?_
      refine AWp_condT rfl ?_
      refine zw3 ?_
      refine zrt ?_
      obtain ⟨q1, q2⟩ := jix_val hj0 hb hv0.1 (.inl h9)
      rw [q1, q2]
      exact ResQ_20 rfl rfl hcl (by simp [AV.lt, AV.ltL]) (Ret_of rfl)
     ·rw [h9]; replace h9 := zcl h9
      refine zg4 ?_
      refine zsp 61 rfl (fun h10 => ?_) fun h10 => ?_
      ·rw [h10]; replace h10 := zcl h10
       refine zv3 ?_
       refine AWp_cond rfl (fun h11 => ?_) (fun h11 => ?_)
       ·(try rw [h11]); replace h11 := zcl h11
        refine zw3 ?_
        refine zrt ?_
        subst h11
        obtain ⟨q1, q2⟩ := jix_val hj0 hb hv0.1 (.inr ⟨h10, rfl⟩)
        rw [q1, q2]
        exact ResQ_20 rfl rfl hcl (by simp [AV.lt, AV.ltL]) (Ret_of rfl)
       ·(try rw [h11]); replace h11 := zcl h11
        refine AWp_skip ?_
        refine zw2 ?_
        refine zrt ?_
        have he : e = false := by simpa using h11
        subst he
        obtain ⟨q1, q2⟩ := jix_big (n := n) hj0 hb (fun x => x.elim (by omega) (fun y => by cases y.2))
        rw [q1, q2]
        exact ResQ_20 rfl rfl hcl (by simp [AV.lt, AV.ltL]) (Ret_of rfl)
      ·rw [h10]; replace h10 := zcl h10
       refine zv3 ?_
       refine AWp_condF rfl ?_
       refine AWp_skip ?_
       refine zw2 ?_
       refine zrt ?_
       obtain ⟨q1, q2⟩ := jix_big hj0 hb (fun x => x.elim (by omega) (fun y => h10 y.1))
       rw [q1, q2]
       exact ResQ_20 rfl rfl hcl (by simp [AV.lt, AV.ltL]) (Ret_of rfl)
end Lg
namespace Lg
open Go
/-! ### A name of digits: strings.Trim and strconv.Atoi -/
def dgs : BL := [48, 49, 50, 51, 52, 53, 54, 55, 56, 57]
theorem dgs_isD (b : UInt8) : dgs.contains b = isD b := by
  revert b
  have h : ∀ n : Fin 256, dgs.contains (UInt8.ofNat n.val) = isD (UInt8.ofNat n.val) := by decide +kernel
  intro b
  have := h ⟨b.toNat, b.toNat_lt⟩
  simpa using this
theorem dwp_nil {p : UInt8 → Bool} {l : BL} : l.dropWhile p = [] ↔ ∀ b ∈ l, p b = true := by
  induction l with
  | nil => simp
  | cons a r ih =>
    rw [List.dropWhile_cons]
    cases h : p a with
    | true => simp [h, ih]
    | false => simp [h]
theorem trim_nil (l : BL) : Lib.trimS l dgs = [] ↔ aD l := by
  unfold Lib.trimS Lib.trimLeftS Lib.trimRightS aD
  rw [dwp_nil]
  constructor
  · intro h b hb
    rw [← dgs_isD]
    by_cases hx : b ∈ (l.reverse.dropWhile (dgs.contains ·)).reverse
    · exact h b hx
    · have hr : b ∈ l.reverse := List.mem_reverse.2 hb
      rw [← List.takeWhile_append_dropWhile (p := (dgs.contains ·)) (l := l.reverse)] at hr
      rcases List.mem_append.1 hr with h1 | h1
      · exact List.all_eq_true.1 (List.all_takeWhile (p := (dgs.contains ·)) (l := l.reverse)) b h1
      · exact absurd (List.mem_reverse.2 h1) hx
  · intro h b hb
    rw [dgs_isD]
    exact h b (List.mem_reverse.1 ((List.dropWhile_sublist _).mem (List.mem_reverse.1 hb)))
theorem aD_run {l : BL} : aD l ↔ runl (ba l) 0 = l.length := by
  rw [runl_ba]
  constructor
  · intro h
    congr 1
    induction l with
    | nil => rfl
    | cons a r ih =>
      rw [List.takeWhile_cons, if_pos (h a (List.mem_cons_self ..)), ih (fun b hb => h b (List.mem_cons_of_mem _ hb))]
  · exact aD_of_len
theorem atoi_dig {l : BL} (h : aD l) (h0 : 0 < l.length) : Lib.atoi l = some (valL 0 l) := by
  cases l with
  | nil => simp at h0
  | cons b r =>
    have hb := (isD_iff b).1 (h b (List.mem_cons_self ..))
    have n1 : ¬ (b == 45) = true := fun e => by have := eq_of_beq e; subst this; revert hb; decide
    have n2 : ¬ (b == 43) = true := fun e => by have := eq_of_beq e; subst this; revert hb; decide
    obtain ⟨h1, h2, _⟩ := valL_nat (b :: r) 0 h
    have e2 : Lib.atoi (b :: r) = (Lib.decNat (b :: r)).map fun (m : Nat) => (m : Int) := by rw [Lib.atoi, if_neg n1, if_neg n2]
    have e3 : Lib.decNat (b :: r) = Lib.decFrom 0 (b :: r) := rfl
    have e : valL ((0 : Nat) : Int) (b :: r) = valL 0 (b :: r) := rfl
    rw [e] at h1 h2
    rw [e2, e3, h1]
    simp only [Option.map_some, Option.some.injEq]
    omega
end Lg
set_option maxRecDepth 20000
set_option maxHeartbeats 4000000
namespace Go.Proofs
open Go.Shelf
def Tryz.lays160_ren : Go.Shelf.Ren := ⟨fun | 160 => 52 | 232 => 70 | 231 => 69 | 227 => 71 | 234 => 73 | 233 => 72 | 236 => 75 | 235 => 74 | 228 => 99 | 271 => 101 | 151 => 100 | 197 => 97 | 120 => 126 | 152 => 125 | 260 => 124 | 137 => 131 | 119 => 153 | 224 => 149 | 225 => 148 | 217 => 147 | 266 => 164 | n => n, fun | 9 => 9 | 4 => 4 | 3 => 3 | 5 => 5 | 117 => 109 | 116 => 108 | 0 => 0 | 124 => 112 | 21 => 21 | 105 => 127 | 46 => 121 | 119 => 165 | 139 => 168 | 138 => 167 | n => n, fun | 3 => 3 | 4 => 4 | n => n⟩
theorem Tryz.lays160 : Go.Proofs.Lays.n160 Tryz.prog Tryz.lays160_ren := {
  mixed := by kernel_rfl, f119 := Tryz.func153.trans (congrArg some (by kernel_rfl)), f120 := Tryz.func126.trans (congrArg some (by kernel_rfl)), f137 := Tryz.func131.trans (congrArg some (by kernel_rfl)), f151 := Tryz.func100.trans (congrArg some (by kernel_rfl)), f152 := Tryz.func125.trans (congrArg some (by kernel_rfl)), f160 := Tryz.func52.trans (congrArg some (by kernel_rfl)), f197 := Tryz.func97.trans (congrArg some (by kernel_rfl)), f217 := Tryz.func147.trans (congrArg some (by kernel_rfl)), f224 := Tryz.func149.trans (congrArg some (by kernel_rfl)), f225 := Tryz.func148.trans (congrArg some (by kernel_rfl)), f227 := Tryz.func71.trans (congrArg some (by kernel_rfl)), f228 := Tryz.func99.trans (congrArg some (by kernel_rfl)), f231 := Tryz.func69.trans (congrArg some (by kernel_rfl)), f232 := Tryz.func70.trans (congrArg some (by kernel_rfl)), f233 := Tryz.func72.trans (congrArg some (by kernel_rfl)), f234 := Tryz.func73.trans (congrArg some (by kernel_rfl)), f235 := Tryz.func74.trans (congrArg some (by kernel_rfl)), f236 := Tryz.func75.trans (congrArg some (by kernel_rfl)), f260 := Tryz.func124.trans (congrArg some (by kernel_rfl)), f266 := Tryz.func164.trans (congrArg some (by kernel_rfl)), f271 := Tryz.func101.trans (congrArg some (by kernel_rfl)), t0 := Tryz.underlying0, a0 := Tryz.isAgg0, z0 := Tryz.sizeOf0, v0 := Tryz.zeroValue0, t3 := Tryz.underlying3, a3 := Tryz.isAgg3, z3 := Tryz.sizeOf3, v3 := Tryz.zeroValue3, t4 := Tryz.underlying4, a4 := Tryz.isAgg4, z4 := Tryz.sizeOf4, v4 := Tryz.zeroValue4, t5 := Tryz.underlying5, a5 := Tryz.isAgg5, z5 := Tryz.sizeOf5, v5 := Tryz.zeroValue5, t9 := Tryz.underlying9, a9 := Tryz.isAgg9, z9 := Tryz.sizeOf9, v9 := Tryz.zeroValue9, t21 := Tryz.underlying21, a21 := Tryz.isAgg21, z21 := Tryz.sizeOf21, v21 := Tryz.zeroValue21, t46 := Tryz.underlying121, a46 := Tryz.isAgg121, z46 := Tryz.sizeOf121, v46 := Tryz.zeroValue121, t105 := Tryz.underlying127, a105 := Tryz.isAgg127, z105 := Tryz.sizeOf127, v105 := Tryz.zeroValue127, t116 := Tryz.underlying108, a116 := Tryz.isAgg108, z116 := Tryz.sizeOf108, t117 := Tryz.underlying109, a117 := Tryz.isAgg109, z117 := Tryz.sizeOf109, v117 := Tryz.zeroValue109, t119 := Tryz.underlying165, a119 := Tryz.isAgg165, z119 := Tryz.sizeOf165, t124 := Tryz.underlying112, a124 := Tryz.isAgg112, z124 := Tryz.sizeOf112, v124 := Tryz.zeroValue112, t138 := Tryz.underlying167, a138 := Tryz.isAgg167, z138 := Tryz.sizeOf167, v138 := Tryz.zeroValue167, t139 := Tryz.underlying168, a139 := Tryz.isAgg168, z139 := Tryz.sizeOf168, v139 := Tryz.zeroValue168, g3 := by kernel_rfl, g4 := by kernel_rfl }
def Tryz.lays172_ren : Go.Shelf.Ren := ⟨fun | 172 => 53 | 244 => 76 | 245 => 77 | 247 => 102 | 279 => 103 | 280 => 104 | 281 => 105 | 282 => 106 | 287 => 127 | 316 => 128 | 171 => 130 | 205 => 129 | 321 => 154 | 322 => 155 | 243 => 156 | 246 => 166 | 283 => 188 | 284 => 189 | 285 => 190 | 286 => 191 | 129 => 182 | 317 => 205 | 318 => 206 | 319 => 207 | 320 => 208 | 337 => 213 | 338 => 214 | n => n, fun | 9 => 9 | 3 => 3 | 75 => 35 | 76 => 85 | 4 => 4 | 5 => 5 | 167 => 131 | 37 => 82 | 0 => 0 | 85 => 132 | 2 => 2 | 168 => 134 | 53 => 149 | 175 => 150 | 46 => 121 | 210 => 153 | 127 => 147 | 145 => 173 | 143 => 171 | 21 => 21 | 171 => 214 | 173 => 216 | 212 => 240 | 51 => 183 | 20 => 20 | 213 => 241 | 232 => 248 | 233 => 249 | 80 => 116 | n => n, fun | 15 => 0 | 16 => 1 | 17 => 6 | 18 => 7 | 19 => 8 | n => n⟩
theorem Tryz.lays172 : Go.Proofs.Lays.n172 Tryz.prog Tryz.lays172_ren := {
  mixed := by kernel_rfl, f129 := Tryz.func182.trans (congrArg some (by kernel_rfl)), f171 := Tryz.func130.trans (congrArg some (by kernel_rfl)), f172 := Tryz.func53.trans (congrArg some (by kernel_rfl)), f205 := Tryz.func129.trans (congrArg some (by kernel_rfl)), f243 := Tryz.func156.trans (congrArg some (by kernel_rfl)), f244 := Tryz.func76.trans (congrArg some (by kernel_rfl)), f245 := Tryz.func77.trans (congrArg some (by kernel_rfl)), f246 := Tryz.func166.trans (congrArg some (by kernel_rfl)), f247 := Tryz.func102.trans (congrArg some (by kernel_rfl)), f279 := Tryz.func103.trans (congrArg some (by kernel_rfl)), f280 := Tryz.func104.trans (congrArg some (by kernel_rfl)), f281 := Tryz.func105.trans (congrArg some (by kernel_rfl)), f282 := Tryz.func106.trans (congrArg some (by kernel_rfl)), f283 := Tryz.func188.trans (congrArg some (by kernel_rfl)), f284 := Tryz.func189.trans (congrArg some (by kernel_rfl)), f285 := Tryz.func190.trans (congrArg some (by kernel_rfl)), f286 := Tryz.func191.trans (congrArg some (by kernel_rfl)), f287 := Tryz.func127.trans (congrArg some (by kernel_rfl)), f316 := Tryz.func128.trans (congrArg some (by kernel_rfl)), f317 := Tryz.func205.trans (congrArg some (by kernel_rfl)), f318 := Tryz.func206.trans (congrArg some (by kernel_rfl)), f319 := Tryz.func207.trans (congrArg some (by kernel_rfl)), f320 := Tryz.func208.trans (congrArg some (by kernel_rfl)), f321 := Tryz.func154.trans (congrArg some (by kernel_rfl)), f322 := Tryz.func155.trans (congrArg some (by kernel_rfl)), f337 := Tryz.func213.trans (congrArg some (by kernel_rfl)), f338 := Tryz.func214.trans (congrArg some (by kernel_rfl)), t0 := Tryz.underlying0, a0 := Tryz.isAgg0, z0 := Tryz.sizeOf0, v0 := Tryz.zeroValue0, t2 := Tryz.underlying2, a2 := Tryz.isAgg2, z2 := Tryz.sizeOf2, v2 := Tryz.zeroValue2, t3 := Tryz.underlying3, a3 := Tryz.isAgg3, z3 := Tryz.sizeOf3, v3 := Tryz.zeroValue3, t4 := Tryz.underlying4, a4 := Tryz.isAgg4, z4 := Tryz.sizeOf4, v4 := Tryz.zeroValue4, t5 := Tryz.underlying5, a5 := Tryz.isAgg5, z5 := Tryz.sizeOf5, v5 := Tryz.zeroValue5, t9 := Tryz.underlying9, a9 := Tryz.isAgg9, z9 := Tryz.sizeOf9, v9 := Tryz.zeroValue9, t20 := Tryz.underlying20, a20 := Tryz.isAgg20, z20 := Tryz.sizeOf20, v20 := Tryz.zeroValue20, t21 := Tryz.underlying21, a21 := Tryz.isAgg21, z21 := Tryz.sizeOf21, v21 := Tryz.zeroValue21, t37 := Tryz.underlying82, a37 := Tryz.isAgg82, z37 := Tryz.sizeOf82, v37 := Tryz.zeroValue82, t46 := Tryz.underlying121, a46 := Tryz.isAgg121, z46 := Tryz.sizeOf121, v46 := Tryz.zeroValue121, t51 := Tryz.underlying183, a51 := Tryz.isAgg183, z51 := Tryz.sizeOf183, v51 := Tryz.zeroValue183, t53 := Tryz.underlying149, a53 := Tryz.isAgg149, z53 := Tryz.sizeOf149, v53 := Tryz.zeroValue149, t75 := Tryz.underlying35, a75 := Tryz.isAgg35, z75 := Tryz.sizeOf35, v75 := Tryz.zeroValue35, t76 := Tryz.underlying85, a76 := Tryz.isAgg85, z76 := Tryz.sizeOf85, v76 := Tryz.zeroValue85, t85 := Tryz.underlying132, a85 := Tryz.isAgg132, z85 := Tryz.sizeOf132, v85 := Tryz.zeroValue132, t127 := Tryz.underlying147, a127 := Tryz.isAgg147, z127 := Tryz.sizeOf147, v127 := Tryz.zeroValue147, t143 := Tryz.underlying171, a143 := Tryz.isAgg171, z143 := Tryz.sizeOf171, v143 := Tryz.zeroValue171, t145 := Tryz.underlying173, a145 := Tryz.isAgg173, z145 := Tryz.sizeOf173, v145 := Tryz.zeroValue173, t167 := Tryz.underlying131, a167 := Tryz.isAgg131, z167 := Tryz.sizeOf131, v167 := Tryz.zeroValue131, t168 := Tryz.underlying134, a168 := Tryz.isAgg134, z168 := Tryz.sizeOf134, v168 := Tryz.zeroValue134, t171 := Tryz.underlying214, a171 := Tryz.isAgg214, z171 := Tryz.sizeOf214, v171 := Tryz.zeroValue214, t173 := Tryz.underlying216, a173 := Tryz.isAgg216, z173 := Tryz.sizeOf216, v173 := Tryz.zeroValue216, t175 := Tryz.underlying150, a175 := Tryz.isAgg150, z175 := Tryz.sizeOf150, v175 := Tryz.zeroValue150, t210 := Tryz.underlying153, a210 := Tryz.isAgg153, z210 := Tryz.sizeOf153, v210 := Tryz.zeroValue153, t212 := Tryz.underlying240, a212 := Tryz.isAgg240, z212 := Tryz.sizeOf240, v212 := Tryz.zeroValue240, t213 := Tryz.underlying241, a213 := Tryz.isAgg241, z213 := Tryz.sizeOf241, t232 := Tryz.underlying248, a232 := Tryz.isAgg248, z232 := Tryz.sizeOf248, v232 := Tryz.zeroValue248, t233 := Tryz.underlying249, a233 := Tryz.isAgg249, z233 := Tryz.sizeOf249, v233 := Tryz.zeroValue249, g15 := by kernel_rfl, g16 := by kernel_rfl, g17 := by kernel_rfl, g18 := by kernel_rfl, g19 := by kernel_rfl }
end Go.Proofs
namespace Lg
open Go Go.Proofs Go.RowKit
variable [GLay]
theorem trimD_c (s : ByteArray) (σ : List AO) (hs : s.size ≤ 1000000) : ACalls Tryz.prog 52 [.str s, .str ⟨#[48, 49, 50, 51, 52, 53, 54, 55, 56, 57]⟩] σ (Ret (.str ⟨(Lib.trimS s.data.toList dgs).toArray⟩) σ) :=
  ACalls_below fun st cargs g hp => by
    obtain ⟨q, qs, rfl, h1, h2⟩ := hp.inv_cons
    obtain ⟨q2, qs2, rfl, h3, h4⟩ := h2.inv_cons
    obtain rfl := h4.inv_nil
    obtain rfl := h1.inv_str
    obtain rfl := h3.inv_str
    exact ⟨_, fun _ => .str _, Any.strings_Trim_laid Tryz.lays160 (by kernel_rfl) s ⟨#[48, 49, 50, 51, 52, 53, 54, 55, 56, 57]⟩ st.w (by omega) (by decide) (ascii_of_all (by decide))⟩
theorem PW.str1' {s : CS} {b : ByteArray} {vs : List Value} (h : PW s [.str b] vs) : vs = [.string b] := by
  obtain ⟨h1, h2⟩ := h
  match vs, h1 with
  | [v], _ => rw [(h2 0 (.str b) v rfl rfl).inv_str]
theorem atoi_c (s : ByteArray) (n : Int) (σ : List AO) (hs : s.size ≤ 18) (h : Go.Lib.atoi s.data.toList = some n) : ACalls Tryz.prog 53 [.str s] σ (Ret (.tup [.int .i64 n, .nili]) σ) :=
  ACalls_below fun st cargs g hp => by
    rw [hp.str1']
    refine ⟨.tuple #[.int .i64 n, .nilIface], fun _ => ?_, (Any.strconv_Atoi Tryz.lays172 s n hs h st.w).mono ?_⟩
    rotate_left
    · rintro e w' ⟨rfl, t, rfl⟩
      exact ⟨rfl, rfl, rfl, rfl, by rw [Go.Lib.bytesWorld_size]; omega, fun j hj => Go.Lib.bytesWorld_at_old st.w _ t j hj⟩
    · exact .tup [.int .i64 n, .nili] [.int .i64 n, .nilIface] rfl (fun i c v h1 h2 => by
        match i, h1, h2 with
        | 0, h1, h2 => cases h1; cases h2; exact .int _ _
        | 1, h1, h2 => cases h1; cases h2; exact .nili)
end Lg
namespace Lg
open Go
def jeK (op : Int) (nm : BL) (last : Bool) (v : JV) : Int := jixN nm v.l.length (decide (op = 1) && last)
def jeO (op : Int) (nm : BL) (last : Bool) (v : JV) : Bool := jixO nm v.l.length (decide (op = 1) && last)
theorem jeK_nat {op : Int} {nm : BL} {last : Bool} {v : JV} : ∃ k : Nat, jeK op nm last v = k ∧ (jeO op nm last v = true → k ≤ v.l.length ∧ (last = false → k < v.l.length)) := by
  unfold jeK jeO jixN jixO
  cases h : jidx nm v.l.length (decide (op = 1) && last) with
  | none => exact ⟨0, rfl, fun x => by cases x⟩
  | some k =>
    have h1 := jidx_le h
    exact ⟨k, rfl, fun _ => ⟨h1.1, fun hl => h1.2 (by simp [hl])⟩⟩
variable {op : Int} {x v : JV} {nm : BL} {r : List BL}
theorem jed_nil2 : jed 2 x [] v = (vz, 7) := rfl
theorem jed_nil (h : ¬ op = 2) : jed op x [] v = (x, 0) := by rw [jed, if_neg h]
variable {last : Bool} {k : Nat}
theorem jedA_no (hl : r.isEmpty = last) (h4 : v.kind = 4) (ho : jeO op nm last v = false) : jed op x (nm :: r) v = (vz, 6) := by
  subst hl
  rw [jed, if_pos h4, if_neg]; show ¬ jeO op nm r.isEmpty v = true; simp [ho]
theorem jedA_bad (hl : r.isEmpty = last) (h4 : v.kind = 4) (hk : jeK op nm last v = k) (ho : jeO op nm last v = true) (hr : last = false) {a : JV} (ha : v.l[k]? = some a) (hb : ¬ (jed op x r a).2 = 0) : jed op x (nm :: r) v = (vz, (jed op x r a).2) := by
  have e1 : (jixN nm v.l.length (decide (op = 1) && r.isEmpty)).toNat = k := by subst hl; show (jeK op nm r.isEmpty v).toNat = k; rw [hk]; rfl
  have e2 : v.l.getD k vz = a := by rw [List.getD_eq_getElem?_getD, ha]; rfl
  rw [jed, if_pos h4, if_pos (by subst hl; exact ho), e1, e2, if_pos ⟨by rw [hl, hr], hb⟩]
theorem jedA_ok (hl : r.isEmpty = last) (h4 : v.kind = 4) (hk : jeK op nm last v = k) (ho : jeO op nm last v = true) (hb : last = false → (jed op x r (v.l.getD k vz)).2 = 0) :
    jed op x (nm :: r) v = (.mk v.kind v.b v.n v.s (eA last op k x (jed op x r (v.l.getD k vz)).1 v.l (v.l.length + 1)) [], 0) := by
  have e1 : (jixN nm v.l.length (decide (op = 1) && r.isEmpty)).toNat = k := by subst hl; show (jeK op nm r.isEmpty v).toNat = k; rw [hk]; rfl
  rw [jed, if_pos h4, if_pos (by subst hl; exact ho), e1, if_neg, hl]
  rintro ⟨h1, h2⟩; exact h2 (hb (by rw [← hl]; exact h1))
theorem jedM_no (hl : r.isEmpty = last) (h4 : ¬ v.kind = 4) (h : ¬ v.kind = 5 ∨ (jfB v (ba nm) = false ∧ (¬ op = 1 ∨ last = false))) : jed op x (nm :: r) v = (vz, 6) := by
  subst hl; rw [jed, if_neg h4, if_pos h]
theorem eBad_t {key : ByteArray} {g : JV → Int} {m : List (ByteArray × JV)} : eBad true key g m = 0 := by rfl
theorem eBad_at {key : ByteArray} {g : JV → Int} {m : List (ByteArray × JV)} {i : Nat} {q : ByteArray × JV} (hq : m[i]? = some q) (h : ∀ p ∈ m.take i, p.1 = key → g p.2 = 0) (hk : q.1 = key) (hb : ¬ g q.2 = 0) : eBad false key g m = g q.2 := by
  have hi := (List.getElem?_eq_some_iff.1 hq).1
  have e : m = m.take i ++ (q :: m.drop (i + 1)) := by
    have h0 : m.drop i = q :: m.drop (i + 1) := by
      rw [List.drop_eq_getElem_cons hi]; congr 1
      have := List.getElem?_eq_getElem hi
      rw [hq] at this; exact (Option.some.inj this).symm
    rw [← h0, List.take_append_drop]
  have hn : (m.take i).find? (fun q => decide (q.1 = key) && decide (g q.2 ≠ 0)) = none := by
    rw [List.find?_eq_none]; intro p hp; simp only [Bool.and_eq_true, decide_eq_true_eq, not_and]
    intro h1 h2; exact h2 (h p hp h1)
  unfold eBad
  rw [if_neg (by simp), e, List.find?_append, hn, Option.none_or, List.find?_cons_of_pos (by simp [hk, hb])]
  rfl
theorem eBad_none {key : ByteArray} {g : JV → Int} {m : List (ByteArray × JV)} (h : ∀ p ∈ m, p.1 = key → g p.2 = 0) (last : Bool) : eBad last key g m = 0 := by
  unfold eBad
  split
  · rfl
  · have hn : m.find? (fun q => decide (q.1 = key) && decide (g q.2 ≠ 0)) = none := by
      rw [List.find?_eq_none]; intro p hp; simp only [Bool.and_eq_true, decide_eq_true_eq, not_and]
      intro h1 h2; exact h2 (h p hp h1)
    rw [hn]; rfl
theorem jedM_bad (hl : r.isEmpty = last) (h4 : ¬ v.kind = 4) (h5 : v.kind = 5) (h : jfB v (ba nm) = true ∨ (op = 1 ∧ last = true)) {b : Int} (hb : eBad last (ba nm) (fun y => (jed op x r y).2) v.m = b) (hb0 : ¬ b = 0) : jed op x (nm :: r) v = (vz, b) := by
  subst hl; subst hb
  rw [jed, if_neg h4, if_neg (by simp only [h5, ne_eq, not_true, false_or]; rintro ⟨h1, h2⟩; rcases h with h | ⟨h, h'⟩; · rw [h1] at h; cases h
                                 · rcases h2 with h2 | h2; · exact h2 h
                                   · rw [h'] at h2; cases h2), if_pos hb0]
theorem jedM_ok (hl : r.isEmpty = last) (h4 : ¬ v.kind = 4) (h5 : v.kind = 5) (h : jfB v (ba nm) = true ∨ (op = 1 ∧ last = true)) (hb : eBad last (ba nm) (fun y => (jed op x r y).2) v.m = 0) :
    jed op x (nm :: r) v = (.mk v.kind v.b v.n v.s [] (eM last op (ba nm) x (fun y => (jed op x r y).1) v.m false), 0) := by
  subst hl
  rw [jed, if_neg h4, if_neg (by simp only [h5, ne_eq, not_true, false_or]; rintro ⟨h1, h2⟩; rcases h with h | ⟨h, h'⟩; · rw [h1] at h; cases h
                                 · rcases h2 with h2 | h2; · exact h2 h
                                   · rw [h'] at h2; cases h2), if_neg (by simp [hb])]
section
variable {y a : JV} {l : List JV} {i : Nat}
theorem eOld_end (h : l[i]? = none) : eOld last op k y l i = [] := by unfold eOld; rw [h]
theorem eOld_ne (h : l[i]? = some a) (hk : ¬ i = k) : eOld last op k y l i = [a] := by unfold eOld; rw [h]; simp only; rw [if_neg hk]
theorem eOld_ed (h : l[i]? = some a) (hk : i = k) (hl : last = false) : eOld last op k y l i = [y] := by unfold eOld; rw [h]; simp only; rw [if_pos hk, if_neg (by simp [hl])]
theorem eOld_keep (h : l[i]? = some a) (hl : last = true) (ho : op = 1) : eOld last op k y l i = [a] := by unfold eOld; rw [h]; simp only; split <;> simp [hl, ho]
theorem eOld_del (hk : i = k) (hl : last = true) (ho : ¬ op = 1) : eOld last op k y l i = [] := by unfold eOld; split <;> simp [hk, hl, ho]
end
theorem eA_bd {y : JV} {l : List JV} (i : Nat) : (eA last op k x y l i).length ≤ i + 1 := by have := eA_len last op k x y l i; split at this <;> omega
theorem eIns_bd {i : Nat} : (eIns last op k x i).length ≤ 1 := by unfold eIns; split <;> simp
theorem srow_tail (nm : BL) (r : List BL) : ((srow (nm :: r)).drop 1).take ((srow (nm :: r)).length - 1) = srow r := by
  simp only [srow, List.map_cons, List.drop_succ_cons, List.drop_zero, List.length_cons, Nat.add_sub_cancel]; rw [List.take_of_length_le (Nat.le_refl _)]
end Lg
namespace Lg
theorem len_snoc {α : Type} (l : List α) (a : α) : (l ++ [a]).length = l.length + 1 := by simp
end Lg
namespace Lg
open Go
abbrev BJ := ByteArray × JV
def eMh (last : Bool) (op : Int) (key : ByteArray) (put : Bool) : Option BJ → Bool
  | none => last && decide (op ≠ 2) && !put
  | some q => eMi last op key q.1 put
def eMn (last : Bool) (op : Int) (key : ByteArray) (x : JV) (put : Bool) (o : Option BJ) : List BJ := if eMh last op key put o = true then [(key, x)] else []
variable {last : Bool} {op : Int} {key : ByteArray} {x : JV} {f : JV → JV} {m : List BJ} {i : Nat} {put : Bool} {q : BJ}
theorem eM_end (h : m[i]? = none) : eM last op key x f (m.drop i) put = eMn last op key x put m[i]? := by
  rw [h, List.drop_of_length_le (by simpa using h)]; rfl
theorem eM_step (h : m[i]? = some q) : eM last op key x f (m.drop i) put = eMn last op key x put m[i]? ++ ((if q.1 = key then (if last = true then [] else [(q.1, f q.2)]) else [q]) ++ eM last op key x f (m.drop (i + 1)) (put || eMh last op key put m[i]?)) := by
  have hi := (List.getElem?_eq_some_iff.1 h).1
  have e : m.drop i = q :: m.drop (i + 1) := by
    rw [List.drop_eq_getElem_cons hi]; congr 1
    have := List.getElem?_eq_getElem hi
    rw [h] at this; exact (Option.some.inj this).symm
  rw [e, eM, h]; rfl
theorem eMn_y (h : eMh last op key put m[i]? = true) : eMn last op key x put m[i]? = [(key, x)] ∧ (put || eMh last op key put m[i]?) = true := by
  unfold eMn; rw [if_pos h, h]; exact ⟨rfl, by simp⟩
theorem eMn_n (h : eMh last op key put m[i]? = false) : eMn last op key x put m[i]? = [] ∧ (put || eMh last op key put m[i]?) = put := by
  unfold eMn; rw [if_neg (by simp [h]), h]; exact ⟨rfl, by simp⟩
theorem eMn_bd (o : Option BJ) : (eMn last op key x put o).length + (if put = true then 1 else 0) ≤ (if (put || eMh last op key put o) = true then 1 else 0) := by
  unfold eMn
  have : put = true → eMh last op key put o = false := by
    intro hp; subst hp; cases o <;> simp [eMh, eMi]
  cases put <;> simp_all
  split <;> simp
theorem eMh_end (h : m[i]? = none) (h1 : last = true) (h2 : ¬ op = 2) (h3 : put = false) : eMh last op key put m[i]? = true := by rw [h]; simp [eMh, h1, h2, h3]
theorem eMh_at (h : m[i]? = some q) (h1 : last = true) (h2 : ¬ op = 2) (h3 : put = false) : eMh last op key put m[i]? = !blt q.1 key := by rw [h]; simp [eMh, eMi, h1, h2, h3]
theorem eMh_no (h : last = false ∨ op = 2 ∨ put = true) : eMh last op key put m[i]? = false := by
  cases m[i]? with
  | none => rcases h with h | h | h <;> simp [eMh, h]
  | some q => rcases h with h | h | h <;> simp [eMh, eMi, h]
end Lg
namespace Lg
theorem no5 {a c : Prop} [Decidable a] [Decidable c] {b l : Bool} (h : ¬ (¬ a ∨ (b = false ∧ (¬ c ∨ l = false)))) : a ∧ (b = true ∨ (c ∧ l = true)) := by
  by_cases ha : a <;> by_cases hc : c <;> cases b <;> cases l <;> simp_all
theorem eBad_all {key : ByteArray} {g : JV → Int} {m : List (ByteArray × JV)} {last : Bool} (h : last = false → ∀ p ∈ m, p.1 = key → g p.2 = 0) : eBad last key g m = 0 := by
  cases last with
  | true => rfl
  | false => exact eBad_none (h rfl) _
theorem mem_take_succ {α : Type} {l : List α} {i : Nat} {x p : α} (hx : l[i]? = some x) (h : p ∈ l.take (i + 1)) : p ∈ l.take i ∨ p = x := by
  rw [ltake_succ hx, List.mem_append, List.mem_singleton] at h; exact h
end Lg
namespace Lg
open Go
/-- A member more, whose name opens with z. -/
def zkey (key : ByteArray) : BL := 122 :: key.data.toList
def jv1 : JV := .mk 1 false ⟨false, ⟨#[]⟩, 0⟩ ⟨#[]⟩ [] []
def edV (key : ByteArray) (v : JV) : JV := (jed 1 jv1 [zkey key] v).1
def jv4 (l : List JV) : JV := .mk 4 false ⟨false, ⟨#[]⟩, 0⟩ ⟨#[]⟩ l []
theorem zkey_ba (key : ByteArray) : ba (zkey key) = ⟨#[122]⟩ ++ key := by
  apply ba_ext
  rw [ba_toList, ByteArray.data_append, Array.toList_append]; rfl
theorem eM_find {op : Int} {key k : ByteArray} {x : JV} {f : JV → JV} (hk : ¬ k = key) : ∀ (m : List BJ) (put : Bool), (eM true op key x f m put).find? (fun q => decide (q.1 = k)) = m.find? (fun q => decide (q.1 = k)) := by
  have hk' : ¬ key = k := fun h => hk h.symm
  intro m
  induction m with
  | nil => intro put; rw [eM]; split <;> simp [hk']
  | cons q r ih =>
    intro put
    rw [eM, List.find?_append, List.find?_append, ih]
    have h1 : (if eMi true op key q.1 put = true then [(key, x)] else []).find? (fun q => decide (q.1 = k)) = none := by split <;> simp [hk']
    rw [h1, Option.none_or]
    by_cases hq : q.1 = key
    · rw [if_pos hq, if_pos rfl, List.find?_cons_of_neg (by simp [hq, hk'])]; simp
    · rw [if_neg hq, List.find?_cons]
      simp only [List.find?_cons, List.find?_nil]
      cases h2 : decide (q.1 = k) <;> simp
theorem zkey_ne {key k : ByteArray} (h : k.data.toList.head? ≠ some 122) : ¬ k = ba (zkey key) := fun e => by
  apply h; rw [e, ba_toList]; rfl
theorem edV_5 {key : ByteArray} {v : JV} (h5 : v.kind = 5) : jed 1 jv1 [zkey key] v = (.mk v.kind v.b v.n v.s [] (eM true 1 (ba (zkey key)) jv1 (fun y => (jed 1 jv1 [] y).1) v.m false), 0) := by
  exact jedM_ok (last := true) rfl (by omega) h5 (.inr ⟨rfl, rfl⟩) rfl
theorem edV_find {key k : ByteArray} {v : JV} (h5 : v.kind = 5) (h : k.data.toList.head? ≠ some 122) : jfind (edV key v) k = jfind v k := by
  unfold edV; rw [edV_5 h5]
  unfold jfind
  rw [if_pos h5, if_pos (show (JV.mk v.kind v.b v.n v.s [] _).kind = 5 from h5)]
  show Option.map _ (List.find? _ (eM true 1 (ba (zkey key)) jv1 _ v.m false)) = _
  rw [eM_find (zkey_ne h)]
theorem jop_congr {v w : JV} (h : ∀ k ∈ [bOp, bPath, bFrom, bValue], jfind v k = jfind w k) : jop v = jop w := by
  have h1 := h bOp (by simp)
  have h2 := h bPath (by simp)
  have h3 := h bFrom (by simp)
  have h4 := h bValue (by simp)
  unfold jop jopn jptB jptN jfB jfD
  rw [h1, h2, h3, h4]
theorem jop_k5 {v : JV} {o : JOp} (h : jop v = some o) : v.kind = 5 := by
  by_cases h0 : jopn v = 0
  · rw [jop_n1 h0] at h; cases h
  · unfold jopn at h0
    split at h0
    · rename_i hb
      have hb := hb.1
      unfold jfB jfind at hb
      split at hb
      · assumption
      · cases hb
    · exact absurd rfl h0
theorem edV_jop {key : ByteArray} {v : JV} (h5 : v.kind = 5) : jop (edV key v) = jop v :=
  jop_congr fun k hk => edV_find h5 (by
    simp only [List.mem_cons, List.not_mem_nil, or_false] at hk
    rcases hk with rfl | rfl | rfl | rfl <;> decide)
theorem edV_0 {key : ByteArray} {v : JV} (h5 : v.kind = 5) : (jed 1 jv1 [zkey key] v).2 = 0 := by rw [edV_5 h5]
theorem jops_ed (key : ByteArray) : ∀ {l : List JV} {os : List JOp}, jops l = some os → jops (l.map (edV key)) = some os
  | [], os, h => h
  | v :: r, os, h => by
    rw [jops] at h
    cases hj : jop v with
    | none => rw [hj] at h; cases h
    | some o =>
      rw [hj] at h
      simp only [Option.map_eq_some_iff] at h
      obtain ⟨os', h1, rfl⟩ := h
      rw [List.map_cons, jops, edV_jop (jop_k5 hj), hj, jops_ed key h1]; rfl
theorem eM_len {op : Int} {key : ByteArray} {x : JV} {f : JV → JV} : ∀ (m : List BJ) (put : Bool), (eM true op key x f m put).length ≤ m.length + (if put = true then 0 else 1)
  | [], put => by rw [eM]; cases put <;> simp <;> split <;> simp
  | q :: r, put => by
    have ih := eM_len (op := op) (key := key) (x := x) (f := f) r (put || eMi true op key q.1 put)
    rw [eM, List.length_append, List.length_append, List.length_cons]
    have h1 : (if q.1 = key then (if true = true then [] else [(q.1, f q.2)]) else [q]).length ≤ 1 := by split <;> simp
    have h2 : (if eMi true op key q.1 put = true then [(key, x)] else []).length ≤ (if eMi true op key q.1 put = true then 1 else 0) := by split <;> simp
    have h3 : put = true → eMi true op key q.1 put = false := fun h => by simp [eMi, h]
    cases put <;> cases h4 : eMi true op key q.1 _ <;> simp_all <;> omega
section
variable [GLay]
theorem mb_app {m n : List BJ} (h : mb m) (k : mb n) : mb (m ++ n) := by
  induction m with
  | nil => exact k
  | cons q r ih => obtain ⟨a, b⟩ := q; exact ⟨h.1, h.2.1, ih h.2.2⟩
theorem eM_mb {op : Int} {key : ByteArray} {x : JV} {f : JV → JV} (hk : key.size ≤ 1000000) (hx : jb x) : ∀ (m : List BJ) (put : Bool), mb m → mb (eM true op key x f m put)
  | [], put, h => by
    rw [eM]; split
    · exact ⟨hk, hx, trivial⟩
    · trivial
  | (a, b) :: r, put, h => by
    rw [eM]
    refine mb_app ?_ (mb_app ?_ (eM_mb hk hx r _ h.2.2))
    · split
      · exact ⟨hk, hx, trivial⟩
      · trivial
    · split
      · trivial
      · exact ⟨h.1, h.2.1, trivial⟩
theorem edV_jb {key : ByteArray} {v : JV} (h5 : v.kind = 5) (h : jb v) (hk : key.size ≤ 100) (hm : v.m.length ≤ 999999) : jb (edV key v) := by
  have hv := (jb_eq v).1 h
  unfold edV; rw [edV_5 h5, jb_eq]
  have h1 := eM_len (op := 1) (key := ba (zkey key)) (x := jv1) (f := fun y => (jed 1 jv1 [] y).1) v.m false
  have h2 : (ba (zkey key)).size ≤ 1000000 := by
    rw [ba_size, zkey, List.length_cons]
    have : key.data.toList.length = key.size := Array.length_toList ..
    omega
  refine ⟨hv.1, hv.2.1, Nat.zero_le _, ?_, trivial, eM_mb h2 (jb_nil _ _ _ _ (Nat.zero_le _) (Nat.zero_le _)) _ _ hv.2.2.2.2.2⟩
  show (eM true 1 (ba (zkey key)) jv1 _ v.m false).length ≤ _
  simp only [Bool.false_eq_true, if_false] at h1; omega
theorem jb4 {l : List JV} (h : lb l) (hl : l.length ≤ 1000000) : jb (jv4 l) := by
  rw [jb_eq]; exact ⟨Nat.zero_le _, Nat.zero_le _, hl, Nat.zero_le _, h, trivial⟩
theorem lb_app {l m : List JV} (h : lb l) (k : lb m) : lb (l ++ m) := by
  induction l with
  | nil => exact k
  | cons a r ih => exact ⟨h.1, ih h.2⟩
end
theorem jrd_inv {v : JV} (h : jrdE v = none) : v.kind = 4 ∧ v.l.length ≤ 100 ∧ jops v.l = some (jrd v) := by
  unfold jrdE at h
  split at h
  · rename_i hc
    unfold jrdC at hc
    split at hc
    · omega
    · rename_i h4
      have h4 : v.kind = 4 := Classical.byContradiction h4
      split at hc
      · omega
      · rename_i h100
        split at hc
        · omega
        · rename_i hj
          refine ⟨h4, by omega, ?_⟩
          unfold jrd
          rw [if_neg (by simp [h4]), if_neg h100]
          cases hv : jops v.l with
          | none => simp [hv] at hj
          | some os => rfl
  · cases h
end Lg
namespace Lg
open Go
theorem lflat_app (l m : List JV) : (lcells (l ++ m)).flatten = (lcells l).flatten ++ (lcells m).flatten := by
  rw [lcells_eq, lcells_eq, lcells_eq]; simp
theorem vcells_ones [GLay] (v : JV) : ones (vcells v) = true := by rw [vcells_eq]; rfl
theorem lflat_ones [GLay] (l : List JV) : ones (lcells l).flatten = true := by
  rw [ones_iff]; intro a ha
  obtain ⟨e, he, h⟩ := List.mem_flatten.1 ha
  rw [lcells_eq] at he
  obtain ⟨x, _, rfl⟩ := List.mem_map.1 he
  exact (ones_iff _).1 (vcells_ones x) a h
theorem both_many {l : List JV} (h : 100 < l.length) : jrdE (jv4 l) = some (100, 5) := by
  obtain ⟨_, h1, h2⟩ := jrd_many (v := jv4 l) rfl h
  rw [jrdE_s (by omega), h1, h2]
theorem both_ok {l : List JV} {os : List JOp} (h : jops l = some os) (hl : l.length ≤ 100) : jrdE (jv4 l) = none ∧ jrd (jv4 l) = os := by
  obtain ⟨h1, h2, _⟩ := jrd_ok (v := jv4 l) rfl hl h
  exact ⟨jrdE_n h2, h1⟩
theorem lb_of [GLay] {l : List JV} (h : ∀ x ∈ l, jb x) : lb l := by
  induction l with
  | nil => trivial
  | cons a r ih => exact ⟨h a (List.mem_cons_self ..), ih fun x hx => h x (List.mem_cons_of_mem _ hx)⟩
theorem lb_ed [GLay] {key : ByteArray} {a : JV} {os : List JOp} (hk : key.size ≤ 100) (ha : jb a) (hs : jsize a ≤ 2002) (h : jops a.l = some os) : lb (a.l.map (edV key)) := by
  refine lb_of fun x hx => ?_
  obtain ⟨e, he, rfl⟩ := List.mem_map.1 hx
  obtain ⟨i, hi⟩ := List.getElem?_of_mem he
  obtain ⟨o, ho, _⟩ := jops_get h hi
  have h1 := lsize_mem hi
  have h2 := jsize_eq a
  have h3 := msize_nn a.m
  have h4 := jsize_eq e
  have h5 := lsize_nn e.l
  have h6 := mlen_le e.m
  exact edV_jb (jop_k5 ho) (lb_get ((jb_eq a).1 ha).2.2.2.2.1 hi) hk (by omega)
theorem edmap_snoc {key : ByteArray} {l : List JV} {i : Nat} {e : JV} (h : l[i]? = some e) : (l.take (i + 1)).map (edV key) = (l.take i).map (edV key) ++ [edV key e] := by
  rw [ltake_succ h, List.map_append]; rfl
end Lg
namespace Lg
open Go
def trE (nm : BL) : ByteArray := ⟨(Lib.trimS nm dgs).toArray⟩
theorem trE_iff {nm : BL} : trE nm = ⟨#[]⟩ ↔ runl (ba nm) 0 = nm.length := by
  rw [← aD_run, ← trim_nil]
  constructor
  · intro h
    have h1 : (trE nm).data.toList = [] := by rw [h]
    have h2 : (trE nm).data.toList = Lib.trimS nm dgs := by simp [trE]
    rw [← h2]; exact h1
  · intro h; unfold trE; rw [h]
/-! ### What stands at a pointer -/
def jget : List BL → JV → JV × Bool
  | [], v => (v, true)
  | nm :: r, v => if v.kind = 4 then (if jixO nm v.l.length false = true then jget r (v.l.getD (jixN nm v.l.length false).toNat vz) else (vz, false)) else
    if jfB v (ba nm) = true then jget r (jfD v (ba nm)) else (vz, false)
theorem jget_no4 {nm : BL} {r : List BL} {v : JV} (h4 : v.kind = 4) (h : jixO nm v.l.length false = false) : jget (nm :: r) v = (vz, false) := by rw [jget, if_pos h4, if_neg (by simp [h])]
theorem jget_4 {nm : BL} {r : List BL} {v a : JV} {k : Nat} (h4 : v.kind = 4) (h : jixO nm v.l.length false = true) (hk : jixN nm v.l.length false = k) (ha : v.l[k]? = some a) : jget (nm :: r) v = jget r a := by
  have e : v.l.getD (jixN nm v.l.length false).toNat vz = a := by rw [hk, Int.toNat_natCast, List.getD_eq_getElem?_getD, ha]; rfl
  rw [jget, if_pos h4, if_pos h, e]
theorem jget_no5 {nm : BL} {r : List BL} {v : JV} (h4 : ¬ v.kind = 4) (h : jfB v (ba nm) = false) : jget (nm :: r) v = (vz, false) := by rw [jget, if_neg h4, if_neg (by simp [h])]
theorem jget_5 {nm : BL} {r : List BL} {v : JV} (h4 : ¬ v.kind = 4) (h : jfB v (ba nm) = true) : jget (nm :: r) v = jget r (jfD v (ba nm)) := by rw [jget, if_neg h4, if_pos h]
theorem jix_nat {nm : BL} {n : Nat} (h : jixO nm n false = true) : ∃ k : Nat, jixN nm n false = k ∧ k < n := by
  unfold jixO jixN at *
  cases h1 : jidx nm n false with
  | none => rw [h1] at h; cases h
  | some k => exact ⟨k, rfl, (jidx_le h1).2 rfl⟩
theorem jget_jb [GLay] : ∀ (l : List BL) {v : JV}, jb v → jb (jget l v).1
  | [], v, h => h
  | nm :: r, v, h => by
    have hz : jb vz := jb_nil _ _ _ _ (Nat.zero_le _) (Nat.zero_le _)
    by_cases h4 : v.kind = 4
    · by_cases ho : jixO nm v.l.length false = true
      · obtain ⟨k, hk, hlt⟩ := jix_nat ho
        rw [jget_4 h4 ho hk (List.getElem?_eq_getElem hlt)]
        exact jget_jb r (lb_get ((jb_eq v).1 h).2.2.2.2.1 (List.getElem?_eq_getElem hlt))
      · rw [jget_no4 h4 (by simpa using ho)]; exact hz
    · by_cases ho : jfB v (ba nm) = true
      · rw [jget_5 h4 ho]; exact jget_jb r (jfD_jb h)
      · rw [jget_no5 h4 (by simpa using ho)]; exact hz
theorem jget_size [GLay] : ∀ (l : List BL) {v : JV} {n : Int}, jsize v ≤ n → 1 ≤ n → jsize (jget l v).1 ≤ n
  | [], v, n, h, _ => h
  | nm :: r, v, n, h, h1 => by
    have hz : jsize vz ≤ n := by have : jsize vz = 1 := jsize_nil _ _ _ _; omega
    by_cases h4 : v.kind = 4
    · by_cases ho : jixO nm v.l.length false = true
      · obtain ⟨k, hk, hlt⟩ := jix_nat ho
        rw [jget_4 h4 ho hk (List.getElem?_eq_getElem hlt)]
        have := lsize_mem (List.getElem?_eq_getElem hlt)
        have := jsize_eq v
        have := msize_nn v.m
        exact jget_size r (by omega) h1
      · rw [jget_no4 h4 (by simpa using ho)]; exact hz
    · by_cases ho : jfB v (ba nm) = true
      · rw [jget_5 h4 ho]; exact jget_size r (jfD_size h h1) h1
      · rw [jget_no5 h4 (by simpa using ho)]; exact hz
def pC (l : BL) : Int := if (pE l).isNone then 0 else 1
def pS (l : BL) : Int := (pE l).elim 0 fun i => (i : Int)
theorem pC_or (l : BL) : (pEi l < 0 ∧ pC l = 0) ∨ (0 ≤ pEi l ∧ pC l = 1 ∧ pS l = pEi l) := by
  unfold pEi pC pS
  cases pE l with
  | none => left; simp
  | some i => right; simp
end Lg
set_option maxRecDepth 20000
set_option maxHeartbeats 4000000
namespace Lg
open Go Go.Proofs Go.RowKit
variable [GLay] 
theorem trimN_c (nm : BL) (σ : List AO) (hs : nm.length ≤ 1000000) : ACalls Tryz.prog 52 [.str (ba nm), .str ⟨#[48, 49, 50, 51, 52, 53, 54, 55, 56, 57]⟩] σ (Ret (.str (trE nm)) σ) := by
  have h := trimD_c (ba nm) σ (by rw [ba_size]; exact hs)
  rw [ba_toList] at h; exact h
theorem pidx_c (nm : BL) (n : Nat) (e : Bool) (σ : List AO) (hs : nm.length ≤ 1000000) (hn : n ≤ 1000000000) : ACalls Tryz.prog 25 [.str (ba nm), .int .i64 (n : Int), .bool e] σ (Ret (.tup [.int .i64 (jixN nm n e), .bool (jixO nm n e)]) σ) := by
 refine ACalls_body Tryz.func25 rfl Tryz.ntmps25 (res2 Tryz.results25) (Nat.le_of_ble_eq_true rfl) (fun hcl hal => ?_)
 have hbs := ba_size nm
 refine zw2 ?_
 refine AWp_join (ι := Unit) (fun b => ¬ (e = true ∧ nm = [45])) (fun b => ⟨[], [(0, .str (ba nm)), (1, .int .i64 (n : Int)), (2, .bool e), (6, .int .i64 0), (7, .bool false)]⟩) (fun b => σ) ?_ (fun b hj => ?_)
 ·skip
  refine zu2 ?_
  refine zsp 11 rfl (fun h1 => ?_) fun h1 => ?_
  ·rw [h1]; replace h1 := zcl h1
   refine zv3 ?_
   refine AWp_cond rfl (fun h2 => ?_) (fun h2 => ?_)
   ·(try rw [h2]); replace h2 := zcl h2
    refine zw3 ?_
    refine zrt ?_
    obtain ⟨q1, q2⟩ := jix_minus (n := n) (e := true) rfl (ba_minus ▸ h2)
    rw [q1, q2]
    exact ResQ_20 rfl rfl hcl (by simp [AV.lt, AV.ltL]) (Ret_of rfl)
   ·(try rw [h2]); replace h2 := zcl h2
    refine AWp_skip ?_
    exact ⟨(), (fun x => h2 (ba_minus ▸ x.2)), ⟨rfl, rfl, rfl, rfl, rfl, rfl, trivial⟩, rfl⟩
  ·rw [h1]; replace h1 := zcl h1
   refine zv3 ?_
   refine AWp_condF rfl ?_
   refine AWp_skip ?_
   exact ⟨(), (fun x => by cases x.1), ⟨rfl, rfl, rfl, rfl, rfl, rfl, trivial⟩, rfl⟩
 ·skip
  have hj0 := hj
  clear hj
  refine AWp_seq ?_
  refine AWp_join (ι := Bool) (fun b => b = decide (jixB nm)) (fun b => ⟨[], [(0, .str (ba nm)), (1, .int .i64 (n : Int)), (2, .bool e), (6, .int .i64 0), (7, .bool false), (37, .bool b)]⟩) (fun b => σ) ?_ (fun b hj => ?_)
  ·skip
   refine AWp_regL ?_
   refine zg3 ?_
   refine zsp 18 rfl (fun h3 => ?_) fun h3 => ?_
   ·rw [h3]; replace h3 := zcl h3
    refine zg10 ?_
    refine zg9 ?_
    refine zon ?_
    refine ⟨_, ?_, ⟨rfl, rfl, rfl, rfl, rfl, rfl, rfl, trivial⟩, rfl⟩
    (try rw [ba_nil0, ← List.length_eq_zero_iff] at h3)
    (try rw [show ((0 : Int).toNat) = 0 from rfl] at *)
    by_cases hx : runl (ba nm) 0 = nm.length
    ·have hy := trE_iff.2 hx
     (try simp only [hy, decide_true, Bool.not_true, ne_eq, not_true, decide_false])
     first | exact (decide_eq_true (jixB_len.2 (by omega))).symm | exact (decide_eq_false (fun x => by have := jixB_len.1 x; omega)).symm
    ·have hy : ¬ trE nm = ⟨#[]⟩ := fun z => hx (trE_iff.1 z)
     (try simp only [hy, decide_false, Bool.not_false, ne_eq, not_false_iff, decide_true])
     first | exact (decide_eq_true (jixB_len.2 (by omega))).symm | exact (decide_eq_false (fun x => by have := jixB_len.1 x; omega)).symm
   ·rw [h3]; replace h3 := zcl h3
    refine zg5 ?_
    refine zsp 23 rfl (fun h4 => ?_) fun h4 => ?_
    ·rw [h4]; replace h4 := zcl h4
     refine zg10 ?_
     refine zg4 ?_
     refine zon ?_
     refine ⟨_, ?_, ⟨rfl, rfl, rfl, rfl, rfl, rfl, rfl, trivial⟩, rfl⟩
     (try rw [ba_nil0, ← List.length_eq_zero_iff] at h3)
     (try rw [show ((0 : Int).toNat) = 0 from rfl] at *)
     by_cases hx : runl (ba nm) 0 = nm.length
     ·have hy := trE_iff.2 hx
      (try simp only [hy, decide_true, Bool.not_true, ne_eq, not_true, decide_false])
      first | exact (decide_eq_true (jixB_len.2 (by omega))).symm | exact (decide_eq_false (fun x => by have := jixB_len.1 x; omega)).symm
     ·have hy : ¬ trE nm = ⟨#[]⟩ := fun z => hx (trE_iff.1 z)
      (try simp only [hy, decide_false, Bool.not_false, ne_eq, not_false_iff, decide_true])
      first | exact (decide_eq_true (jixB_len.2 (by omega))).symm | exact (decide_eq_false (fun x => by have := jixB_len.1 x; omega)).symm
    ·rw [h4]; replace h4 := zcl h4
     refine zg4 ?_
     refine zsp 27 rfl (fun h5 => ?_) fun h5 => ?_
     ·rw [h5]; replace h5 := zcl h5
      refine zg6 ?_
      refine zsp 33 rfl (fun h6 => ?_) fun h6 => ?_
      ·rw [h6]; replace h6 := zcl h6
       refine zv4 ?_
       refine ⟨_, ?_, ⟨rfl, rfl, rfl, rfl, rfl, rfl, rfl, trivial⟩, rfl⟩
       (try rw [ba_nil0, ← List.length_eq_zero_iff] at h3)
       (try rw [show ((0 : Int).toNat) = 0 from rfl] at *)
       by_cases hx : runl (ba nm) 0 = nm.length
       ·have hy := trE_iff.2 hx
        (try simp only [hy, decide_true, Bool.not_true, ne_eq, not_true, decide_false])
        first | exact (decide_eq_true (jixB_len.2 (by omega))).symm | exact (decide_eq_false (fun x => by have := jixB_len.1 x; omega)).symm
       ·have hy : ¬ trE nm = ⟨#[]⟩ := fun z => hx (trE_iff.1 z)
        (try simp only [hy, decide_false, Bool.not_false, ne_eq, not_false_iff, decide_true])
        first | exact (decide_eq_true (jixB_len.2 (by omega))).symm | exact (decide_eq_false (fun x => by have := jixB_len.1 x; omega)).symm
      ·rw [h6]; replace h6 := zcl h6
       refine zg1 ?_
       refine ztG rfl rfl (zc rfl (trimN_c nm _ hs)) ?_
       refine zv2 ?_
       refine ⟨_, ?_, ⟨rfl, rfl, rfl, rfl, rfl, rfl, rfl, trivial⟩, rfl⟩
       (try rw [ba_nil0, ← List.length_eq_zero_iff] at h3)
       (try rw [show ((0 : Int).toNat) = 0 from rfl] at *)
       by_cases hx : runl (ba nm) 0 = nm.length
       ·have hy := trE_iff.2 hx
        (try simp only [hy, decide_true, Bool.not_true, ne_eq, not_true, decide_false])
        first | exact (decide_eq_true (jixB_len.2 (by omega))).symm | exact (decide_eq_false (fun x => by have := jixB_len.1 x; omega)).symm
       ·have hy : ¬ trE nm = ⟨#[]⟩ := fun z => hx (trE_iff.1 z)
        (try simp only [hy, decide_false, Bool.not_false, ne_eq, not_false_iff, decide_true])
        first | exact (decide_eq_true (jixB_len.2 (by omega))).symm | exact (decide_eq_false (fun x => by have := jixB_len.1 x; omega)).symm
     ·rw [h5]; replace h5 := zcl h5
      refine zg7 ?_
      refine ztG rfl rfl (zc rfl (trimN_c nm _ hs)) ?_
      refine zv2 ?_
      refine ⟨_, ?_, ⟨rfl, rfl, rfl, rfl, rfl, rfl, rfl, trivial⟩, rfl⟩
      (try rw [ba_nil0, ← List.length_eq_zero_iff] at h3)
      (try rw [show ((0 : Int).toNat) = 0 from rfl] at *)
      by_cases hx : runl (ba nm) 0 = nm.length
      ·have hy := trE_iff.2 hx
       (try simp only [hy, decide_true, Bool.not_true, ne_eq, not_true, decide_false])
       first | exact (decide_eq_true (jixB_len.2 (by omega))).symm | exact (decide_eq_false (fun x => by have := jixB_len.1 x; omega)).symm
      ·have hy : ¬ trE nm = ⟨#[]⟩ := fun z => hx (trE_iff.1 z)
       (try simp only [hy, decide_false, Bool.not_false, ne_eq, not_false_iff, decide_true])
       first | exact (decide_eq_true (jixB_len.2 (by omega))).symm | exact (decide_eq_false (fun x => by have := jixB_len.1 x; omega)).symm
  ·skip
   subst hj
   refine AWp_cond rfl (fun h7 => ?_) (fun h7 => ?_)
   ·(try rw [h7]); replace h7 := zcl h7
    refine zw2 ?_
    refine zrt ?_
    obtain ⟨q1, q2⟩ := jix_bad (n := n) hj0 (by simpa using h7)
    rw [q1, q2]
    exact ResQ_20 rfl rfl hcl (by simp [AV.lt, AV.ltL]) (Ret_of rfl)
   ·(try rw [h7]); replace h7 := zcl h7
    have hb : ¬ jixB nm := by simpa using h7
    obtain ⟨hd, hl0, hl18⟩ := jixB_aD hb
    have hv0 := valL_bd hd
    refine AWp_skip ?_
    refine zu1 ?_
    refine zt rfl (zc rfl (atoi_c (ba nm) (valL 0 nm) _ (by omega) (by rw [ba_toList]; exact atoi_dig hd hl0))) ?_
    refine zv5 ?_
    refine AWp_seq ?_
    refine zu8 ?_
    refine zsp 50 rfl (fun h8 => ?_) fun h8 => ?_
    ·rw [h8]; replace h8 := zcl h8
     refine zv8 ?_
     refine AWp_condT rfl ?_
     refine zw2 ?_
     refine zrt ?_
     obtain ⟨q1, q2⟩ := jix_big (n := n) (e := e) hj0 hb (fun x => x.elim (by omega) (fun y => by have := y.1; omega))
     rw [q1, q2]
     exact ResQ_20 rfl rfl hcl (by simp [AV.lt, AV.ltL]) (Ret_of rfl)
    ·rw [h8]; replace h8 := zcl h8
     refine zg4 ?_
     refine zsp 54 rfl (fun h9 => ?_) fun h9 => ?_
     ·rw [h9]; replace h9 := zcl h9
      refine zv4 ?_
      refine AWp_cond rfl (fun h10 => ?_) (fun h10 => ?_)
      ·(try rw [h10]); replace h10 := zcl h10
       refine zw2 ?_
       refine zrt ?_
       have he : e = false := by simpa using h10
       subst he
       obtain ⟨q1, q2⟩ := jix_big (n := n) hj0 hb (fun x => x.elim (by omega) (fun y => by cases y.2))
       rw [q1, q2]
       exact ResQ_20 rfl rfl hcl (by simp [AV.lt, AV.ltL]) (Ret_of rfl)
      ·(try rw [h10]); replace h10 := zcl h10
       refine AWp_skip ?_
       refine zw3 ?_
       refine zrt ?_
       have he : e = true := by simpa using h10
       subst he
       obtain ⟨q1, q2⟩ := jix_val (n := n) hj0 hb hv0.1 (.inr ⟨h9, rfl⟩)
       rw [q1, q2]
       exact ResQ_20 rfl rfl hcl (by simp [AV.lt, AV.ltL]) (Ret_of rfl)
     ·rw [h9]; replace h9 := zcl h9
      refine zv4 ?_
      refine AWp_condF rfl ?_
      refine AWp_skip ?_
      refine zw3 ?_
      refine zrt ?_
      obtain ⟨q1, q2⟩ := jix_val (n := n) hj0 hb hv0.1 (.inl (by omega))
      rw [q1, q2]
      exact ResQ_20 rfl rfl hcl (by simp [AV.lt, AV.ltL]) (Ret_of rfl)

theorem code_0 (σ : List AO) : ACalls Tryz.prog 16 [.nili] σ (Ret (.int .i64 0) σ) := by
 refine ACalls_body Tryz.func16 rfl Tryz.ntmps16 (res1 Tryz.results16) (Nat.le_of_ble_eq_true rfl) (fun hcl hal => ?_)
 refine zw1 ?_
 refine AWp_seq ?_
 refine zw2 ?_
 refine AWp_cond rfl (fun h1 => ?_) (fun h1 => ?_)
 ·(try rw [h1]); replace h1 := zcl h1
  refine zw1 ?_
  refine zrt ?_
  exact ResQ_10 rfl hcl trivial (Ret_of rfl)
 ·(try rw [h1]); replace h1 := zcl h1
  cases h1

theorem code_k (k : Int) (σ : List AO) (h0 : 1 ≤ k) (h14 : k ≤ 14) : ACalls Tryz.prog 16 [.iface 65 (.int .i64 k)] σ (Ret (.int .i64 k) σ) := by
 refine ACalls_body Tryz.func16 rfl Tryz.ntmps16 (res1 Tryz.results16) (Nat.le_of_ble_eq_true rfl) (fun hcl hal => ?_)
 refine zw1 ?_
 refine AWp_seq ?_
 refine zw2 ?_
 refine AWp_cond rfl (fun h1 => ?_) (fun h1 => ?_)
 ·(try rw [h1]); replace h1 := zcl h1
  cases h1
 ·(try rw [h1]); replace h1 := zcl h1
  refine AWp_skip ?_
  refine AWp_seq ?_
  refine zw1 ?_
  refine AWp_block ?_
  -- loop 0 LIVE 0:param 2:assign 3:assign
  refine AWp_loop (ι := Nat) (fun i => 1 ≤ i ∧ (i : Int) ≤ k) (fun i => ⟨[], [(0, .iface 65 (.int .i64 k)), (2, .int .i64 0), (3, .int .i64 (i : Int))]⟩) (fun i => σ) (fun i => 15 - i) (1) (⟨by omega, by omega⟩) ?_ rfl (fun i hi => ?_)
  ·exact ⟨rfl, rfl, rfl, rfl, trivial⟩
  obtain ⟨hi1, hi2⟩ := hi
  refine AWp_seq ?_
  refine zw2 ?_
  refine AWp_cond rfl (fun h2 => ?_) (fun h2 => ?_)
  ·(try rw [h2]); replace h2 := zcl h2
   refine AWp_skip ?_
   refine AWp_seq ?_
   refine AWp_block ?_
   refine zu3 ?_
   refine zt rfl (op_eqII rfl Tryz.underlying35 (by kernel_rfl) Tryz.underlying65 rfl rfl) ?_
   refine zon ?_
   refine AWp_cond rfl (fun h3 => ?_) (fun h3 => ?_)
   ·(try rw [h3]); replace h3 := zcl h3
    refine zw2 ?_
    refine zrt ?_
    refine ResQ_10 rfl hcl trivial (Ret_of ?_)
    congr 1; omega
   ·(try rw [h3]); replace h3 := zcl h3
    refine AWp_skip ?_
    refine AWp_regL ?_
    refine zv3 ?_
    refine ⟨i + 1, σ.length, ⟨by omega, by omega⟩, by omega, Nat.le_refl _, ⟨rfl, rfl, rfl, ?_, trivial⟩, hcl, ?_, List.take_length⟩
    ·rfl
    ·simp [ltE, AV.lt]
  ·(try rw [h2]); replace h2 := zcl h2
   refine AWp_exit ?_
   refine zw1 ?_
   refine zrt ?_
   exfalso; omega
end Lg
set_option maxRecDepth 20000
set_option maxHeartbeats 4000000
namespace Lg
open Go Go.Proofs Go.RowKit
variable [GLay] 
theorem rptr_c (s : BL) (σ : List AO) (hs : s.length ≤ 1000000) : ACalls Tryz.prog 22 [.str (ba s)] σ (Ret (.tup [.sl false 1 (srow (pN s)), .int .i64 (pEi s)]) σ) := by
 refine ACalls_body Tryz.func22 rfl Tryz.ntmps22 (res2 Tryz.results22) (Nat.le_of_ble_eq_true rfl) (fun hcl hal => ?_)
 have hbz : (ba s).size = s.length := ba_size s
 refine zw2 ?_
 refine AWp_seq ?_
 refine zw2 ?_
 refine AWp_cond rfl (fun h1 => ?_) (fun h1 => ?_)
 ·(try rw [h1]); replace h1 := zcl h1
  have hs0 : s = [] := ba_nil.1 h1
  refine zw2 ?_
  refine AWp_slotLe 2 rfl (AVle.nils false 1) ?_ (by decide)
  refine zrt ?_
  subst hs0
  exact ResQ_20 rfl rfl hcl (by simp [AV.lt, AV.ltL, AV.ltLL]) (Ret_of rfl)
 ·(try rw [h1]); replace h1 := zcl h1
  have hs0 : ¬ s = [] := fun e => h1 (ba_nil.2 e)
  have hsl : 0 < s.length := List.length_pos_iff.2 hs0
  refine AWp_skip ?_
  refine AWp_seq ?_
  refine zw3 ?_
  refine AWp_cond rfl (fun h2 => ?_) (fun h2 => ?_)
  ·(try rw [h2]); replace h2 := zcl h2
   have h47 : ¬ s[0]? = some 47 := fun e => h2 ((g47 hsl).1 e)
   refine zw2 ?_
   refine AWp_slotLe 2 rfl (AVle.nils false 1) ?_ (by decide)
   refine zrt ?_
   have hE : pE s = some 0 := by unfold pE; rw [if_neg hs0, if_pos h47]
   rw [pEi_s hE, pN_bad hs0 hE]
   exact ResQ_20 rfl rfl hcl (by simp [AV.lt, AV.ltL, AV.ltLL]) (Ret_of rfl)
  ·(try rw [h2]); replace h2 := zcl h2
   have h47 : s[0]? = some 47 := (g47 hsl).2 h2
   refine AWp_skip ?_
   refine zw1 ?_
   refine AWp_seq ?_
   refine AWp_seq ?_
   refine AWp_ghostT 4 1 rfl ?_ (by decide)
   refine AWp_regL ?_
   refine zv1 ?_
   refine AWp_block ?_
   -- loop 0 LIVE 0:param 2:assign 3:assign 4:assign 5:assign
   refine AWp_loop (ι := Nat × List BL × Nat) (fun z => PAt s z.1 z.2.1) (fun z => ⟨[], [(0, .str (ba s)), (4, .arr (σ.length + 0) z.2.2 1 0 z.2.1.length), (5, .int .i64 (z.1 : Int))]⟩) (fun z => σ ++ [.arr 1 z.2.2 (srow z.2.1).flatten]) (fun z => s.length - z.1) ((0, [], 0)) (PAt.zero s) ?_ rfl (fun z hz => ?_)
   ·exact ⟨rfl, rfl, rfl, rfl, trivial⟩
   obtain ⟨i, L, g⟩ := z
   simp only at hz ⊢
   have hzl := hz.le
   have hzn := hz.len
   have z1 : ∀ c : UInt8, (ByteArray.mk #[c]).size = 1 := fun c => rfl
   refine AWp_seq ?_
   refine zw4 ?_
   refine AWp_cond rfl (fun h3 => ?_) (fun h3 => ?_)
   ·(try rw [h3]); replace h3 := zcl h3
    refine AWp_skip ?_
    refine AWp_seq ?_
    refine AWp_block ?_
    refine zw4 ?_
    refine AWp_seq ?_
    refine zw2 ?_
    refine AWp_cond rfl (fun h4 => ?_) (fun h4 => ?_)
    ·(try rw [h4]); replace h4 := zcl h4
     have hz47 := (g47 (show i < s.length by omega)).2 h4
     refine zu1 ?_
     refine zt rfl (op_buildSlice [[_]] rfl Tryz.underlying31 Tryz.sizeOf9 Tryz.zeroValue9 rfl (by decide) (by decide) rfl rfl rfl rfl rfl) ?_
     refine zt rfl (op_appendArrT rfl 0 (sz := 1) (m := 1) (len := L.length) (cs := [.str ⟨#[]⟩]) rfl (.inr ⟨_, rfl⟩) Tryz.underlying31 Tryz.underlying31 Tryz.type9 rfl rfl rfl (by decide) rfl rfl (by rw [sflat_len, Nat.mul_one]) rfl rfl rfl (by show (L.length + 1) * 16 ≤ _; omega) (by omega) rfl) ?_
     refine zv1 ?_
     refine AWp_exit ?_
     refine AWp_regL ?_
     refine zv3 ?_
     have hp9 := hz.slash hz47
     refine ⟨(i + 1, L ++ [[]], g + 1), σ.length + 1, hp9, by have := hp9.le; simp only; omega, by simp, ⟨rfl, rfl, by rw [List.length_append]; rfl, rfl, trivial⟩, closed_own 1 hcl ?_, ?_, ?_⟩
     ·simp [ownLt, AO.cells, ltL_append, AV.ltL, AV.lt, flat_lt]
     ·simp [ltE, AV.lt]
     ·refine (take_own 1).trans ?_
      rw [srow_snoc]; rfl
    ·(try rw [h4]); replace h4 := zcl h4
     have hn47 : ¬ s[i]? = some 47 := fun e => h4 ((g47 (show i < s.length by omega)).1 e)
     have hi1 : 1 ≤ i := by rcases Nat.eq_zero_or_pos i with e | e; subst e; exact absurd h47 hn47; exact e
     obtain ⟨ps, q, hLq⟩ := hz.last hi1
     have hqs := hz.el q (by rw [hLq]; simp)
     have hLl := hz.len
     subst hLq
     have hLp : 1 ≤ (ps ++ [q]).length := by rw [List.length_append]; simp
     have hqz : (ba q).size = q.length := ba_size q
     have hlst := srow_last ps q
     refine AWp_skip ?_
     refine AWp_seq ?_
     refine zw2 ?_
     refine AWp_cond rfl (fun h5 => ?_) (fun h5 => ?_)
     ·(try rw [h5]); replace h5 := zcl h5
      have hz126 := (g126 (show i < s.length by omega)).2 h5
      refine AWp_seq ?_
      refine zw5 ?_
      refine AWp_cond rfl (fun h6 => ?_) (fun h6 => ?_)
      ·(try rw [h6]); replace h6 := zcl h6
       refine zw3 ?_
       refine AWp_slotLe 2 rfl (AVle.nils false 1) ?_ (by decide)
       refine zrt ?_
       have ht : tbad s i = true := tbad_t (show i < s.length by omega) h5 (.inl (by omega))
       have hE : pE s = some i := pE_at hs0 h47 (show i < s.length by omega) ht hz.bad
       rw [pEi_s hE, pN_bad hs0 hE]
       exact ResQ_2 rfl rfl hcl (by simp [AV.lt, AV.ltL, AV.ltLL]) (Ret_of rfl)
      ·(try rw [h6]); replace h6 := zcl h6
       refine AWp_skip ?_
       refine zw3 ?_
       refine AWp_seq ?_
       refine zu5 ?_
       refine zsp 40 rfl (fun h7 => ?_) fun h7 => ?_
       ·rw [h7]; replace h7 := zcl h7
        refine zv5 ?_
        refine AWp_cond rfl (fun h8 => ?_) (fun h8 => ?_)
        ·(try rw [h8]); replace h8 := zcl h8
         refine zw4 ?_
         refine AWp_slotLe 2 rfl (AVle.nils false 1) ?_ (by decide)
         refine zrt ?_
         have ht : tbad s i = true := tbad_t (show i < s.length by omega) h5 (.inr ⟨h7, h8⟩)
         have hE : pE s = some i := pE_at hs0 h47 (show i < s.length by omega) ht hz.bad
         rw [pEi_s hE, pN_bad hs0 hE]
         exact ResQ_2 rfl rfl hcl (by simp [AV.lt, AV.ltL, AV.ltLL]) (Ret_of (by rw [show (i : Int) + 1 - 1 = i by omega]; rfl))
        ·(try rw [h8]); replace h8 := zcl h8
         refine AWp_skip ?_
         refine zw1 ?_
         refine zw4 ?_
         refine AWp_cond rfl (fun h9 => ?_) (fun h9 => ?_)
         ·(try rw [h9]); replace h9 := zcl h9
          have hi9 := hz126
          refine AWp_regL ?_
          refine zv1 ?_
          refine AWp_drawL #[0, 0, 2, 6, 0, 0, 32, 96, 240, 496, 0, 1024, 3072, 8176, 16383, 32767] Tryz.mixed (by decide +kernel) (by decide +kernel) ?_
          refine zd2 ?_
          refine yP rfl rfl (op_lenS rfl rfl Tryz.underlying31 rfl rfl ⟨1, _, get_own 0⟩) (trivial) ?_
          refine zd3 ?_
          refine yP rfl rfl (op_lenS rfl rfl Tryz.underlying31 rfl rfl ⟨1, _, get_own 0⟩) (trivial) ?_
          refine zd1 ?_
          refine yP rfl rfl (op_indexAddrAO (j := 0) rfl Tryz.underlying31 Tryz.sizeOf9 rfl rfl (by omega) (by omega) rfl) (trivial) ?_
          refine yP rfl rfl (op_load1 rfl Tryz.isAgg9 (ldv_el (j := 0) (i := (ps ++ [q]).length - 1) rfl hlst (by omega))) (trivial) ?_
          refine zd1 ?_
          refine yA rfl rfl (fun _ => op_buildSlice [[_]] rfl Tryz.underlying82 Tryz.sizeOf5 Tryz.zeroValue5 rfl (by decide) (by decide) rfl rfl rfl rfl rfl) ?_
          refine yA rfl rfl (fun _ => (by first | exact op_bytesStr (b := ⟨#[126]⟩) (m := 1) rfl Tryz.underlying82 Tryz.underlying5 Tryz.underlying9 rfl rfl rfl | exact op_bytesStr (b := ⟨#[47]⟩) (m := 1) rfl Tryz.underlying82 Tryz.underlying5 Tryz.underlying9 rfl rfl rfl | exact op_bytesStr (b := ⟨#[bat (ba s) i]⟩) (m := 1) rfl Tryz.underlying82 Tryz.underlying5 Tryz.underlying9 rfl rfl rfl)) ?_
          refine yA rfl rfl (fun _ => op_cat rfl rfl rfl (by rw [hqz]; show q.length + 1 ≤ _; omega)) ?_
          refine yP rfl rfl (op_indexAddrAO (j := 0) rfl Tryz.underlying31 Tryz.sizeOf9 rfl rfl (by omega) (by omega) rfl) (trivial) ?_
          refine yEN rfl rfl rfl (op_storeEl (j := 0) (i := (ps ++ [q]).length - 1) rfl Tryz.sizeOf9 rfl rfl (by omega) rfl (by rw [sflat_len]; omega)) (⟨.inl rfl, ⟨.inl rfl, ⟨.inl rfl, ⟨.inl rfl, ⟨.inl rfl, trivial⟩⟩⟩⟩⟩) (trivial) ?_
          refine RP.nil rfl ?_
          refine AWp_regL ?_
          refine zv3 ?_
          have hz49 := (g49 (show i + 1 < s.length by omega)).2 h8
          have hp9 := hz.esc hi1 rfl hz126 hz49 (.inr rfl)
          refine ⟨(i + 1 + 1, ps ++ [q ++ [47]], g), σ.length + 1, hp9, by have := hp9.le; simp only; omega, by simp, ⟨rfl, rfl, by rw [List.length_append, List.length_append]; rfl, rfl, trivial⟩, closed_own 1 hcl ?_, ?_, ?_⟩
          ·simp [ownLt, AO.cells]; rw [AV.ltL_iff]; intro a ha; rcases List.mem_or_eq_of_mem_set ha with h | rfl; exact (AV.ltL_iff _ _).1 (flat_lt (srow_lt _ _)) a h; trivial
          ·simp [ltE, AV.lt]
          ·refine (take_own 1).trans ?_
           rw [← srow_setl ps q (q ++ [47]), ← ba_app]; rfl
         ·(try rw [h9]); replace h9 := zcl h9
          exact absurd h8 h9
       ·rw [h7]; replace h7 := zcl h7
        refine zv5 ?_
        refine AWp_condF rfl ?_
        refine AWp_skip ?_
        refine zw1 ?_
        refine zw4 ?_
        refine AWp_cond rfl (fun h10 => ?_) (fun h10 => ?_)
        ·(try rw [h10]); replace h10 := zcl h10
         omega
        ·(try rw [h10]); replace h10 := zcl h10
         refine AWp_skip ?_
         refine AWp_drawL #[0, 0, 2, 6, 0, 0, 32, 96, 240, 496, 0, 1024, 3072, 8176, 16383, 32767] Tryz.mixed (by decide +kernel) (by decide +kernel) ?_
         refine zd2 ?_
         refine yP rfl rfl (op_lenS rfl rfl Tryz.underlying31 rfl rfl ⟨1, _, get_own 0⟩) (trivial) ?_
         refine zd3 ?_
         refine yP rfl rfl (op_lenS rfl rfl Tryz.underlying31 rfl rfl ⟨1, _, get_own 0⟩) (trivial) ?_
         refine zd1 ?_
         refine yP rfl rfl (op_indexAddrAO (j := 0) rfl Tryz.underlying31 Tryz.sizeOf9 rfl rfl (by omega) (by omega) rfl) (trivial) ?_
         refine yP rfl rfl (op_load1 rfl Tryz.isAgg9 (ldv_el (j := 0) (i := (ps ++ [q]).length - 1) rfl hlst (by omega))) (trivial) ?_
         refine zd1 ?_
         refine yA rfl rfl (fun _ => op_buildSlice [[_]] rfl Tryz.underlying82 Tryz.sizeOf5 Tryz.zeroValue5 rfl (by decide) (by decide) rfl rfl rfl rfl rfl) ?_
         refine yA rfl rfl (fun _ => (by first | exact op_bytesStr (b := ⟨#[126]⟩) (m := 1) rfl Tryz.underlying82 Tryz.underlying5 Tryz.underlying9 rfl rfl rfl | exact op_bytesStr (b := ⟨#[47]⟩) (m := 1) rfl Tryz.underlying82 Tryz.underlying5 Tryz.underlying9 rfl rfl rfl | exact op_bytesStr (b := ⟨#[bat (ba s) i]⟩) (m := 1) rfl Tryz.underlying82 Tryz.underlying5 Tryz.underlying9 rfl rfl rfl)) ?_
         refine yA rfl rfl (fun _ => op_cat rfl rfl rfl (by rw [hqz]; show q.length + 1 ≤ _; omega)) ?_
         refine yP rfl rfl (op_indexAddrAO (j := 0) rfl Tryz.underlying31 Tryz.sizeOf9 rfl rfl (by omega) (by omega) rfl) (trivial) ?_
         refine yEN rfl rfl rfl (op_storeEl (j := 0) (i := (ps ++ [q]).length - 1) rfl Tryz.sizeOf9 rfl rfl (by omega) rfl (by rw [sflat_len]; omega)) (⟨.inl rfl, ⟨.inl rfl, ⟨.inl rfl, ⟨.inl rfl, ⟨.inl rfl, trivial⟩⟩⟩⟩⟩) (trivial) ?_
         refine RP.nil rfl ?_
         refine AWp_regL ?_
         refine zv3 ?_
         have hz48 := (g48 (show i + 1 < s.length by omega)).2 h7
         have hp9 := hz.esc hi1 rfl hz126 hz48 (.inl rfl)
         refine ⟨(i + 1 + 1, ps ++ [q ++ [126]], g), σ.length + 1, hp9, by have := hp9.le; simp only; omega, by simp, ⟨rfl, rfl, by rw [List.length_append, List.length_append]; rfl, rfl, trivial⟩, closed_own 1 hcl ?_, ?_, ?_⟩
         ·simp [ownLt, AO.cells]; rw [AV.ltL_iff]; intro a ha; rcases List.mem_or_eq_of_mem_set ha with h | rfl; exact (AV.ltL_iff _ _).1 (flat_lt (srow_lt _ _)) a h; trivial
         ·simp [ltE, AV.lt]
         ·refine (take_own 1).trans ?_
          rw [← srow_setl ps q (q ++ [126]), ← ba_app]; rfl
     ·(try rw [h5]); replace h5 := zcl h5
      have hn126 : ¬ s[i]? = some 126 := fun e => h5 ((g126 (show i < s.length by omega)).1 e)
      refine AWp_skip ?_
      refine AWp_drawL #[0, 0, 2, 6, 0, 0, 32, 96, 240, 496, 0, 1024, 3072, 8176, 16383, 32767] Tryz.mixed (by decide +kernel) (by decide +kernel) ?_
      refine zd2 ?_
      refine yP rfl rfl (op_lenS rfl rfl Tryz.underlying31 rfl rfl ⟨1, _, get_own 0⟩) (trivial) ?_
      refine zd3 ?_
      refine yP rfl rfl (op_lenS rfl rfl Tryz.underlying31 rfl rfl ⟨1, _, get_own 0⟩) (trivial) ?_
      refine zd1 ?_
      refine yP rfl rfl (op_indexAddrAO (j := 0) rfl Tryz.underlying31 Tryz.sizeOf9 rfl rfl (by omega) (by omega) rfl) (trivial) ?_
      refine yP rfl rfl (op_load1 rfl Tryz.isAgg9 (ldv_el (j := 0) (i := (ps ++ [q]).length - 1) rfl hlst (by omega))) (trivial) ?_
      refine zd1 ?_
      refine yA rfl rfl (fun _ => op_buildSlice [[_]] rfl Tryz.underlying82 Tryz.sizeOf5 Tryz.zeroValue5 rfl (by decide) (by decide) rfl rfl rfl rfl rfl) ?_
      refine yA rfl rfl (fun _ => (by first | exact op_bytesStr (b := ⟨#[126]⟩) (m := 1) rfl Tryz.underlying82 Tryz.underlying5 Tryz.underlying9 rfl rfl rfl | exact op_bytesStr (b := ⟨#[47]⟩) (m := 1) rfl Tryz.underlying82 Tryz.underlying5 Tryz.underlying9 rfl rfl rfl | exact op_bytesStr (b := ⟨#[bat (ba s) i]⟩) (m := 1) rfl Tryz.underlying82 Tryz.underlying5 Tryz.underlying9 rfl rfl rfl)) ?_
      refine yA rfl rfl (fun _ => op_cat rfl rfl rfl (by rw [hqz]; show q.length + 1 ≤ _; omega)) ?_
      refine yP rfl rfl (op_indexAddrAO (j := 0) rfl Tryz.underlying31 Tryz.sizeOf9 rfl rfl (by omega) (by omega) rfl) (trivial) ?_
      refine yEN rfl rfl rfl (op_storeEl (j := 0) (i := (ps ++ [q]).length - 1) rfl Tryz.sizeOf9 rfl rfl (by omega) rfl (by rw [sflat_len]; omega)) (⟨.inl rfl, ⟨.inl rfl, ⟨.inl rfl, ⟨.inl rfl, ⟨.inl rfl, trivial⟩⟩⟩⟩⟩) (trivial) ?_
      refine RP.nil rfl ?_
      refine AWp_regL ?_
      refine zv3 ?_
      have hzb : s[i]? = some (bat (ba s) i) := (get_is (show i < s.length by omega)).2 rfl
      have hp9 := hz.byte hi1 rfl hzb (fun e => hn47 (hzb.trans (congrArg some e))) (fun e => hn126 (hzb.trans (congrArg some e)))
      refine ⟨(i + 1, ps ++ [q ++ [bat (ba s) i]], g), σ.length + 1, hp9, by have := hp9.le; simp only; omega, by simp, ⟨rfl, rfl, by rw [List.length_append, List.length_append]; rfl, rfl, trivial⟩, closed_own 1 hcl ?_, ?_, ?_⟩
      ·simp [ownLt, AO.cells]; rw [AV.ltL_iff]; intro a ha; rcases List.mem_or_eq_of_mem_set ha with h | rfl; exact (AV.ltL_iff _ _).1 (flat_lt (srow_lt _ _)) a h; trivial
      ·simp [ltE, AV.lt]
      ·refine (take_own 1).trans ?_
       rw [← srow_setl ps q (q ++ [bat (ba s) i]), ← ba_app]; rfl
   ·(try rw [h3]); replace h3 := zcl h3
    refine AWp_exit ?_
    refine AWp_seq ?_
    have hie : i = s.length := by omega
    subst hie
    obtain ⟨hE, hN⟩ := hz.done hs0 h47
    refine AWp_freezeAO 4 0 g 1 L.length (srow L) rfl rfl (srow_el _) (srow_len _) (by decide) ?_ (by decide)
    refine AWp_regL ?_
    refine zv3 ?_
    refine zrt ?_
    rw [hN, pEi_n hE]
    exact ResQ_2 rfl rfl hcl (by simp [AV.lt, AV.ltL]) (Ret_of rfl)
end Lg
set_option maxRecDepth 20000
set_option maxHeartbeats 4000000
namespace Go.Proofs
open Go.Shelf
def Tryz.lays155_ren : Go.Shelf.Ren := ⟨fun | 155 => 51 | 154 => 68 | 138 => 93 | 165 => 95 | 143 => 94 | 166 => 96 | 197 => 97 | 169 => 98 | 195 => 119 | 218 => 120 | 240 => 122 | 241 => 123 | 219 => 121 | 260 => 124 | 276 => 151 | 277 => 152 | 217 => 147 | 225 => 148 | 224 => 149 | 267 => 150 | 266 => 164 | 314 => 165 | n => n, fun | 9 => 9 | 3 => 3 | 4 => 4 | 72 => 125 | 0 => 0 | 76 => 85 | 105 => 127 | 21 => 21 | 5 => 5 | 70 => 123 | 20 => 20 | 37 => 82 | 75 => 35 | 127 => 147 | 164 => 162 | 46 => 121 | 119 => 165 | 139 => 168 | 138 => 167 | 146 => 184 | 51 => 183 | 80 => 116 | n => n, fun | 1 => 2 | 3 => 3 | 4 => 4 | n => n⟩
theorem Tryz.lays155 : Go.Proofs.Lays.n155 Tryz.prog Tryz.lays155_ren := {
  mixed := by kernel_rfl, f138 := Tryz.func93.trans (congrArg some (by kernel_rfl)), f143 := Tryz.func94.trans (congrArg some (by kernel_rfl)), f154 := Tryz.func68.trans (congrArg some (by kernel_rfl)), f155 := Tryz.func51.trans (congrArg some (by kernel_rfl)), f165 := Tryz.func95.trans (congrArg some (by kernel_rfl)), f166 := Tryz.func96.trans (congrArg some (by kernel_rfl)), f169 := Tryz.func98.trans (congrArg some (by kernel_rfl)), f195 := Tryz.func119.trans (congrArg some (by kernel_rfl)), f197 := Tryz.func97.trans (congrArg some (by kernel_rfl)), f217 := Tryz.func147.trans (congrArg some (by kernel_rfl)), f218 := Tryz.func120.trans (congrArg some (by kernel_rfl)), f219 := Tryz.func121.trans (congrArg some (by kernel_rfl)), f224 := Tryz.func149.trans (congrArg some (by kernel_rfl)), f225 := Tryz.func148.trans (congrArg some (by kernel_rfl)), f240 := Tryz.func122.trans (congrArg some (by kernel_rfl)), f241 := Tryz.func123.trans (congrArg some (by kernel_rfl)), f260 := Tryz.func124.trans (congrArg some (by kernel_rfl)), f266 := Tryz.func164.trans (congrArg some (by kernel_rfl)), f267 := Tryz.func150.trans (congrArg some (by kernel_rfl)), f276 := Tryz.func151.trans (congrArg some (by kernel_rfl)), f277 := Tryz.func152.trans (congrArg some (by kernel_rfl)), f314 := Tryz.func165.trans (congrArg some (by kernel_rfl)), t0 := Tryz.underlying0, a0 := Tryz.isAgg0, z0 := Tryz.sizeOf0, v0 := Tryz.zeroValue0, t3 := Tryz.underlying3, a3 := Tryz.isAgg3, z3 := Tryz.sizeOf3, v3 := Tryz.zeroValue3, t4 := Tryz.underlying4, a4 := Tryz.isAgg4, z4 := Tryz.sizeOf4, v4 := Tryz.zeroValue4, t5 := Tryz.underlying5, a5 := Tryz.isAgg5, z5 := Tryz.sizeOf5, v5 := Tryz.zeroValue5, t9 := Tryz.underlying9, a9 := Tryz.isAgg9, z9 := Tryz.sizeOf9, v9 := Tryz.zeroValue9, t20 := Tryz.underlying20, a20 := Tryz.isAgg20, z20 := Tryz.sizeOf20, v20 := Tryz.zeroValue20, t21 := Tryz.underlying21, a21 := Tryz.isAgg21, z21 := Tryz.sizeOf21, v21 := Tryz.zeroValue21, t37 := Tryz.underlying82, a37 := Tryz.isAgg82, z37 := Tryz.sizeOf82, v37 := Tryz.zeroValue82, t46 := Tryz.underlying121, a46 := Tryz.isAgg121, z46 := Tryz.sizeOf121, v46 := Tryz.zeroValue121, t51 := Tryz.underlying183, a51 := Tryz.isAgg183, z51 := Tryz.sizeOf183, v51 := Tryz.zeroValue183, t70 := Tryz.underlying123, a70 := Tryz.isAgg123, z70 := Tryz.sizeOf123, v70 := Tryz.zeroValue123, t72 := Tryz.underlying125, a72 := Tryz.isAgg125, z72 := Tryz.sizeOf125, v72 := Tryz.zeroValue125, t75 := Tryz.underlying35, a75 := Tryz.isAgg35, z75 := Tryz.sizeOf35, v75 := Tryz.zeroValue35, t76 := Tryz.underlying85, a76 := Tryz.isAgg85, z76 := Tryz.sizeOf85, v76 := Tryz.zeroValue85, t105 := Tryz.underlying127, a105 := Tryz.isAgg127, z105 := Tryz.sizeOf127, v105 := Tryz.zeroValue127, t119 := Tryz.underlying165, a119 := Tryz.isAgg165, z119 := Tryz.sizeOf165, t127 := Tryz.underlying147, a127 := Tryz.isAgg147, z127 := Tryz.sizeOf147, v127 := Tryz.zeroValue147, t138 := Tryz.underlying167, a138 := Tryz.isAgg167, z138 := Tryz.sizeOf167, v138 := Tryz.zeroValue167, t139 := Tryz.underlying168, a139 := Tryz.isAgg168, z139 := Tryz.sizeOf168, v139 := Tryz.zeroValue168, t146 := Tryz.underlying184, a146 := Tryz.isAgg184, z146 := Tryz.sizeOf184, v146 := Tryz.zeroValue184, t164 := Tryz.underlying162, a164 := Tryz.isAgg162, z164 := Tryz.sizeOf162, v164 := Tryz.zeroValue162, g1 := by kernel_rfl, g3 := by kernel_rfl, g4 := by kernel_rfl }
def Tryz.lays146_ren : Go.Shelf.Ren := ⟨fun | 146 => 50 | 221 => 67 | 268 => 92 | 138 => 93 | 143 => 94 | 195 => 119 | 197 => 97 | 218 => 120 | 219 => 121 | 260 => 124 | 217 => 147 | 225 => 148 | 224 => 149 | 267 => 150 | 266 => 164 | 314 => 165 | n => n, fun | 9 => 9 | 31 => 31 | 3 => 3 | 4 => 4 | 0 => 0 | 105 => 127 | 21 => 21 | 5 => 5 | 46 => 121 | 119 => 165 | 139 => 168 | 138 => 167 | 146 => 184 | 51 => 183 | n => n, fun | 1 => 2 | 3 => 3 | 4 => 4 | n => n⟩
theorem Tryz.lays146 : Go.Proofs.Lays.n146 Tryz.prog Tryz.lays146_ren := {
  mixed := by kernel_rfl, f138 := Tryz.func93.trans (congrArg some (by kernel_rfl)), f143 := Tryz.func94.trans (congrArg some (by kernel_rfl)), f146 := Tryz.func50.trans (congrArg some (by kernel_rfl)), f195 := Tryz.func119.trans (congrArg some (by kernel_rfl)), f197 := Tryz.func97.trans (congrArg some (by kernel_rfl)), f217 := Tryz.func147.trans (congrArg some (by kernel_rfl)), f218 := Tryz.func120.trans (congrArg some (by kernel_rfl)), f219 := Tryz.func121.trans (congrArg some (by kernel_rfl)), f221 := Tryz.func67.trans (congrArg some (by kernel_rfl)), f224 := Tryz.func149.trans (congrArg some (by kernel_rfl)), f225 := Tryz.func148.trans (congrArg some (by kernel_rfl)), f260 := Tryz.func124.trans (congrArg some (by kernel_rfl)), f266 := Tryz.func164.trans (congrArg some (by kernel_rfl)), f267 := Tryz.func150.trans (congrArg some (by kernel_rfl)), f268 := Tryz.func92.trans (congrArg some (by kernel_rfl)), f314 := Tryz.func165.trans (congrArg some (by kernel_rfl)), t0 := Tryz.underlying0, a0 := Tryz.isAgg0, z0 := Tryz.sizeOf0, v0 := Tryz.zeroValue0, t3 := Tryz.underlying3, a3 := Tryz.isAgg3, z3 := Tryz.sizeOf3, v3 := Tryz.zeroValue3, t4 := Tryz.underlying4, a4 := Tryz.isAgg4, z4 := Tryz.sizeOf4, v4 := Tryz.zeroValue4, t5 := Tryz.underlying5, a5 := Tryz.isAgg5, z5 := Tryz.sizeOf5, v5 := Tryz.zeroValue5, t9 := Tryz.underlying9, a9 := Tryz.isAgg9, z9 := Tryz.sizeOf9, v9 := Tryz.zeroValue9, t21 := Tryz.underlying21, a21 := Tryz.isAgg21, z21 := Tryz.sizeOf21, v21 := Tryz.zeroValue21, t31 := Tryz.underlying31, a31 := Tryz.isAgg31, z31 := Tryz.sizeOf31, v31 := Tryz.zeroValue31, t46 := Tryz.underlying121, a46 := Tryz.isAgg121, z46 := Tryz.sizeOf121, v46 := Tryz.zeroValue121, t51 := Tryz.underlying183, a51 := Tryz.isAgg183, z51 := Tryz.sizeOf183, v51 := Tryz.zeroValue183, t105 := Tryz.underlying127, a105 := Tryz.isAgg127, z105 := Tryz.sizeOf127, v105 := Tryz.zeroValue127, t119 := Tryz.underlying165, a119 := Tryz.isAgg165, z119 := Tryz.sizeOf165, t138 := Tryz.underlying167, a138 := Tryz.isAgg167, z138 := Tryz.sizeOf167, v138 := Tryz.zeroValue167, t139 := Tryz.underlying168, a139 := Tryz.isAgg168, z139 := Tryz.sizeOf168, v139 := Tryz.zeroValue168, t146 := Tryz.underlying184, a146 := Tryz.isAgg184, z146 := Tryz.sizeOf184, v146 := Tryz.zeroValue184, g1 := by kernel_rfl, g3 := by kernel_rfl, g4 := by kernel_rfl }
def Tryz.laysM143_ren : Go.Shelf.Ren := ⟨fun | 143 => 94 | 219 => 121 | 217 => 147 | 225 => 148 | 224 => 149 | 267 => 150 | 266 => 164 | 314 => 165 | n => n, fun | 9 => 9 | 3 => 3 | 4 => 4 | 5 => 5 | 46 => 121 | 146 => 184 | 51 => 183 | n => n, fun | 1 => 2 | n => n⟩
theorem Tryz.laysM143 : Go.Proofs.LaysM.n143 Tryz.prog Tryz.laysM143_ren := {
  mixed := by kernel_rfl, f143 := Tryz.func94.trans (congrArg some (by kernel_rfl)), f217 := Tryz.func147.trans (congrArg some (by kernel_rfl)), f219 := Tryz.func121.trans (congrArg some (by kernel_rfl)), f224 := Tryz.func149.trans (congrArg some (by kernel_rfl)), f225 := Tryz.func148.trans (congrArg some (by kernel_rfl)), f266 := Tryz.func164.trans (congrArg some (by kernel_rfl)), f267 := Tryz.func150.trans (congrArg some (by kernel_rfl)), f314 := Tryz.func165.trans (congrArg some (by kernel_rfl)), t3 := Tryz.underlying3, a3 := Tryz.isAgg3, z3 := Tryz.sizeOf3, v3 := Tryz.zeroValue3, t4 := Tryz.underlying4, a4 := Tryz.isAgg4, z4 := Tryz.sizeOf4, v4 := Tryz.zeroValue4, t5 := Tryz.underlying5, a5 := Tryz.isAgg5, z5 := Tryz.sizeOf5, v5 := Tryz.zeroValue5, t9 := Tryz.underlying9, a9 := Tryz.isAgg9, z9 := Tryz.sizeOf9, v9 := Tryz.zeroValue9, t46 := Tryz.underlying121, a46 := Tryz.isAgg121, z46 := Tryz.sizeOf121, v46 := Tryz.zeroValue121, t51 := Tryz.underlying183, a51 := Tryz.isAgg183, z51 := Tryz.sizeOf183, v51 := Tryz.zeroValue183, t146 := Tryz.underlying184, a146 := Tryz.isAgg184, z146 := Tryz.sizeOf184, v146 := Tryz.zeroValue184, g1 := by kernel_rfl, i3 := by kernel_rfl, i4 := by kernel_rfl, i5 := by kernel_rfl, i9 := by kernel_rfl, i46 := by kernel_rfl, i51 := by kernel_rfl, i146 := by kernel_rfl, m1 := by kernel_rfl, s1_3 := fun w h => Go.Proofs.cell_of_shapedOpen_int (zero := #[.int .i64 0]) (t := 3) h (of_decide_eq_true (by kernel_rfl)) (by kernel_rfl) rfl (by kernel_rfl) (by kernel_rfl) Tryz.underlying3 }
theorem Tryz.bldX : Builder.Extra Tryz.prog Tryz.lays155_ren := { sizeBuilder := by kernel_rfl, liesBuilder := by kernel_rfl, t5 := Tryz.underlying5, a5 := Tryz.isAgg5, z5 := Tryz.sizeOf5, v5 := Tryz.zeroValue5, infoByte := by kernel_rfl, cellsByte := by kernel_rfl, sizeByte := by kernel_rfl, neB5 := by decide }
end Go.Proofs
namespace Lg
open Go Go.Proofs Go.RowKit
/-- The library's variable MaxLen holds some int. -/
class ML [GLay] : Prop where
  cell : ∃ m, ∀ w : World, Laid w → w.cell? ⟨2, 0, none⟩ = some (.int .i64 m)
section
variable [GLay] [ML]
theorem replA_c (s : ByteArray) (old nw : BL) (σ : List AO) (h0 : old ≠ []) (hne : old ≠ nw) (hs : s.size ≤ 1000000) (hn : nw.length ≤ 2) : ACalls Tryz.prog 51 [.str s, .str (ba old), .str (ba nw)] σ (Ret (.str (ba (ra old nw s.data.toList))) σ) :=
  ACalls_below fun st cargs g hp => by
    obtain ⟨q, qs, rfl, h1, h2⟩ := hp.inv_cons
    obtain ⟨q2, qs2, rfl, h3, h4⟩ := h2.inv_cons
    obtain ⟨q3, qs3, rfl, h5, h6⟩ := h4.inv_cons
    obtain rfl := h6.inv_nil
    obtain rfl := h1.inv_str
    obtain rfl := h3.inv_str
    obtain rfl := h5.inv_str
    obtain ⟨m, hm⟩ := ML.cell
    have hol : 1 ≤ (ba old).size := by rw [ba_size]; cases old with
      | nil => exact absurd rfl h0
      | cons => simp
    have hc := Lib.countB_le (ba old) hol s.size s (Nat.le_refl _)
    have hb : Lib.countB s (ba old) * (ba nw).size ≤ 1000000 * 2 := Nat.mul_le_mul (by omega) (by rw [ba_size]; exact hn)
    have h := Any.strings_ReplaceAll Tryz.lays155 Tryz.bldX s (ba old) (ba nw) m st.w (by omega) (hm _ g.laid) hol (by omega)
    rw [ba_toList, ba_toList, ra_all hne] at h
    exact ⟨_, fun _ => .str _, h⟩
theorem split_c (s : ByteArray) (c : UInt8) (σ : List AO) (hs : s.size ≤ 1000000) : ACalls Tryz.prog 50 [.str s, .str ⟨#[c]⟩] σ (fun o σ' => o = .ret (.arr σ.length 0 1 0 (pcs c s.data.toList).length) ∧ σ' = σ ++ [.arr 1 0 ((pcs c s.data.toList).map fun x => AV.str (ba x))]) := by
  intro st cargs hst g hp
  subst hst
  obtain ⟨q, qs, rfl, h1, h2⟩ := hp.inv_cons
  obtain ⟨q2, qs2, rfl, h3, h4⟩ := h2.inv_cons
  obtain rfl := h4.inv_nil
  obtain rfl := h1.inv_str
  obtain rfl := h3.inv_str
  obtain ⟨m, hm⟩ := ML.cell
  refine (Any.strings_Split Tryz.lays146 (by kernel_rfl) s ⟨#[c]⟩ m st.w (by omega) (hm _ g.laid) (by show 1 ≤ 1; omega)).mono ?_
  rintro e w' ⟨rfl, rfl⟩
  have hsp := splitB_pcs c s.data.toList.length s.data.toList (Nat.le_refl _)
  rw [← ba_eta] at hsp
  have hlen := Lib.splitB_all ⟨#[c]⟩ (by show 1 ≤ 1; omega) 0 _ s rfl
  rw [hsp, List.length_map] at hlen
  rw [hsp]
  obtain ⟨s', e1, e2, g', x', hμ⟩ := g.newArr (sz := 1) (cs := (pcs c s.data.toList).map fun x => AV.str (ba x)) (vs := ((pcs c s.data.toList).map ba).map Value.string) (by
    rw [List.take_of_length_le (by simp)]
    refine ⟨by simp, fun i cv v h1 h2 => ?_⟩
    rw [List.getElem?_map] at h1
    rw [List.getElem?_map, List.getElem?_map] at h2
    cases hx : (pcs c s.data.toList)[i]? with
    | none => rw [hx] at h1; cases h1
    | some x => rw [hx] at h1 h2; cases h1; cases h2; exact .str _) (by simp) (Tryz.lays146_ren.t 9) (Go.RowKit.Below.refl _ _) rfl
  exact ⟨s', e2, g', x', .arr st.σ.length 0 1 0 (Lib.countB s ⟨#[c]⟩ + 1), V.newArr (sz := 1) (cs := (pcs c s.data.toList).map fun x => AV.str (ba x)) (by rw [e1]; simp) hμ (Nat.le_refl _) (by simp; omega), by rw [hlen], e1⟩
end
theorem cell_heap0 [g : GLay] {W w : World} (hg : ∀ b, g.f b = W.heap[b]?) (hw : Laid w) {b c : Nat} {v : Value} (h : W.cell? ⟨b, c, none⟩ = some v) : w.cell? ⟨b, c, none⟩ = some v := by
  cases hb : W.heap[b]? with
  | none => simp [World.cell?, hb] at h
  | some o => rw [← h]; simp only [World.cell?, hb, hw b o ((hg b).trans hb)]
theorem ML.of [g : GLay] {W : World} (hS : W.ShapedOpen Tryz.prog) (hg : ∀ b, g.f b = W.heap[b]?) : ML := by
  obtain ⟨m, hm⟩ := Tryz.laysM143.s1_3 W hS
  exact ⟨m, fun w hw => cell_heap0 hg hw hm⟩
end Lg
set_option maxRecDepth 20000
set_option maxHeartbeats 4000000
namespace Lg
open Go Go.Proofs Go.RowKit
variable [GLay] [ML]
theorem pshw_c (f : Bool) (l : List BL) (σ : List AO) (hl : l.length ≤ 1000) (hx : ∀ x ∈ l, x.length ≤ 1000) : ACalls Tryz.prog 27 [.sl f 1 (srow l)] σ (Ret (.str (ba (shw l))) σ) := by
 refine ACalls_body Tryz.func27 rfl Tryz.ntmps27 (res1 Tryz.results27) (Nat.le_of_ble_eq_true rfl) (fun hcl hal => ?_)
 have hrl := srow_len l
 refine zw1 ?_
 refine zw1 ?_
 refine AWp_seq ?_
 refine zw3 ?_
 refine AWp_block ?_
 -- loop 0 LIVE 2:assign 3:assign 6:move 7:call 8:move
 refine AWp_loop (ι := Nat) (fun i => i ≤ l.length) (fun i => ⟨[], [(3, .str (ba (shw (l.take i)))), (6, .sl f 1 (srow l)), (7, .int .i64 ((srow l).length : Int)), (8, .int .i64 (i : Int))]⟩) (fun i => σ) (fun i => l.length - i) (0) (Nat.zero_le _) ?_ rfl (fun i hi => ?_)
 ·exact ⟨rfl, rfl, rfl, rfl, rfl, trivial⟩
 have hsl := shw_len 1000 (l.take i) (fun x h => hx x (List.mem_of_mem_take h))
 have htl : (l.take i).length ≤ 1000 := by rw [List.length_take]; omega
 have hsl2 : (shw (l.take i)).length ≤ 1000 * 2001 := Nat.le_trans hsl (Nat.mul_le_mul htl (Nat.le_refl _))
 refine zw1 ?_
 refine AWp_seq ?_
 refine AWp_cond rfl (fun h1 => ?_) (fun h1 => ?_)
 ·(try rw [h1]); replace h1 := zcl h1
  obtain ⟨x, hxi⟩ : ∃ x, l[i]? = some x := ⟨_, List.getElem?_eq_getElem (show i < l.length by omega)⟩
  have hxr := srow_get hxi
  have hxl := hx x (List.mem_of_getElem? hxi)
  have hr1 := ra1_len 126 [126, 48] (by decide) x
  have he1 := esc_len x
  refine AWp_skip ?_
  refine AWp_seq ?_
  refine AWp_block ?_
  refine zsr ?_
  refine zt rfl (op_indexAddr rfl Tryz.underlying31 Tryz.sizeOf9 rfl rfl (by omega) (hxr)) ?_
  refine zv2 ?_
  refine AWp_regL ?_
  refine zg2 ?_
  refine zt rfl (zc rfl (replA_c (ba x) [126] [126, 48] _ (by decide) (by decide) (by rw [ba_size]; omega) (by decide))) ?_
  rw [ba_toList]
  refine zt rfl (zc rfl (replA_c (ba (ra [126] [126, 48] x)) [47] [126, 49] _ (by decide) (by decide) (by rw [ba_size]; omega) (by decide))) ?_
  rw [ba_toList, esc_ra]
  have z1 : (ByteArray.mk #[47]).size = 1 := rfl
  have z2 : (ba (pesc x)).size = (pesc x).length := ba_size _
  have z3 : (ba (shw (l.take i))).size = (shw (l.take i)).length := ba_size _
  have z4 := ByteArray.size_append (a := (⟨#[47]⟩ : ByteArray)) (b := ba (pesc x))
  refine zv3 ?_
  refine AWp_regL ?_
  refine zv2 ?_
  refine ⟨i + 1, σ.length, by omega, by omega, Nat.le_refl _, ⟨rfl, ?_, rfl, rfl, rfl, trivial⟩, hcl, ?_, List.take_length⟩
  ·rw [List.take_add_one, hxi]; show _ = AV.str (ba (shw (List.take i l ++ [x]))); rw [shw_snoc, show (47 :: pesc x : BL) = [47] ++ pesc x from rfl, ← ba_app, ← ba_app]; rfl
  ·simp [ltE, AV.lt]
 ·(try rw [h1]); replace h1 := zcl h1
  refine AWp_exit ?_
  refine zw2 ?_
  refine zrt ?_
  exact ResQ_10 rfl hcl trivial (Ret_of (by rw [show i = l.length by omega, List.take_length]))

theorem names_c (f g : Bool) (a b : List BL) (σ : List AO) (hl : a.length ≤ 100000000) (hl2 : b.length ≤ 100000000) : ACalls Tryz.prog 24 [.sl f 1 (srow a), .sl g 1 (srow b)] σ (Ret (.int .i64 (bif pb (a = b) then 1 else 0)) σ) := by
 refine ACalls_body Tryz.func24 rfl Tryz.ntmps24 (res1 Tryz.results24) (Nat.le_of_ble_eq_true rfl) (fun hcl hal => ?_)
 have hra := srow_len a
 have hrb := srow_len b
 refine zw1 ?_
 refine AWp_seq ?_
 refine zw5 ?_
 refine AWp_cond rfl (fun h1 => ?_) (fun h1 => ?_)
 ·(try rw [h1]); replace h1 := zcl h1
  refine zw1 ?_
  refine zrt ?_
  exact ResQ_10 rfl hcl trivial (Ret_of (by rw [pb_f (fun h => h1 (by rw [h]))]; rfl))
 ·(try rw [h1]); replace h1 := zcl h1
  refine AWp_skip ?_
  refine AWp_seq ?_
  refine zw1 ?_
  refine AWp_block ?_
  -- loop 0 LIVE 0:param 1:param 4:assign 5:assign
  refine AWp_loop (ι := Nat) (fun i => i ≤ a.length ∧ ∀ (j : Nat), j < i → a[j]? = b[j]?) (fun i => ⟨[], [(0, .sl f 1 (srow a)), (1, .sl g 1 (srow b)), (5, .int .i64 (i : Int))]⟩) (fun i => σ) (fun i => a.length - i) (0) (⟨Nat.zero_le _, fun j h => absurd h (by omega)⟩) ?_ rfl (fun i hi => ?_)
  ·exact ⟨rfl, rfl, rfl, rfl, trivial⟩
  obtain ⟨hi1, hi2⟩ := hi
  refine AWp_seq ?_
  refine zw4 ?_
  refine AWp_cond rfl (fun h2 => ?_) (fun h2 => ?_)
  ·(try rw [h2]); replace h2 := zcl h2
   obtain ⟨x, hx⟩ : ∃ x, a[i]? = some x := ⟨_, List.getElem?_eq_getElem (show i < a.length by omega)⟩
   obtain ⟨y, hy⟩ : ∃ y, b[i]? = some y := ⟨_, List.getElem?_eq_getElem (show i < b.length by omega)⟩
   have hxr := srow_get hx
   have hyr := srow_get hy
   refine AWp_skip ?_
   refine AWp_seq ?_
   refine AWp_block ?_
   refine AWp_seq ?_
   refine AWp_drawL #[0, 0, 3, 7, 0, 0, 48, 112, 255] Tryz.mixed (by decide +kernel) (by decide +kernel) ?_
   refine zd2 ?_
   refine yA rfl rfl (fun _ => op_indexAddr rfl Tryz.underlying31 Tryz.sizeOf9 rfl rfl (by omega) (hxr)) ?_
   refine zp1 ?_
   refine zd2 ?_
   refine yA rfl rfl (fun _ => op_indexAddr rfl Tryz.underlying31 Tryz.sizeOf9 rfl rfl (by omega) (hyr)) ?_
   refine zp1 ?_
   refine zd1 ?_
   refine RP.nil rfl ?_
   refine AWp_cond rfl (fun h3 => ?_) (fun h3 => ?_)
   ·(try rw [h3]); replace h3 := zcl h3
    refine zw1 ?_
    refine zrt ?_
    exact ResQ_10 rfl hcl trivial (Ret_of (by rw [pb_f (fun h => h3 (by rw [h, hy] at hx; cases hx; rfl))]; rfl))
   ·(try rw [h3]); replace h3 := zcl h3
    refine AWp_skip ?_
    refine AWp_regL ?_
    refine zv3 ?_
    refine ⟨i + 1, σ.length, ⟨by omega, fun j hj => ?_⟩, by omega, Nat.le_refl _, ⟨rfl, rfl, rfl, rfl, trivial⟩, hcl, ?_, List.take_length⟩
    ·by_cases e : j = i
     ·subst e; rw [hx, hy, ba_inj.1 h3]
     ·exact hi2 j (by omega)
    ·simp [ltE, AV.lt]
  ·(try rw [h2]); replace h2 := zcl h2
   refine AWp_exit ?_
   refine zw1 ?_
   refine zrt ?_
   have hab : a = b := List.ext_getElem? fun j => by by_cases hj : j < i; exact hi2 j hj; rw [List.getElem?_eq_none (by omega), List.getElem?_eq_none (by omega)]
   exact ResQ_10 rfl hcl trivial (Ret_of (by rw [pb_t hab]; rfl))
end Lg
namespace Lg
open Go Go.RowKit
variable [GLay]
variable {P : Program} {N : Nat} {σ l : List AO} {e : Env} {Q : QA} {o : Oper}
/-- A pointer in an interface, to a box of the call's own, becomes one to what is never written again. -/
theorem AWp_freezeI {c : Code} (t p off : Nat) (T : TypeId) {cs : List AV} (hl : lookO e.l t = some (.iface T (.ptr p off))) (hσ : σ[p]? = some (.box cs)) (k : AWp P N c (e.put (some t) (.iface T (.pp (cs.drop off)))) (σ.set p .gone) Q) (ht : t < N) : AWp P N c e σ Q := fun s0 s a hs g x he => by
  subst hs
  have hv := he.tmps t
  rw [show e.look t = .iface T (.ptr p off) from lookO_eq hl] at hv
  obtain ⟨v, hv0, hv1⟩ := hv.inv_iface
  obtain ⟨s', e1, e2, g', x', hv'⟩ := freezeBox_V g hσ hv1
  have hv2 : V s' (.iface T (.pp (cs.drop off))) (a.eval (.tmp t)) := by rw [hv0]; exact .iface _ _ _ hv'
  have := k s0 s' a e1 g' (x.trans x') (by
    have h1 := (he.mono g x').put (some t) hv2 (fun d hd => by cases hd; exact ht)
    have h2 : a.put (some t) (a.eval (.tmp t)) = a := put_self (by rw [he.size]; exact ht)
    rwa [h2] at h1)
  rwa [e2] at this
section asserts
variable {T U U' E : TypeId} {x : Operand} {v : AV}
theorem op_assertT (ho : o.op = .typeAssert x T U true) (hu : P.underlying U = some (.pointer E)) (hx : opO e x = some (.iface U v)) : AOp P σ e o (.tup [v, .bool true]) σ :=
  .of_run fun s a hs g hv => by
    have h1 := hv x (by simp [ho, Op.operands])
    rw [opO_eq hx] at h1
    obtain ⟨w, h2, h3⟩ := h1.inv_iface
    refine ⟨.tuple #[w, .bool true], ?_, .tup [v, .bool true] [w, .bool true] rfl (fun i c z e1 e2 => by
      match i, e1, e2 with
      | 0, e1, e2 => cases e1; cases e2; exact h3
      | 1, e1, e2 => cases e1; cases e2; exact .bool _)⟩
    simp [execOp, ho, h2, Instr.typeAssert, run_underlying hu]
theorem op_assertF (ho : o.op = .typeAssert x T U true) (hu : P.underlying U = some (.pointer E)) (hz : ∀ w, (zeroValue U).run P w = Result.ok (.pointer none) w) (hx : opO e x = some (.iface U' v)) (hne : U' ≠ U) : AOp P σ e o (.tup [.nilp, .bool false]) σ :=
  .of_run fun s a hs g hv => by
    have h1 := hv x (by simp [ho, Op.operands])
    rw [opO_eq hx] at h1
    obtain ⟨w, h2, h3⟩ := h1.inv_iface
    refine ⟨.tuple #[.pointer none, .bool false], ?_, .tup [.nilp, .bool false] [.pointer none, .bool false] rfl (fun i c z e1 e2 => by
      match i, e1, e2 with
      | 0, e1, e2 => cases e1; cases e2; exact .nilp
      | 1, e1, e2 => cases e1; cases e2; exact .bool _)⟩
    simp [execOp, ho, h2, Instr.typeAssert, run_underlying hu, hne, hz]
end asserts
end Lg
set_option maxRecDepth 20000
set_option maxHeartbeats 4000000
namespace Lg
open Go Go.Proofs Go.RowKit
variable [GLay] 
def errV : Option (Int × Int) → AV
  | none => .nili
  | some z => .iface 77 (.pp [.int .i64 z.1, .int .i64 z.2])
theorem errV_lt (n : Nat) (z : Option (Int × Int)) : (errV z).lt n := by
  cases z <;> simp [errV, AV.lt, AV.ltL]
theorem op_neErr {P : Program} {σ : List AO} {e : Env} {o : Oper} {T T' : TypeId} {x : Operand} {ms : Array (String × TypeId)} {z : Option (Int × Int)} (ho : o.op = .binOp .neq T x (.const .nilIface) T') (hu : P.underlying T = some (.interface ms)) (hx : opO e x = some (errV z)) : AOp P σ e o (.bool z.isSome) σ := by
  cases z with
  | none => exact op_neINil ho hu hx
  | some z => exact op_neIN ho hu hx
end Lg
set_option maxRecDepth 20000
set_option maxHeartbeats 4000000
namespace Lg
open Go Go.Proofs Go.RowKit
variable [GLay] [ML]
theorem ptrP_c (s : BL) (σ : List AO) (hs : s.length ≤ 1000000) : ACalls Tryz.prog 21 [.str (ba s)] σ (Ret (.tup [.sl false 1 (srow (pN s)), errV ((pE s).map fun i => ((i : Int), (1 : Int)))]) σ) := by
 refine ACalls_body Tryz.func21 rfl Tryz.ntmps21 (res2 Tryz.results21) (Nat.le_of_ble_eq_true rfl) (fun hcl hal => ?_)
 have hbz : (ba s).size = s.length := ba_size s
 refine zw2 ?_
 refine AWp_seq ?_
 refine zw2 ?_
 refine AWp_cond rfl (fun h1 => ?_) (fun h1 => ?_)
 ·(try rw [h1]); replace h1 := zcl h1
  have hs0 : s = [] := ba_nil.1 h1
  refine zw2 ?_
  refine AWp_slotLe 2 rfl (AVle.nils false 1) ?_ (by decide)
  refine zrt ?_
  subst hs0
  exact ResQ_20 rfl rfl hcl (by simp [AV.lt, AV.ltL, AV.ltLL]) (Ret_of rfl)
 ·(try rw [h1]); replace h1 := zcl h1
  have hs0 : ¬ s = [] := fun e => h1 (ba_nil.2 e)
  have hsl : 0 < s.length := List.length_pos_iff.2 hs0
  refine AWp_skip ?_
  refine AWp_seq ?_
  refine zw3 ?_
  refine AWp_cond rfl (fun h2 => ?_) (fun h2 => ?_)
  ·(try rw [h2]); replace h2 := zcl h2
   have h47 : ¬ s[0]? = some 47 := fun e => h2 ((g47 hsl).1 e)
   refine zw5 ?_
   refine AWp_slotLe 2 rfl (AVle.nils false 1) ?_ (by decide)
   refine AWp_freezeI (cs := [.int .i64 0, .int .i64 1]) 3 (σ.length + 0) 0 77 rfl (by rw [get_own]; rfl) ?_ (by decide)
   rw [set_own]
   refine zrt ?_
   have hE : pE s = some 0 := by unfold pE; rw [if_neg hs0, if_pos h47]
   have hN : pN s = [] := by unfold pN; rw [if_neg hs0, hE]; rfl
   rw [hE, hN]
   exact ResQ_2 rfl rfl hcl (by simp [AV.lt, AV.ltL, AV.ltLL]) (Ret_of rfl)
  ·(try rw [h2]); replace h2 := zcl h2
   have h47 : s[0]? = some 47 := (g47 hsl).2 h2
   refine AWp_skip ?_
   refine AWp_seq ?_
   refine zw3 ?_
   refine AWp_block ?_
   -- loop 0 LIVE 0:param 2:assign 3:assign 17:call 18:move
   refine AWp_loop (ι := Nat) (fun i => i ≤ s.length ∧ ∀ j, j < i → tbad s j = false) (fun i => ⟨[], [(0, .str (ba s)), (17, .int .i64 ((ba s).size : Int)), (18, .int .i64 (i : Int))]⟩) (fun i => σ) (fun i => s.length - i) (0) (⟨Nat.zero_le _, fun j h => absurd h (by omega)⟩) ?_ rfl (fun i hi => ?_)
   ·exact ⟨rfl, rfl, rfl, rfl, trivial⟩
   obtain ⟨hi1, hi2⟩ := hi
   refine zw1 ?_
   refine AWp_seq ?_
   refine AWp_cond rfl (fun h3 => ?_) (fun h3 => ?_)
   ·(try rw [h3]); replace h3 := zcl h3
    refine AWp_skip ?_
    refine AWp_seq ?_
    refine AWp_block ?_
    refine zw2 ?_
    refine zu5 ?_
    refine zsp 25 rfl (fun h4 => ?_) fun h4 => ?_
    ·rw [h4]; replace h4 := zcl h4
     refine zg6 ?_
     refine zsp 31 rfl (fun h5 => ?_) fun h5 => ?_
     ·rw [h5]; replace h5 := zcl h5
      refine zg10 ?_
      refine zg4 ?_
      refine zon ?_
      refine AWp_condT rfl ?_
      refine zw6 ?_
      refine AWp_slotLe 2 rfl (AVle.nils false 1) ?_ (by decide)
      refine AWp_freezeI (cs := [.int .i64 (i : Int), .int .i64 1]) 3 (σ.length + 0) 0 77 rfl (by rw [get_own]; rfl) ?_ (by decide)
      rw [set_own]
      refine zrt ?_
      have ht : tbad s i = true := tbad_t (show i < s.length by omega) h4 (by first | exact .inl (by omega) | exact .inr ⟨h6, h7⟩)
      have hE : pE s = some i := pE_at hs0 h47 (by omega) ht hi2
      have hN : pN s = [] := by unfold pN; rw [if_neg hs0, hE]; rfl
      rw [hE, hN]
      exact ResQ_2 rfl rfl hcl (by simp [AV.lt, AV.ltL, AV.ltLL]) (Ret_of rfl)
     ·rw [h5]; replace h5 := zcl h5
      refine zg6 ?_
      refine zsp 37 rfl (fun h6 => ?_) fun h6 => ?_
      ·rw [h6]; replace h6 := zcl h6
       refine zv8 ?_
       refine AWp_cond rfl (fun h7 => ?_) (fun h7 => ?_)
       ·(try rw [h7]); replace h7 := zcl h7
        refine zw6 ?_
        refine AWp_slotLe 2 rfl (AVle.nils false 1) ?_ (by decide)
        refine AWp_freezeI (cs := [.int .i64 (i : Int), .int .i64 1]) 3 (σ.length + 0) 0 77 rfl (by rw [get_own]; rfl) ?_ (by decide)
        rw [set_own]
        refine zrt ?_
        have ht : tbad s i = true := tbad_t (show i < s.length by omega) h4 (by first | exact .inl (by omega) | exact .inr ⟨h6, h7⟩)
        have hE : pE s = some i := pE_at hs0 h47 (by omega) ht hi2
        have hN : pN s = [] := by unfold pN; rw [if_neg hs0, hE]; rfl
        rw [hE, hN]
        exact ResQ_2 rfl rfl hcl (by simp [AV.lt, AV.ltL, AV.ltLL]) (Ret_of rfl)
       ·(try rw [h7]); replace h7 := zcl h7
        refine AWp_skip ?_
        refine AWp_regL ?_
        refine zv2 ?_
        refine ⟨i + 1, σ.length, ⟨by omega, fun j hj => ?_⟩, by omega, Nat.le_refl _, ⟨rfl, rfl, rfl, rfl, trivial⟩, hcl, ?_, List.take_length⟩
        ·by_cases e : j = i
         ·subst e; exact tbad_f (show j < s.length by omega) (fun h0 => by first | exact absurd h0 h4 | (refine ⟨by omega, ?_⟩; first | exact .inl h6 | exact .inr h7))
         ·exact hi2 j (by omega)
        ·simp [ltE, AV.lt]
      ·rw [h6]; replace h6 := zcl h6
       refine zv8 ?_
       refine AWp_condF rfl ?_
       refine AWp_skip ?_
       refine AWp_regL ?_
       refine zv2 ?_
       refine ⟨i + 1, σ.length, ⟨by omega, fun j hj => ?_⟩, by omega, Nat.le_refl _, ⟨rfl, rfl, rfl, rfl, trivial⟩, hcl, ?_, List.take_length⟩
       ·by_cases e : j = i
        ·subst e; exact tbad_f (show j < s.length by omega) (fun h0 => by first | exact absurd h0 h4 | (refine ⟨by omega, ?_⟩; first | exact .inl h6 | exact .inr h7))
        ·exact hi2 j (by omega)
       ·simp [ltE, AV.lt]
    ·rw [h4]; replace h4 := zcl h4
     refine zg20 ?_
     refine zon ?_
     refine AWp_condF rfl ?_
     refine AWp_skip ?_
     refine AWp_regL ?_
     refine zv2 ?_
     refine ⟨i + 1, σ.length, ⟨by omega, fun j hj => ?_⟩, by omega, Nat.le_refl _, ⟨rfl, rfl, rfl, rfl, trivial⟩, hcl, ?_, List.take_length⟩
     ·by_cases e : j = i
      ·subst e; exact tbad_f (show j < s.length by omega) (fun h0 => by first | exact absurd h0 h4 | (refine ⟨by omega, ?_⟩; first | exact .inl h6 | exact .inr h7))
      ·exact hi2 j (by omega)
     ·simp [ltE, AV.lt]
   ·(try rw [h3]); replace h3 := zcl h3
    have hE : pE s = none := pE_none hs0 h47 (fun j hj => hi2 j (by omega))
    have hok : okP s := (pE_ok hs0 hE).2
    refine AWp_exit ?_
    refine zu2 ?_
    obtain ⟨t, ht⟩ : ∃ t, t = s.drop 1 := ⟨_, rfl⟩
    have htl : t.length + 1 = s.length := by rw [ht, List.length_drop]; omega
    have hot : okP t := by rw [ht]; cases s with | nil => exact absurd rfl hs0 | cons b r => exact okP_tl hok
    rw [ext_tl, ← ht]
    refine ztR rfl (zcR rfl (split_c (ba t) 47 _ (by rw [ba_size]; omega))) (fun v11_2 s11_2 hr => ?_) (fun v11_2 s11_2 hr => ?_)
    rotate_left
    ·exact nomatch hr.1
    obtain ⟨hv, hh⟩ := hr
    cases hv
    subst hh
    rw [ba_toList] at *
    generalize hL : pcs 47 t = L at *
    refine zv1 ?_
    refine AWp_seq ?_
    refine zu1 ?_
    refine zt rfl (op_lenS rfl rfl Tryz.underlying31 rfl rfl ⟨1, _, get_own 0⟩) ?_
    refine zv1 ?_
    refine AWp_block ?_
    -- loop 1 LIVE 2:assign 3:assign 5:assign 54:move 55:call 56:move
    have hLl : L.length ≤ t.length + 1 := by rw [← hL]; exact pcs_len 47 t
    rw [← pcell_0 L]
    refine AWp_loop (ι := Nat) (fun i => i ≤ L.length) (fun i => ⟨[], [(5, .arr (σ.length + 0) 0 1 0 L.length), (54, .arr (σ.length + 0) 0 1 0 L.length), (55, .int .i64 (L.length : Int)), (56, .int .i64 (i : Int))]⟩) (fun i => σ ++ [.arr 1 0 (pcell L i)]) (fun i => L.length - i) (0) (Nat.zero_le _) ?_ rfl (fun i hi => ?_)
    ·exact ⟨rfl, rfl, rfl, rfl, rfl, trivial⟩
    refine zw1 ?_
    refine AWp_seq ?_
    refine AWp_cond rfl (fun h8 => ?_) (fun h8 => ?_)
    ·(try rw [h8]); replace h8 := zcl h8
     obtain ⟨x, hx⟩ : ∃ x, L[i]? = some x := ⟨_, List.getElem?_eq_getElem (show i < L.length by omega)⟩
     have hxo := pcs_ok t.length t (Nat.le_refl _) hot x (by rw [hL]; exact List.mem_of_getElem? hx)
     have hxr := ra2_len x hxo.1
     refine AWp_skip ?_
     refine AWp_seq ?_
     refine AWp_block ?_
     refine zu1 ?_
     refine zt rfl (op_indexAddrAO (j := 0) rfl Tryz.underlying31 Tryz.sizeOf9 rfl rfl (by omega) (by omega) rfl) ?_
     refine zt rfl (op_load1 rfl Tryz.isAgg9 (ldv_el (j := 0) (i := i) rfl (pcell_get hx) (Nat.mul_one _))) ?_
     refine zv2 ?_
     refine AWp_regL ?_
     refine zg3 ?_
     refine zt rfl (zc rfl (replA_c (ba x) [126, 49] [47] _ (by decide) (by decide) (by rw [ba_size]; omega) (by decide))) ?_
     rw [ba_toList]
     refine zt rfl (zc rfl (replA_c (ba (ra [126, 49] [47] x)) [126, 48] [126] _ (by decide) (by decide) (by rw [ba_size]; omega) (by decide))) ?_
     rw [ba_toList, une_ra x hxo.1]
     refine zt rfl (op_indexAddrAO (j := 0) rfl Tryz.underlying31 Tryz.sizeOf9 rfl rfl (by omega) (by omega) rfl) ?_
     refine ztN rfl rfl (op_storeEl (j := 0) (i := i) rfl Tryz.sizeOf9 rfl rfl (Nat.mul_one _) rfl (by rw [pcell_len]; omega)) ?_
     refine zon ?_
     refine AWp_regL ?_
     refine zv2 ?_
     refine ⟨i + 1, σ.length + 1, by omega, by omega, by simp, ⟨rfl, rfl, rfl, rfl, rfl, trivial⟩, closed_own 1 hcl ?_, ?_, ?_⟩
     ·show ownLt (σ.length + 1) [AO.arr 1 0 ((pcell L i).set i (.str (ba (pune x))))]
      rw [pcell_step hx]; simp [ownLt, AO.cells]
     ·simp [ltE, AV.lt]
     ·refine (take_own 1).trans ?_
      rw [← pcell_step hx]; rfl
    ·(try rw [h8]); replace h8 := zcl h8
     have hie : i = L.length := by omega
     subst hie
     refine AWp_exit ?_
     refine zw3 ?_
     refine AWp_freezeAO 2 0 0 1 L.length (srow (L.map pune)) rfl (by rw [pcell_end]; rfl) (srow_el _) (by rw [srow_len, List.length_map]) (by decide) ?_ (by decide)
     refine zrt ?_
     have hN : pN s = L.map pune := by unfold pN; rw [if_neg hs0, hE, ← hL, ← ht]; rfl
     rw [hE, hN]
     exact ResQ_2 rfl rfl hcl (by simp [AV.lt, AV.ltL]) (Ret_of rfl)
end Lg
set_option maxRecDepth 20000
set_option maxHeartbeats 4000000
namespace Lg
open Go Go.Proofs Go.RowKit
variable [GLay] 
end Lg
set_option maxRecDepth 20000
set_option maxHeartbeats 4000000
namespace Lg
open Go Go.Proofs Go.RowKit
variable [GLay] 
theorem find_c (v : JV) (key : ByteArray) (σ : List AO) (hb : v.m.length ≤ 1000000) : ACalls Tryz.prog 55 [.agg (vcells v), .str key] σ (FindR v key σ) := by
 refine ACalls_bodyC Tryz.func55 rfl Tryz.ntmps55 (by rw [Tryz.results55]; exact (.ck Tryz.isAgg28 Tryz.sizeOf28 (.t .nil))) (Nat.le_of_ble_eq_true rfl) (fun hcl hal => ?_)
 rw [vcells_eq v]
 refine zw3 ?_
 refine AWp_seq ?_
 refine zw3 ?_
 refine AWp_cond rfl (fun h1 => ?_) (fun h1 => ?_)
 ·(try rw [h1]); replace h1 := zcl h1
  refine zw3 ?_
  refine zrt ?_
  have hf : jfind v key = none := by simp [jfind, h1]
  refine RQ_ret (rkvs_cons (rkv_ck rfl rfl rfl) (rkvs_cons (rkv_t rfl) rfl)) hcl ?_ ⟨rfl, _, _, rfl, ?_, ?_⟩
  ·simp [rks, AV.lt, AV.ltL, ofConst1]
  ·rw [hf]; exact vle8 nilL nilM
  ·rw [hf]; rfl
 ·(try rw [h1]); replace h1 := zcl h1
  refine AWp_skip ?_
  refine AWp_seq ?_
  refine zw4 ?_
  refine AWp_block ?_
  -- loop 0 LIVE 1:param 4:alloc 5:assign 13:load 14:call 15:move
  refine AWp_loop (ι := Nat) (fun i => i ≤ v.m.length ∧ ∀ (j : Nat) q, j < i → v.m[j]? = some q → ¬ q.1 = key) (fun i => ⟨[], [(1, .str key), (2, .ptr (σ.length + 0) 0), (4, .ptr (σ.length + 1) 0), (13, .sl false 9 (mcells v.m)), (14, .int .i64 (v.m.length : Int)), (15, .int .i64 (i : Int))]⟩) (fun i => σ ++ [_, _]) (fun i => v.m.length - i) (0) (⟨Nat.zero_le _, fun j q hj => absurd hj (by omega)⟩) ?_ rfl (fun i hi => ?_)
  ·refine ⟨rfl, rfl, rfl, rfl, rfl, ?_, rfl, trivial⟩
   rw [← mcells_length]; rfl
  obtain ⟨hi1, hi2⟩ := hi
  refine zw1 ?_
  refine AWp_seq ?_
  refine AWp_cond rfl (fun h2 => ?_) (fun h2 => ?_)
  ·(try rw [h2]); replace h2 := zcl h2
   obtain ⟨q, hq⟩ : ∃ q, v.m[i]? = some q := ⟨_, List.getElem?_eq_getElem (show i < v.m.length by omega)⟩
   refine AWp_skip ?_
   refine AWp_seq ?_
   refine AWp_block ?_
   refine zu1 ?_
   rw [vcells_eq q.2]
   refine zv3 ?_
   refine zw4 ?_
   refine AWp_cond rfl (fun h3 => ?_) (fun h3 => ?_)
   ·(try rw [h3]); replace h3 := zcl h3
    refine zw4 ?_
    refine zrt ?_
    have hf : jfind v key = some q.2 := by rw [jfind, if_pos h1, find_some (fun j y hj hy => by simpa using hi2 j y hj hy) hq (by simpa using h3)]; rfl
    refine RQ_ret (rkvs_cons (rkv_ck rfl rfl rfl) (rkvs_cons (rkv_t rfl) rfl)) hcl ?_ ⟨rfl, _, _, rfl, ?_, ?_⟩
    ·simp [rks, AV.lt, AV.ltL, ofConst1]
    ·rw [hf]; show AVleL _ (vcells q.2); rw [vcells_eq]; exact AVleL.refl _
    ·rw [hf]; rfl
   ·(try rw [h3]); replace h3 := zcl h3
    refine AWp_skip ?_
    refine AWp_regL ?_
    refine zv2 ?_
    refine ⟨i + 1, σ.length + 2, ⟨by omega, fun j y hj hy => ?_⟩, by omega, by simp, ⟨rfl, rfl, rfl, rfl, rfl, rfl, rfl, trivial⟩, closed_own 2 hcl ?_, ?_, take_own 2⟩
    ·by_cases e : j = i
     ·subst e; rw [hq] at hy; cases hy; exact h3
     ·exact hi2 j y (by omega) hy
    ·simp [ownLt, AO.cells, AV.ltL, AV.lt, ofConst1]
    ·simp [ltE, AV.lt]
  ·(try rw [h2]); replace h2 := zcl h2
   refine AWp_exit ?_
   refine zw3 ?_
   refine zrt ?_
   have hf : jfind v key = none := by rw [jfind, if_pos h1, find_none (fun j y hy => by simpa using hi2 j y (by have := (List.getElem?_eq_some_iff.1 hy).1; omega) hy)]; rfl
   refine RQ_ret (rkvs_cons (rkv_ck rfl rfl rfl) (rkvs_cons (rkv_t rfl) rfl)) hcl ?_ ⟨rfl, _, _, rfl, ?_, ?_⟩
   ·simp [rks, AV.lt, AV.ltL, ofConst1]
   ·rw [hf]; exact vle8 nilL nilM
   ·rw [hf]; rfl

theorem rfind_c (v : JV) (key : ByteArray) (σ : List AO) (hb : v.m.length ≤ 1000000) : ACalls Tryz.prog 46 [.agg (vcells v), .str key] σ (FindR v key σ) := by
 refine ACalls_bodyC Tryz.func46 rfl Tryz.ntmps46 (by rw [Tryz.results46]; exact (.ck Tryz.isAgg28 Tryz.sizeOf28 (.t .nil))) (Nat.le_of_ble_eq_true rfl) (fun hcl hal => ?_)
 have hmc := mcells_length v.m
 rw [vcells_eq v]
 refine zw3 ?_
 refine AWp_seq ?_
 refine zw1 ?_
 refine AWp_block ?_
 -- loop 0 LIVE 1:param 2:box 4:alloc 5:assign 6:assign
 refine AWp_loop (ι := Nat) (fun i => i ≤ v.m.length ∧ ∀ (j : Nat) q, j < i → v.m[j]? = some q → ¬ (v.kind = 5 ∧ q.1 = key)) (fun i => ⟨[], [(1, .str key), (2, .ptr (σ.length + 0) 0), (4, .ptr (σ.length + 1) 0), (6, .int .i64 (i : Int))]⟩) (fun i => σ ++ [_, _]) (fun i => v.m.length - i) (0) (⟨Nat.zero_le _, fun j q hj => absurd hj (by omega)⟩) ?_ rfl (fun i hi => ?_)
 ·exact ⟨rfl, rfl, rfl, rfl, rfl, trivial⟩
 obtain ⟨hi1, hi2⟩ := hi
 refine AWp_seq ?_
 refine zw5 ?_
 refine AWp_cond rfl (fun h1 => ?_) (fun h1 => ?_)
 ·(try rw [h1]); replace h1 := zcl h1
  obtain ⟨q, hq⟩ : ∃ q, v.m[i]? = some q := ⟨_, List.getElem?_eq_getElem (show i < v.m.length by omega)⟩
  refine AWp_skip ?_
  refine AWp_seq ?_
  refine AWp_block ?_
  refine zu4 ?_
  refine zsp 17 rfl (fun h2 => ?_) fun h2 => ?_
  ·rw [h2]; replace h2 := zcl h2
   refine zv9 ?_
   refine AWp_cond rfl (fun h3 => ?_) (fun h3 => ?_)
   ·(try rw [h3]); replace h3 := zcl h3
    refine zu5 ?_
    rw [vcells_eq q.2]
    refine zv3 ?_
    refine zrt ?_
    have hf : jfind v key = some q.2 := by rw [jfind, if_pos h2, find_some (fun j y hj hy => by have := hi2 j y hj hy; simpa [h2] using this) hq (by simpa using h3)]; rfl
    refine RQ_ret (rkvs_cons (rkv_ck rfl rfl rfl) (rkvs_cons (rkv_t rfl) rfl)) hcl ?_ ⟨rfl, _, _, rfl, ?_, ?_⟩
    ·simp [rks, AV.lt, AV.ltL, ofConst1]
    ·rw [hf]; show AVleL _ (vcells q.2); rw [vcells_eq]; exact AVleL.refl _
    ·rw [hf]; rfl
   ·(try rw [h3]); replace h3 := zcl h3
    refine AWp_skip ?_
    refine AWp_regL ?_
    refine zv3 ?_
    refine ⟨i + 1, σ.length + 2, ⟨by omega, fun j y hj hy => ?_⟩, by omega, by simp, ⟨rfl, rfl, rfl, rfl, rfl, trivial⟩, closed_own 2 hcl ?_, ?_, take_own 2⟩
    ·by_cases e : j = i
     ·subst e; rw [hq] at hy; cases hy; exact fun h => h3 h.2
     ·exact hi2 j y (by omega) hy
    ·simp [ownLt, AO.cells, AV.ltL, AV.lt, ofConst1]
    ·simp [ltE, AV.lt]
  ·rw [h2]; replace h2 := zcl h2
   refine zv9 ?_
   refine AWp_condF rfl ?_
   refine AWp_skip ?_
   refine AWp_regL ?_
   refine zv3 ?_
   refine ⟨i + 1, σ.length + 2, ⟨by omega, fun j y hj hy => ?_⟩, by omega, by simp, ⟨rfl, rfl, rfl, rfl, rfl, trivial⟩, closed_own 2 hcl ?_, ?_, take_own 2⟩
   ·by_cases e : j = i
    ·subst e; rw [hq] at hy; cases hy; exact fun h => h2 h.1
    ·exact hi2 j y (by omega) hy
   ·simp [ownLt, AO.cells, AV.ltL, AV.lt, ofConst1]
   ·simp [ltE, AV.lt]
 ·(try rw [h1]); replace h1 := zcl h1
  refine AWp_exit ?_
  refine zw3 ?_
  refine zrt ?_
  have hf : jfind v key = none := by
   by_cases hk : v.kind = 5
   ·rw [jfind, if_pos hk, find_none (fun j y hy => by have := hi2 j y (by have := (List.getElem?_eq_some_iff.1 hy).1; omega) hy; simpa [hk] using this)]; rfl
   ·simp [jfind, hk]
  refine RQ_ret (rkvs_cons (rkv_ck rfl rfl rfl) (rkvs_cons (rkv_t rfl) rfl)) hcl ?_ ⟨rfl, _, _, rfl, ?_, ?_⟩
  ·simp [rks, AV.lt, AV.ltL, ofConst1]
  ·rw [hf]; exact vle8 nilL nilM
  ·rw [hf]; rfl
end Lg
set_option maxRecDepth 20000
set_option maxHeartbeats 4000000
namespace Lg
open Go Go.Proofs Go.RowKit
variable [GLay] [ML]
theorem ptrQ_c (s : ByteArray) (σ : List AO) (hs : s.size ≤ 1000000) : ACalls Tryz.prog 21 [.str s] σ (Ret (.tup [.sl false 1 (srow (pN s.data.toList)), errV ((pE s.data.toList).map fun i => ((i : Int), (1 : Int)))]) σ) := by
  have hl : s.data.toList.length = s.size := Array.length_toList ..
  have h := ptrP_c s.data.toList σ (by omega)
  rw [← ba_eta] at h; exact h
theorem rptrQ_c (s : ByteArray) (σ : List AO) (hs : s.size ≤ 1000000) : ACalls Tryz.prog 22 [.str s] σ (Ret (.tup [.sl false 1 (srow (pN s.data.toList)), .int .i64 (pEi s.data.toList)]) σ) := by
  have hl : s.data.toList.length = s.size := Array.length_toList ..
  have h := rptr_c s.data.toList σ (by omega)
  rw [← ba_eta] at h; exact h
theorem op_eqErr {P : Program} {σ : List AO} {e : Env} {o : Oper} {T T' : TypeId} {x : Operand} {ms : Array (String × TypeId)} {z : Option (Int × Int)} (ho : o.op = .binOp .eql T x (.const .nilIface) T') (hu : P.underlying T = some (.interface ms)) (hx : opO e x = some (errV z)) : AOp P σ e o (.bool z.isNone) σ := by
  cases z with
  | none => exact op_eqINil ho hu hx
  | some z => exact op_eqIN ho hu hx
theorem findQ_c (v : JV) (key : ByteArray) (cs : List AV) (σ : List AO) (hc : vcells v = cs) (hb : v.m.length ≤ 1000000) : ACalls Tryz.prog 55 [.agg cs, .str key] σ (Ret (.tup [.agg (vcells (jfD v key)), .bool (jfB v key)]) σ) := by
  subst hc; exact FindR.ret (find_c v key σ hb)
theorem rfindQ_c (v : JV) (key : ByteArray) (cs : List AV) (σ : List AO) (hc : vcells v = cs) (hb : v.m.length ≤ 1000000) : ACalls Tryz.prog 46 [.agg cs, .str key] σ (Ret (.tup [.agg (vcells (jfD v key)), .bool (jfB v key)]) σ) := by
  subst hc; exact FindR.ret (rfind_c v key σ hb)
end Lg
set_option maxRecDepth 20000
set_option maxHeartbeats 4000000
namespace Lg
open Go Go.Proofs Go.RowKit
variable [GLay] 
theorem rsame_any (n : Nat) : ∀ (x y : JV) (σ : List AO), jsize x ≤ n → jb x → jb y → ACalls Tryz.prog 15 [.agg (vcells x), .agg (vcells y)] σ (Ret (.bool (pb (x = y))) σ) := by
 induction n with
 | zero => intro x y σ h; have := jsize_pos x; omega
 | succ n ih =>
 intro x y σ hn hjx hjy
 have hvs := jsize_eq x
 have hl := lsize_nn x.l
 have hm := msize_nn x.m
 obtain ⟨hb1, hb2, hb3, hb4, hb5, hb6⟩ := (jb_eq x).1 hjx
 obtain ⟨hc1, hc2, hc3, hc4, hc5, hc6⟩ := (jb_eq y).1 hjy
 have hxl := lcells_length x.l
 have hyl := lcells_length y.l
 have hxm := mcells_length x.m
 have hym := mcells_length y.m
 refine ACalls_body Tryz.func15 rfl Tryz.ntmps15 (res1 Tryz.results15) (Nat.le_of_ble_eq_true rfl) (fun hcl hal => ?_)
 rw [vcells_eq x, vcells_eq y]
 refine zw3 ?_
 refine AWp_seq ?_
 refine zu6 ?_
 refine zsp 14 rfl (fun h1 => ?_) fun h1 => ?_
 ·rw [h1]; replace h1 := zcl h1
  refine zg30 ?_
  refine zg8 ?_
  refine zon ?_
  refine AWp_condT rfl ?_
  refine zw1 ?_
  refine zrt ?_
  refine ResQ_1 rfl hcl trivial (Ret_of (bool_f ?_))
  rw [jv_ext]; intro hj; obtain ⟨j1, j2, ⟨j3, j4, j5⟩, j6, j7, j8⟩ := hj
  simp_all
 ·rw [h1]; replace h1 := zcl h1
  refine zg7 ?_
  refine zsp 21 rfl (fun h2 => ?_) fun h2 => ?_
  ·rw [h2]; replace h2 := zcl h2
   refine zg30 ?_
   refine zg1 ?_
   refine zon ?_
   refine AWp_condT rfl ?_
   refine zw1 ?_
   refine zrt ?_
   refine ResQ_1 rfl hcl trivial (Ret_of (bool_f ?_))
   rw [jv_ext]; intro hj; obtain ⟨j1, j2, ⟨j3, j4, j5⟩, j6, j7, j8⟩ := hj
   simp_all
  ·rw [h2]; replace h2 := zcl h2
   refine zg4 ?_
   refine ztG rfl rfl (op_neS rfl Tryz.underlying24 (by kernel_rfl) (by kernel_rfl) (.bool _ _ _ _ _ _ _ _ (by decide) rfl Tryz.underlying4 (.str _ _ _ _ _ _ _ _ (by decide) rfl Tryz.underlying9 (.int _ _ _ _ _ _ _ _ _ _ (by decide) rfl Tryz.underlying3 (.nil _)))) rfl rfl) ?_
   refine zg2 ?_
   refine zsp 28 rfl (fun h3 => ?_) fun h3 => ?_
   ·rw [h3]; replace h3 := zcl h3
    refine zg20 ?_
    refine zg4 ?_
    refine zon ?_
    refine AWp_condT rfl ?_
    refine zw1 ?_
    refine zrt ?_
    refine ResQ_1 rfl hcl trivial (Ret_of (bool_f ?_))
    rw [jv_ext]; intro hj; obtain ⟨j1, j2, ⟨j3, j4, j5⟩, j6, j7, j8⟩ := hj
    simp_all
   ·rw [h3]; replace h3 := zcl h3
    refine zg7 ?_
    refine zsp 35 rfl (fun h4 => ?_) fun h4 => ?_
    ·rw [h4]; replace h4 := zcl h4
     refine zg10 ?_
     refine zg7 ?_
     refine zon ?_
     refine AWp_condT rfl ?_
     refine zw1 ?_
     refine zrt ?_
     refine ResQ_1 rfl hcl trivial (Ret_of (bool_f ?_))
     rw [jv_ext]; intro hj; obtain ⟨j1, j2, ⟨j3, j4, j5⟩, j6, j7, j8⟩ := hj
     simp_all
    ·rw [h4]; replace h4 := zcl h4
     refine zg9 ?_
     refine zsp 44 rfl (fun h5 => ?_) fun h5 => ?_
     ·rw [h5]; replace h5 := zcl h5
      refine zv8 ?_
      refine AWp_condT rfl ?_
      refine zw1 ?_
      refine zrt ?_
      refine ResQ_1 rfl hcl trivial (Ret_of (bool_f ?_))
      rw [jv_ext]; intro hj; obtain ⟨j1, j2, ⟨j3, j4, j5⟩, j6, j7, j8⟩ := hj
      simp_all
     ·rw [h5]; replace h5 := zcl h5
      refine zv8 ?_
      refine AWp_cond rfl (fun h6 => ?_) (fun h6 => ?_)
      ·(try rw [h6]); replace h6 := zcl h6
       refine zw1 ?_
       refine zrt ?_
       refine ResQ_1 rfl hcl trivial (Ret_of (bool_f ?_))
       rw [jv_ext]; intro hj; obtain ⟨j1, j2, ⟨j3, j4, j5⟩, j6, j7, j8⟩ := hj
       simp_all
      ·(try rw [h6]); replace h6 := zcl h6
       have hlen1 : x.l.length = y.l.length := by omega
       have hlen2 : x.m.length = y.m.length := by omega
       refine AWp_skip ?_
       refine AWp_seq ?_
       refine zw1 ?_
       refine AWp_block ?_
       -- loop 0 LIVE 2:box 3:box 4:assign 5:assign
       refine AWp_loop (ι := Nat) (fun i => i ≤ x.l.length ∧ ∀ j : Nat, j < i → x.l[j]? = y.l[j]?) (fun i => ⟨[], [(2, .ptr (σ.length + 0) 0), (3, .ptr (σ.length + 1) 0), (5, .int .i64 (i : Int))]⟩) (fun i => σ ++ [_, _]) (fun i => x.l.length - i) (0) (⟨Nat.zero_le _, fun j hj => absurd hj (by omega)⟩) ?_ rfl (fun i hi => ?_)
       ·exact ⟨rfl, rfl, rfl, rfl, trivial⟩
       obtain ⟨hi1, hi2⟩ := hi
       refine AWp_seq ?_
       refine zw5 ?_
       refine AWp_cond rfl (fun h7 => ?_) (fun h7 => ?_)
       ·(try rw [h7]); replace h7 := zcl h7
        obtain ⟨u, hu⟩ : ∃ u, x.l[i]? = some u := ⟨_, List.getElem?_eq_getElem (show i < x.l.length by omega)⟩
        obtain ⟨w, hw⟩ : ∃ w, y.l[i]? = some w := ⟨_, List.getElem?_eq_getElem (show i < y.l.length by omega)⟩
        have hlm := lsize_mem hu
        refine AWp_skip ?_
        refine AWp_seq ?_
        refine AWp_block ?_
        refine AWp_seq ?_
        refine AWp_drawL #[0, 1, 0, 7, 15, 0, 32, 0, 224, 480, 1023, 2047] Tryz.mixed (by decide +kernel) (by decide +kernel) ?_
        refine zd1 ?_
        refine zp1 ?_
        refine zd1 ?_
        refine yA rfl rfl (fun _ => op_indexAddr rfl Tryz.underlying25 Tryz.sizeOf28 rfl rfl (by omega) (lcells_get hu)) ?_
        rw [vcells_eq u]
        refine zp1 ?_
        refine zd1 ?_
        refine zp1 ?_
        refine zd1 ?_
        refine yA rfl rfl (fun _ => op_indexAddr rfl Tryz.underlying25 Tryz.sizeOf28 rfl rfl (by omega) (lcells_get hw)) ?_
        rw [vcells_eq w]
        refine zp1 ?_
        refine yP rfl rfl (zc rfl (AC2 (vcells_eq u) (vcells_eq w) (ih u w _ (by omega) (lb_get hb5 hu) (lb_get hc5 hw)))) (trivial) ?_
        refine zd1 ?_
        refine RP.nil rfl ?_
        refine zw2 ?_
        refine AWp_cond rfl (fun h8 => ?_) (fun h8 => ?_)
        ·(try rw [h8]); replace h8 := zcl h8
         refine zw1 ?_
         refine zrt ?_
         refine ResQ_1 rfl hcl trivial (Ret_of (bool_f fun e => ?_))
         rw [e] at hu; rw [hu] at hw; cases hw; rw [pb_t rfl] at h8; cases h8
        ·(try rw [h8]); replace h8 := zcl h8
         refine AWp_skip ?_
         refine AWp_regL ?_
         refine zv3 ?_
         have huw := (pb_iff _).1 h8
         refine ⟨i + 1, σ.length + 2, ⟨by omega, fun j hj => ?_⟩, by omega, by simp, ⟨rfl, rfl, rfl, rfl, trivial⟩, closed_own 2 hcl ?_, ?_, take_own 2⟩
         ·by_cases e : j = i
          ·subst e; rw [hu, hw, huw]
          ·exact hi2 j (by omega)
         ·simp [ownLt, AO.cells, AV.ltL, AV.lt]
         ·simp [ltE, AV.lt]
       ·(try rw [h7]); replace h7 := zcl h7
        have hL : x.l = y.l := list_eq_of hlen1 fun j hj => hi2 j (by omega)
        clear hi2 hi1 h7
        refine AWp_exit ?_
        refine AWp_seq ?_
        refine zw1 ?_
        refine AWp_block ?_
        -- loop 1 LIVE 2:box 3:box 4:assign 7:assign
        refine AWp_loop (ι := Nat) (fun i => i ≤ x.m.length ∧ ∀ j : Nat, j < i → x.m[j]? = y.m[j]?) (fun i => ⟨[], [(2, .ptr (σ.length + 0) 0), (3, .ptr (σ.length + 1) 0), (7, .int .i64 (i : Int))]⟩) (fun i => σ ++ [_, _]) (fun i => x.m.length - i) (0) (⟨Nat.zero_le _, fun j hj => absurd hj (by omega)⟩) ?_ rfl (fun i hi => ?_)
        ·exact ⟨rfl, rfl, rfl, rfl, trivial⟩
        obtain ⟨hi3, hi4⟩ := hi
        refine AWp_seq ?_
        refine zw5 ?_
        refine AWp_cond rfl (fun h9 => ?_) (fun h9 => ?_)
        ·(try rw [h9]); replace h9 := zcl h9
         obtain ⟨u, hu⟩ : ∃ u, x.m[i]? = some u := ⟨_, List.getElem?_eq_getElem (show i < x.m.length by omega)⟩
         obtain ⟨w, hw⟩ : ∃ w, y.m[i]? = some w := ⟨_, List.getElem?_eq_getElem (show i < y.m.length by omega)⟩
         have hms := msize_mem hu
         refine AWp_skip ?_
         refine AWp_seq ?_
         refine AWp_block ?_
         refine AWp_seq ?_
         refine AWp_drawL #[0, 1, 0, 7, 15, 31, 0, 64, 0, 448, 960, 1984, 4095, 8191] Tryz.mixed (by decide +kernel) (by decide +kernel) ?_
         refine zd1 ?_
         refine zp1 ?_
         refine zd1 ?_
         refine yA rfl rfl (fun _ => op_indexAddr rfl Tryz.underlying26 Tryz.sizeOf62 rfl rfl (by omega) (mcells_get hu)) ?_
         refine zd1 ?_
         rw [vcells_eq u.2]
         refine zp1 ?_
         refine zd1 ?_
         refine zp1 ?_
         refine zd1 ?_
         refine yA rfl rfl (fun _ => op_indexAddr rfl Tryz.underlying26 Tryz.sizeOf62 rfl rfl (by omega) (mcells_get hw)) ?_
         refine zd1 ?_
         rw [vcells_eq w.2]
         refine zp1 ?_
         refine yP rfl rfl (zc rfl (AC2 (vcells_eq u.2) (vcells_eq w.2) (ih u.2 w.2 _ (by omega) (mb_get hb6 hu).2 (mb_get hc6 hw).2))) (trivial) ?_
         refine zd1 ?_
         refine RP.nil rfl ?_
         refine AWp_seq ?_
         refine AWp_drawL #[0, 1, 3, 7, 15, 7, 63, 127, 255, 7, 519, 7, 3591, 7687, 15879, 32767, 65535] Tryz.mixed (by decide +kernel) (by decide +kernel) ?_
         refine zd3 ?_
         refine zspr 95 rfl (fun h10 => ?_) fun h10 => ?_
         ·rw [h10]; replace h10 := zcl h10
          refine zd10 ?_
          refine zd4 ?_
          refine RP.nil rfl ?_
          refine AWp_condT rfl ?_
          refine zw1 ?_
          refine zrt ?_
          refine ResQ_1 rfl hcl trivial (Ret_of (bool_f fun e => ?_))
          rw [e] at hu; rw [hu] at hw; cases hw; rw [pb_t rfl] at h10; cases h10
         ·rw [h10]; replace h10 := zcl h10
          refine zd1 ?_
          refine zp1 ?_
          refine zd1 ?_
          refine yAG rfl rfl rfl (fun _ => op_indexAddr rfl Tryz.underlying26 Tryz.sizeOf62 rfl rfl (by omega) (mcells_get hu)) ?_
          refine zd1 ?_
          refine zp1 ?_
          refine zd1 ?_
          refine zp1 ?_
          refine zd1 ?_
          refine yAG rfl rfl rfl (fun _ => op_indexAddr rfl Tryz.underlying26 Tryz.sizeOf62 rfl rfl (by omega) (mcells_get hw)) ?_
          refine zd1 ?_
          refine zp1 ?_
          refine zd2 ?_
          refine RP.nil rfl ?_
          refine AWp_cond rfl (fun h11 => ?_) (fun h11 => ?_)
          ·(try rw [h11]); replace h11 := zcl h11
           refine zw1 ?_
           refine zrt ?_
           refine ResQ_1 rfl hcl trivial (Ret_of (bool_f fun e => ?_))
           rw [e] at hu; rw [hu] at hw; cases hw; exact h11 rfl
          ·(try rw [h11]); replace h11 := zcl h11
           refine AWp_skip ?_
           refine AWp_regL ?_
           refine zv3 ?_
           have huw := (pb_iff _).1 h10
           refine ⟨i + 1, σ.length + 2, ⟨by omega, fun j hj => ?_⟩, by omega, by simp, ⟨rfl, rfl, rfl, rfl, trivial⟩, closed_own 2 hcl ?_, ?_, take_own 2⟩
           ·by_cases e : j = i
            ·subst e; rw [hu, hw, Prod.ext h11 huw]
            ·exact hi4 j (by omega)
           ·simp [ownLt, AO.cells, AV.ltL, AV.lt]
           ·simp [ltE, AV.lt]
        ·(try rw [h9]); replace h9 := zcl h9
         have hM : x.m = y.m := list_eq_of hlen2 fun j hj => hi4 j (by omega)
         refine AWp_exit ?_
         refine zw1 ?_
         refine zrt ?_
         refine ResQ_1 rfl hcl trivial (Ret_of (bool_t ((jv_ext x y).2 ?_)))
         simp_all
end Lg
set_option maxRecDepth 20000
set_option maxHeartbeats 4000000
namespace Lg
open Go Go.Proofs Go.RowKit
variable [GLay] [ML]
theorem rget_0 (f : Bool) (v : JV) (cs : List AV) (σ : List AO) (hc : vcells v = cs) : ACalls Tryz.prog 18 [.agg cs, .sl f 1 (srow [])] σ (Ret (.tup [.agg (vcells (jget [] v).1), .bool (jget [] v).2]) σ) := by
 refine ACalls_bodyC Tryz.func18 rfl Tryz.ntmps18 (by rw [Tryz.results18]; exact (.ck Tryz.isAgg28 Tryz.sizeOf28 (.t .nil))) (Nat.le_of_ble_eq_true rfl) (fun hcl hal => ?_)
 subst hc
 rw [vcells_eq v]
 refine zw3 ?_
 refine AWp_seq ?_
 refine zu2 ?_
 refine zt rfl (op_eqlT rfl rfl rfl rfl) ?_
 refine zon ?_
 refine AWp_condT rfl ?_
 refine zw3 ?_
 refine zrt ?_
 rw [jget, vcells_eq v]
 exact RQ_ret (rkvs_cons (rkv_ck rfl rfl rfl) (rkvs_cons (rkv_t rfl) rfl)) hcl (by simp [rks, AV.lt, AV.ltL]) ⟨rfl, rfl⟩

theorem rget_1 (r : List BL) (ih : ∀ (v : JV) (cs : List AV) (es : List (List AV)) (σ : List AO), vcells v = cs → es = srow r → jb v → ACalls Tryz.prog 18 [.agg cs, .sl false 1 es] σ (Ret (.tup [.agg (vcells (jget r v).1), .bool (jget r v).2]) σ)) (f : Bool) (nm : BL) (v : JV) (cs : List AV) (σ : List AO) (hc : vcells v = cs) (hjb : jb v) (hnm : nm.length ≤ 1000000) : ACalls Tryz.prog 18 [.agg cs, .sl f 1 (srow (nm :: r))] σ (Ret (.tup [.agg (vcells (jget (nm :: r) v).1), .bool (jget (nm :: r) v).2]) σ) := by
 obtain ⟨hb1, hb2, hb3, hb4, hb5, hb6⟩ := (jb_eq v).1 hjb
 have hll := lcells_length v.l
 have hix : ∀ (nm : BL) (τ : List AO), nm.length ≤ 1000000 → ACalls Tryz.prog 26 [.str (ba nm), .int .i64 ((lcells v.l).length : Int), .bool false] τ (Ret (.tup [.int .i64 (jixN nm v.l.length false), .bool (jixO nm v.l.length false)]) τ) := by
  intro nm τ hm; rw [hll]; exact ridx_c nm v.l.length false τ hm (by omega)
 refine ACalls_bodyC Tryz.func18 rfl Tryz.ntmps18 (by rw [Tryz.results18]; exact (.ck Tryz.isAgg28 Tryz.sizeOf28 (.t .nil))) (Nat.le_of_ble_eq_true rfl) (fun hcl hal => ?_)
 subst hc
 rw [vcells_eq v]
 have hsl : 1 ≤ (srow (nm :: r)).length := by rw [srow_len, List.length_cons]; omega
 refine zw3 ?_
 refine AWp_seq ?_
 refine zu2 ?_
 refine zt rfl (op_eqlF rfl rfl rfl (by rw [srow_len, List.length_cons]; omega)) ?_
 refine zon ?_
 refine AWp_condF rfl ?_
 refine AWp_skip ?_
 refine AWp_seq ?_
 refine zw3 ?_
 refine AWp_cond rfl (fun h1 => ?_) (fun h1 => ?_)
 ·(try rw [h1]); replace h1 := zcl h1
  refine AWp_seq ?_
  refine AWp_drawL #[0, 1, 3, 0, 8, 24, 63, 127, 255, 255, 511, 2047] Tryz.mixed (by decide +kernel) (by decide +kernel) ?_
  refine zd1 ?_
  refine yA rfl rfl (fun _ => op_indexAddr rfl Tryz.underlying31 Tryz.sizeOf9 rfl rfl (by omega) (rfl)) ?_
  refine zp1 ?_
  refine zd1 ?_
  refine zp1 ?_
  refine zd1 ?_
  refine yP rfl rfl (zc rfl (hix nm _ hnm)) (trivial) ?_
  refine zd5 ?_
  refine RP.nil rfl ?_
  refine AWp_seq ?_
  refine zw2 ?_
  refine AWp_cond rfl (fun h2 => ?_) (fun h2 => ?_)
  ·(try rw [h2]); replace h2 := zcl h2
   refine zw3 ?_
   refine AWp_boxLeO 1 (bs' := [.int .i64 vz.kind, .bool vz.b, .bool vz.n.neg, .str vz.n.digits, .int .i64 vz.n.exp, .str vz.s, .sl false 8 (lcells vz.l), .sl false 9 (mcells vz.m)]) rfl ⟨AVle.refl _, AVle.refl _, AVle.refl _, AVle.refl _, AVle.refl _, AVle.refl _, nilL, nilM, trivial⟩ ?_
   refine zrt ?_
   rw [jget_no4 h1 (by simpa using h2), vcells_eq]
   exact RQ_ret (rkvs_cons (rkv_ck rfl rfl rfl) (rkvs_cons (rkv_t rfl) rfl)) hcl (by simp [rks, AV.lt, AV.ltL]) ⟨rfl, rfl⟩
  ·(try rw [h2]); replace h2 := zcl h2
   obtain ⟨k, hk, hkl⟩ := jix_nat (nm := nm) (n := v.l.length) (by simpa using h2)
   obtain ⟨a, ha⟩ : ∃ a, v.l[k]? = some a := ⟨_, List.getElem?_eq_getElem hkl⟩
   rw [hk]
   refine AWp_skip ?_
   refine AWp_seq ?_
   refine AWp_drawL #[0, 1, 0, 7, 15, 0, 32, 127, 255, 255, 1023, 2047] Tryz.mixed (by decide +kernel) (by decide +kernel) ?_
   refine zd1 ?_
   refine zp1 ?_
   refine zd2 ?_
   rw [vcells_eq a]
   refine zp1 ?_
   refine zd1 ?_
   refine yA rfl rfl (fun _ => (by first | exact op_sliceSl _ _ rfl Tryz.underlying31 Tryz.sizeOf9 rfl (by first | exact ⟨_, rfl⟩ | rfl) (by first | exact ⟨_, rfl⟩ | rfl) (by omega) (by omega) (by omega) | exact op_sliceArr _ _ rfl Tryz.underlying31 Tryz.sizeOf9 rfl GET (by first | exact ⟨_, rfl⟩ | rfl) (by first | exact ⟨_, rfl⟩ | rfl) (by omega) (by omega) (by omega))) ?_
   refine yP rfl rfl (zc rfl (ih a _ _ _ (vcells_eq a) (srow_tail nm r) (lb_get hb5 ha))) (trivial) ?_
   rw [vcells_eq (jget r a).1]
   refine zd2 ?_
   refine yEN rfl rfl rfl (zoa) (⟨.inl rfl, ⟨.inl rfl, ⟨.inl rfl, trivial⟩⟩⟩) (trivial) ?_
   refine zd1 ?_
   refine RP.nil rfl ?_
   refine zrt ?_
   rw [jget_4 h1 (by simpa using h2) hk ha, vcells_eq]
   exact RQ_ret (rkvs_cons (rkv_ck rfl rfl rfl) (rkvs_cons (rkv_t rfl) rfl)) hcl (by simp [rks, AV.lt, AV.ltL]) ⟨rfl, rfl⟩
 ·(try rw [h1]); replace h1 := zcl h1
  refine AWp_skip ?_
  refine AWp_seq ?_
  refine AWp_drawL #[0, 0, 2, 6, 15, 31, 63, 63, 0, 383, 1023] Tryz.mixed (by decide +kernel) (by decide +kernel) ?_
  refine zp1 ?_
  refine zd1 ?_
  refine yA rfl rfl (fun _ => op_indexAddr rfl Tryz.underlying31 Tryz.sizeOf9 rfl rfl (by omega) (rfl)) ?_
  refine zp1 ?_
  refine yP rfl rfl (zc rfl (rfindQ_c v (ba nm) _ _ (vcells_eq v) hb4)) (trivial) ?_
  rw [vcells_eq (jfD v (ba nm))]
  refine zd3 ?_
  refine yE rfl rfl (zoa) (⟨.inr (by rw [← vcells_eq (jfD v (ba nm))]; exact zc rfl (rfindQ_c v (ba nm) _ _ (vcells_eq v) hb4)), ⟨.inr zoa, ⟨.inr zoa, trivial⟩⟩⟩) (trivial) ?_
  refine yEN rfl rfl rfl (zoa) (⟨.inl rfl, ⟨.inl rfl, ⟨.inl rfl, trivial⟩⟩⟩) (⟨rfl, trivial⟩) ?_
  refine zd1 ?_
  refine RP.nil rfl ?_
  refine AWp_seq ?_
  refine zw2 ?_
  refine AWp_cond rfl (fun h3 => ?_) (fun h3 => ?_)
  ·(try rw [h3]); replace h3 := zcl h3
   refine zw3 ?_
   refine AWp_boxLeO 1 (bs' := [.int .i64 vz.kind, .bool vz.b, .bool vz.n.neg, .str vz.n.digits, .int .i64 vz.n.exp, .str vz.s, .sl false 8 (lcells vz.l), .sl false 9 (mcells vz.m)]) rfl ⟨AVle.refl _, AVle.refl _, AVle.refl _, AVle.refl _, AVle.refl _, AVle.refl _, nilL, nilM, trivial⟩ ?_
   refine zrt ?_
   rw [jget_no5 h1 (by simpa using h3), vcells_eq]
   exact RQ_ret (rkvs_cons (rkv_ck rfl rfl rfl) (rkvs_cons (rkv_t rfl) rfl)) hcl (by simp [rks, AV.lt, AV.ltL]) ⟨rfl, rfl⟩
  ·(try rw [h3]); replace h3 := zcl h3
   refine AWp_skip ?_
   refine AWp_seq ?_
   refine AWp_drawL #[0, 0, 2, 7, 15, 15, 63, 127] Tryz.mixed (by decide +kernel) (by decide +kernel) ?_
   refine zp1 ?_
   refine zd1 ?_
   refine yA rfl rfl (fun _ => (by first | exact op_sliceSl _ _ rfl Tryz.underlying31 Tryz.sizeOf9 rfl (by first | exact ⟨_, rfl⟩ | rfl) (by first | exact ⟨_, rfl⟩ | rfl) (by omega) (by omega) (by omega) | exact op_sliceArr _ _ rfl Tryz.underlying31 Tryz.sizeOf9 rfl GET (by first | exact ⟨_, rfl⟩ | rfl) (by first | exact ⟨_, rfl⟩ | rfl) (by omega) (by omega) (by omega))) ?_
   refine yP rfl rfl (zc rfl (ih (jfD v (ba nm)) _ _ _ (vcells_eq _) (srow_tail nm r) (jfD_jb hjb))) (trivial) ?_
   rw [vcells_eq (jget r (jfD v (ba nm))).1]
   refine zd2 ?_
   refine yEN rfl rfl rfl (zoa) (⟨.inl rfl, ⟨.inl rfl, trivial⟩⟩) (trivial) ?_
   refine zd1 ?_
   refine RP.nil rfl ?_
   refine zrt ?_
   rw [jget_5 h1 (by simpa using h3), vcells_eq]
   exact RQ_ret (rkvs_cons (rkv_ck rfl rfl rfl) (rkvs_cons (rkv_t rfl) rfl)) hcl (by simp [rks, AV.lt, AV.ltL]) ⟨rfl, rfl⟩
end Lg
set_option maxRecDepth 20000
set_option maxHeartbeats 4000000
namespace Lg
open Go Go.Proofs Go.RowKit
variable [GLay] [ML]
def gerr (b : Bool) : AV := if b = true then .nili else .iface 65 (.int .i64 6)
theorem rget_c : ∀ (l : List BL) (f : Bool) (v : JV) (cs : List AV) (σ : List AO), (∀ nm ∈ l, nm.length ≤ 1000000) → vcells v = cs → jb v → ACalls Tryz.prog 18 [.agg cs, .sl f 1 (srow l)] σ (Ret (.tup [.agg (vcells (jget l v).1), .bool (jget l v).2]) σ)
  | [], f, v, cs, σ, _, hc, _ => rget_0 f v cs σ hc
  | nm :: r, f, v, cs, σ, hl, hc, hb => rget_1 r (by
      rintro v cs es σ hc rfl hb
      exact rget_c r false v cs σ (fun n hn => hl n (List.mem_cons_of_mem _ hn)) hc hb) f nm v cs σ hc hb (hl nm (List.mem_cons_self ..))
theorem drop_cons {α : Type} {l : List α} {i : Nat} {x : α} (h : l[i]? = some x) : l.drop i = x :: l.drop (i + 1) := by
  have hi := (List.getElem?_eq_some_iff.1 h).1
  rw [List.drop_eq_getElem_cons hi]; congr 1
  have := List.getElem?_eq_getElem hi
  rw [h] at this; exact (Option.some.inj this).symm
theorem pget_c (l : List BL) (f : Bool) (v : JV) (cs : List AV) (σ : List AO) (hll0 : l.length ≤ 1000000) (hl : ∀ nm ∈ l, nm.length ≤ 1000000) (hc : vcells v = cs) (hjb : jb v) : ACalls Tryz.prog 29 [.agg cs, .sl f 1 (srow l)] σ (Ret (.tup [.agg (vcells (jget l v).1), gerr (jget l v).2]) σ) := by
 refine ACalls_bodyC Tryz.func29 rfl Tryz.ntmps29 (by rw [Tryz.results29]; exact (.ck Tryz.isAgg28 Tryz.sizeOf28 (.t .nil))) (Nat.le_of_ble_eq_true rfl) (fun hcl hal => ?_)
 subst hc
 rw [vcells_eq v]
 have hsl := srow_len l
 refine zw3 ?_
 refine AWp_seq ?_
 refine zw3 ?_
 refine AWp_block ?_
 -- loop 0 LIVE 2:box 4:alloc 5:assign 12:move 13:call 14:move
 refine AWp_loop (ι := Nat × JV) (fun z => z.1 ≤ l.length ∧ jb z.2 ∧ jget (l.drop z.1) z.2 = jget l v) (fun z => ⟨[], [(2, .ptr (σ.length + 0) 0), (4, .ptr (σ.length + 1) 0), (5, .nili), (12, .sl f 1 (srow l)), (13, .int .i64 ((srow l).length : Int)), (14, .int .i64 (z.1 : Int))]⟩) (fun z => σ ++ [.box [.int .i64 z.2.kind, .bool z.2.b, .bool z.2.n.neg, .str z.2.n.digits, .int .i64 z.2.n.exp, .str z.2.s, .sl false 8 (lcells z.2.l), .sl false 9 (mcells z.2.m)], .box [.int .i64 0, .bool false, .bool false, .str ⟨#[]⟩, .int .i64 0, .str ⟨#[]⟩, .nils, .nils]]) (fun z => l.length - z.1) ((0, v)) (⟨Nat.zero_le _, hjb, by rw [List.drop_zero]⟩) ?_ rfl (fun z hz => ?_)
 ·exact ⟨rfl, rfl, rfl, rfl, rfl, rfl, rfl, trivial⟩
 obtain ⟨i, u⟩ := z
 obtain ⟨hz1, hz2, hz3⟩ := hz
 simp only at hz1 hz2 hz3 ⊢
 obtain ⟨hb1, hb2, hb3, hb4, hb5, hb6⟩ := (jb_eq u).1 hz2
 have hll := lcells_length u.l
 have hix : ∀ (nm : BL) (τ : List AO), nm.length ≤ 1000000 → ACalls Tryz.prog 25 [.str (ba nm), .int .i64 ((lcells u.l).length : Int), .bool false] τ (Ret (.tup [.int .i64 (jixN nm u.l.length false), .bool (jixO nm u.l.length false)]) τ) := by
  intro nm τ hm; rw [hll]; exact pidx_c nm u.l.length false τ hm (by omega)
 refine zw1 ?_
 refine AWp_seq ?_
 refine AWp_cond rfl (fun h1 => ?_) (fun h1 => ?_)
 ·(try rw [h1]); replace h1 := zcl h1
  obtain ⟨nm, hx⟩ : ∃ nm, l[i]? = some nm := ⟨_, List.getElem?_eq_getElem (show i < l.length by omega)⟩
  have hnm := hl nm (List.mem_of_getElem? hx)
  have hrow : (srow l)[i]? = some [.str (ba nm)] := by simp [srow, hx]
  rw [drop_cons hx] at hz3
  refine AWp_skip ?_
  refine AWp_seq ?_
  refine AWp_block ?_
  refine zsr ?_
  refine zt rfl (op_indexAddr rfl Tryz.underlying31 Tryz.sizeOf9 rfl rfl (by omega) (hrow)) ?_
  refine zv2 ?_
  refine AWp_seq ?_
  refine zw3 ?_
  refine AWp_cond rfl (fun h2 => ?_) (fun h2 => ?_)
  ·(try rw [h2]); replace h2 := zcl h2
   refine zu4 ?_
   refine zt rfl (zc rfl (hix nm _ hnm)) ?_
   refine zv5 ?_
   refine AWp_seq ?_
   refine zw2 ?_
   refine AWp_cond rfl (fun h3 => ?_) (fun h3 => ?_)
   ·(try rw [h3]); replace h3 := zcl h3
    refine zw4 ?_
    refine AWp_boxLeO 1 (bs' := [.int .i64 vz.kind, .bool vz.b, .bool vz.n.neg, .str vz.n.digits, .int .i64 vz.n.exp, .str vz.s, .sl false 8 (lcells vz.l), .sl false 9 (mcells vz.m)]) rfl ⟨AVle.refl _, AVle.refl _, AVle.refl _, AVle.refl _, AVle.refl _, AVle.refl _, nilL, nilM, trivial⟩ ?_
    refine zrt ?_
    rw [← hz3, jget_no4 h2 (by simpa using h3), vcells_eq]
    exact RQ_ret (rkvs_cons (rkv_ck rfl rfl rfl) (rkvs_cons (rkv_t rfl) rfl)) hcl (by simp [rks, AV.lt, AV.ltL, gerr]) ⟨rfl, rfl⟩
   ·(try rw [h3]); replace h3 := zcl h3
    obtain ⟨k, hk, hkl⟩ := jix_nat (nm := nm) (n := u.l.length) (by simpa using h3)
    obtain ⟨a, ha⟩ : ∃ a, u.l[k]? = some a := ⟨_, List.getElem?_eq_getElem hkl⟩
    rw [hk]
    refine AWp_skip ?_
    refine zu4 ?_
    rw [vcells_eq a]
    refine zv2 ?_
    refine AWp_exit ?_
    refine AWp_regL ?_
    refine zv2 ?_
    refine ⟨(i + 1, a), σ.length + 2, ⟨by simp only; omega, lb_get hb5 ha, ?_⟩, by simp only; omega, by simp, ⟨rfl, rfl, rfl, rfl, rfl, rfl, rfl, trivial⟩, closed_own 2 hcl ?_, ?_, ?_⟩
    ·simp only; rw [← hz3, jget_4 h2 (by simpa using h3) hk ha]
    ·simp [ownLt, AO.cells, AV.ltL, AV.lt]
    ·simp [ltE, AV.lt, AV.ltL]
    ·exact take_own 2
  ·(try rw [h2]); replace h2 := zcl h2
   refine AWp_skip ?_
   refine zu2 ?_
   refine zt rfl (zc rfl (findQ_c u (ba nm) _ _ (vcells_eq u) hb4)) ?_
   rw [vcells_eq (jfD u (ba nm))]
   refine zv6 ?_
   refine AWp_seq ?_
   refine zw2 ?_
   refine AWp_cond rfl (fun h4 => ?_) (fun h4 => ?_)
   ·(try rw [h4]); replace h4 := zcl h4
    refine zw4 ?_
    refine AWp_boxLeO 1 (bs' := [.int .i64 vz.kind, .bool vz.b, .bool vz.n.neg, .str vz.n.digits, .int .i64 vz.n.exp, .str vz.s, .sl false 8 (lcells vz.l), .sl false 9 (mcells vz.m)]) rfl ⟨AVle.refl _, AVle.refl _, AVle.refl _, AVle.refl _, AVle.refl _, AVle.refl _, nilL, nilM, trivial⟩ ?_
    refine zrt ?_
    rw [← hz3, jget_no5 h2 (by simpa using h4), vcells_eq]
    exact RQ_ret (rkvs_cons (rkv_ck rfl rfl rfl) (rkvs_cons (rkv_t rfl) rfl)) hcl (by simp [rks, AV.lt, AV.ltL, gerr]) ⟨rfl, rfl⟩
   ·(try rw [h4]); replace h4 := zcl h4
    refine AWp_skip ?_
    refine AWp_regL ?_
    refine zv2 ?_
    refine AWp_regL ?_
    refine zv2 ?_
    refine ⟨(i + 1, jfD u (ba nm)), σ.length + 2, ⟨by simp only; omega, jfD_jb hz2, ?_⟩, by simp only; omega, by simp, ⟨rfl, rfl, rfl, rfl, rfl, rfl, rfl, trivial⟩, closed_own 2 hcl ?_, ?_, ?_⟩
    ·simp only; rw [← hz3, jget_5 h2 (by simpa using h4)]
    ·simp [ownLt, AO.cells, AV.ltL, AV.lt]
    ·simp [ltE, AV.lt, AV.ltL]
    ·exact take_own 2
 ·(try rw [h1]); replace h1 := zcl h1
  refine AWp_exit ?_
  refine AWp_seq ?_
  have hie : i = l.length := by omega
  subst hie
  rw [List.drop_length] at hz3
  refine AWp_regL ?_
  refine zv3 ?_
  refine zrt ?_
  rw [← hz3, jget, vcells_eq u]
  exact RQ_ret (rkvs_cons (rkv_ck rfl rfl rfl) (rkvs_cons (rkv_t rfl) rfl)) hcl (by simp [rks, AV.lt, AV.ltL, gerr]) ⟨rfl, rfl⟩
end Lg
set_option maxRecDepth 20000
set_option maxHeartbeats 4000000
namespace Lg
open Go Go.Proofs Go.RowKit
variable [GLay] [ML]
theorem rpath_c (f : Bool) (l : List BL) (σ : List AO) (hl : l.length ≤ 1000) (hx : ∀ x ∈ l, x.length ≤ 1000) : ACalls Tryz.prog 28 [.sl f 1 (srow l)] σ (Ret (.str (ba (shw l))) σ) := by
 refine ACalls_body Tryz.func28 rfl Tryz.ntmps28 (res1 Tryz.results28) (Nat.le_of_ble_eq_true rfl) (fun hcl hal => ?_)
 have hrl := srow_len l
 refine zw1 ?_
 refine zw1 ?_
 refine AWp_seq ?_
 refine zw1 ?_
 refine AWp_block ?_
 -- loop 0 LIVE 0:param 2:assign 3:assign 4:assign
 refine AWp_loop (ι := Nat) (fun i => i ≤ l.length) (fun i => ⟨[], [(0, .sl f 1 (srow l)), (2, .str ⟨#[]⟩), (3, .str (ba (shw (l.take i)))), (4, .int .i64 (i : Int))]⟩) (fun i => σ) (fun i => l.length - i) (0) (Nat.zero_le _) ?_ rfl (fun i hi => ?_)
 ·exact ⟨rfl, rfl, rfl, rfl, rfl, trivial⟩
 have hsl := shw_len 1000 (l.take i) (fun x h => hx x (List.mem_of_mem_take h))
 have htl : (l.take i).length ≤ 1000 := by rw [List.length_take]; omega
 have hsl2 : (shw (l.take i)).length ≤ 1000 * 2001 := Nat.le_trans hsl (Nat.mul_le_mul htl (Nat.le_refl _))
 refine AWp_seq ?_
 refine zw4 ?_
 refine AWp_cond rfl (fun h1 => ?_) (fun h1 => ?_)
 ·(try rw [h1]); replace h1 := zcl h1
  obtain ⟨nm, hxi⟩ : ∃ nm, l[i]? = some nm := ⟨_, List.getElem?_eq_getElem (show i < l.length by omega)⟩
  have hxr := srow_get hxi
  have hxl := hx nm (List.mem_of_getElem? hxi)
  have z1 : (ByteArray.mk #[47]).size = 1 := rfl
  have z3 : (ba (shw (l.take i))).size = (shw (l.take i)).length := ba_size _
  refine AWp_skip ?_
  refine AWp_seq ?_
  refine AWp_block ?_
  refine zw3 ?_
  refine zw1 ?_
  refine AWp_block ?_
  -- loop 1 LIVE 0:param 2:assign 3:assign 4:assign 5:assign
  refine AWp_loop (ι := Nat) (fun j => j ≤ nm.length) (fun j => ⟨[], [(0, .sl f 1 (srow l)), (2, .str ⟨#[]⟩), (3, .str (ba (shw (l.take i) ++ 47 :: pesc (nm.take j)))), (4, .int .i64 (i : Int)), (5, .int .i64 (j : Int))]⟩) (fun j => σ) (fun j => nm.length - j) (0) (Nat.zero_le _) ?_ rfl (fun j hj => ?_)
  ·refine ⟨rfl, rfl, rfl, ?_, rfl, rfl, trivial⟩
   rw [show (shw (l.take i) ++ 47 :: pesc (nm.take 0) : BL) = shw (l.take i) ++ [47] by simp [pesc], ← ba_app]; rfl
  refine AWp_seq ?_
  refine zu3 ?_
  refine zt rfl (op_indexAddr rfl Tryz.underlying31 Tryz.sizeOf9 rfl rfl (by omega) (hxr)) ?_
  refine zv3 ?_
  refine AWp_cond rfl (fun h2 => ?_) (fun h2 => ?_)
  ·(try rw [h2]); replace h2 := zcl h2
   have hbn := ba_size nm
   obtain ⟨c, hc⟩ : ∃ c, nm[j]? = some c := ⟨_, List.getElem?_eq_getElem (show j < nm.length by omega)⟩
   have hbc : bat (ba nm) (j : Int).toNat = c := by rw [Int.toNat_natCast, bat_ba, List.getD_eq_getElem?_getD, hc]; rfl
   have hbj : bat (ba nm) j = c := by rw [← hbc, Int.toNat_natCast]
   have he1 := esc_len (nm.take j)
   have htj : (nm.take j).length ≤ 1000 := by rw [List.length_take]; omega
   have z2 : (ba (shw (l.take i) ++ 47 :: pesc (nm.take j))).size = (shw (l.take i)).length + (pesc (nm.take j)).length + 1 := by rw [ba_size, List.length_append, List.length_cons]; omega
   have z4 : (ByteArray.mk #[126, 48]).size = 2 := rfl
   have z5 : (ByteArray.mk #[126, 49]).size = 2 := rfl
   have z6 : ∀ b : UInt8, (ByteArray.mk #[b]).size = 1 := fun _ => rfl
   refine AWp_skip ?_
   refine AWp_seq ?_
   refine AWp_block ?_
   refine zu2 ?_
   refine zt rfl (op_indexAddr rfl Tryz.underlying31 Tryz.sizeOf9 rfl rfl (by omega) (hxr)) ?_
   refine zv3 ?_
   refine AWp_block ?_
   refine zw2 ?_
   refine AWp_cond rfl (fun h3 => ?_) (fun h3 => ?_)
   ·(try rw [h3]); replace h3 := zcl h3
    have h3 : c = 126 := by rw [hbj] at h3; exact UInt8.toNat_inj.1 (Int.ofNat.inj h3)
    refine AWp_regL ?_
    refine zv3 ?_
    refine AWp_regL ?_
    refine zv3 ?_
    have hes : pesc (nm.take (j + 1)) = pesc (nm.take j) ++ [126, 48] := by rw [ltake_succ hc]; simp [pesc, pesc1, h3]
    refine ⟨j + 1, σ.length, by omega, by omega, Nat.le_refl _, ⟨rfl, rfl, rfl, ?_, rfl, rfl, trivial⟩, hcl, by simp [ltE, AV.lt], List.take_length⟩
    rw [hes, show (shw (l.take i) ++ 47 :: (pesc (nm.take j) ++ [126, 48]) : BL) = (shw (l.take i) ++ 47 :: pesc (nm.take j)) ++ [126, 48] by simp, ← ba_app]; rfl
   ·(try rw [h3]); replace h3 := zcl h3
    have h3 : ¬ c = 126 := fun e => by subst e; rw [hbj] at h3; exact h3 rfl
    refine zw2 ?_
    refine AWp_cond rfl (fun h4 => ?_) (fun h4 => ?_)
    ·(try rw [h4]); replace h4 := zcl h4
     have h4 : c = 47 := by rw [hbj] at h4; exact UInt8.toNat_inj.1 (Int.ofNat.inj h4)
     refine AWp_regL ?_
     refine zv3 ?_
     refine AWp_regL ?_
     refine zv3 ?_
     have hes : pesc (nm.take (j + 1)) = pesc (nm.take j) ++ [126, 49] := by rw [ltake_succ hc]; simp [pesc, pesc1, h3, h4]
     refine ⟨j + 1, σ.length, by omega, by omega, Nat.le_refl _, ⟨rfl, rfl, rfl, ?_, rfl, rfl, trivial⟩, hcl, by simp [ltE, AV.lt], List.take_length⟩
     rw [hes, show (shw (l.take i) ++ 47 :: (pesc (nm.take j) ++ [126, 49]) : BL) = (shw (l.take i) ++ 47 :: pesc (nm.take j)) ++ [126, 49] by simp, ← ba_app]; rfl
    ·(try rw [h4]); replace h4 := zcl h4
     have h4 : ¬ c = 47 := fun e => by subst e; rw [hbj] at h4; exact h4 rfl
     refine AWp_regL ?_
     refine zg3 ?_
     refine zt rfl (op_indexAddr rfl Tryz.underlying31 Tryz.sizeOf9 rfl rfl (by omega) (hxr)) ?_
     refine zg3 ?_
     refine zt rfl (op_buildSlice [[_]] rfl Tryz.underlying82 Tryz.sizeOf5 Tryz.zeroValue5 rfl (by decide) (by decide) rfl rfl rfl rfl rfl) ?_
     refine zt rfl (op_bytesStr (b := ⟨#[bat (ba nm) (j : Int).toNat]⟩) (m := 1) rfl Tryz.underlying82 Tryz.underlying5 Tryz.underlying9 rfl rfl rfl) ?_
     rw [hbc]
     have z7 := z6 c
     refine zv2 ?_
     refine AWp_regL ?_
     refine zv3 ?_
     have hes : pesc (nm.take (j + 1)) = pesc (nm.take j) ++ [c] := by rw [ltake_succ hc]; simp [pesc, pesc1, h3, h4]
     refine ⟨j + 1, σ.length, by omega, by omega, Nat.le_refl _, ⟨rfl, rfl, rfl, ?_, rfl, rfl, trivial⟩, hcl, by simp [ltE, AV.lt], List.take_length⟩
     rw [hes, show (shw (l.take i) ++ 47 :: (pesc (nm.take j) ++ [c]) : BL) = (shw (l.take i) ++ 47 :: pesc (nm.take j)) ++ [c] by simp, ← ba_app]; rfl
  ·(try rw [h2]); replace h2 := zcl h2
   have hbn := ba_size nm
   have hje : j = nm.length := by omega
   subst hje
   rw [List.take_length]
   refine AWp_exit ?_
   refine AWp_regL ?_
   refine zv3 ?_
   refine ⟨i + 1, σ.length, by omega, by omega, Nat.le_refl _, ⟨rfl, rfl, rfl, ?_, rfl, trivial⟩, hcl, by simp [ltE, AV.lt], List.take_length⟩
   rw [ltake_succ hxi, shw_snoc]; rfl
 ·(try rw [h1]); replace h1 := zcl h1
  have hie : i = l.length := by omega
  subst hie
  rw [List.take_length]
  refine AWp_exit ?_
  refine zw2 ?_
  refine zrt ?_
  exact ResQ_10 rfl hcl trivial (Ret_of rfl)
end Lg
set_option maxRecDepth 20000
set_option maxHeartbeats 4000000
namespace Lg
open Go Go.Proofs Go.RowKit
variable [GLay] 
theorem sfail_c (at_ code : Int) (σ : List AO) : ACalls Tryz.prog 167 [.int .i64 at_, .int .i64 code] σ (Ret (.iface 77 (.pp [.int .i64 at_, .int .i64 code])) σ) := by
 refine ACalls_body Tryz.func167 rfl Tryz.ntmps167 (res1 Tryz.results167) (Nat.le_of_ble_eq_true rfl) (fun hcl hal => ?_)
 refine zw1 ?_
 refine zw6 ?_
 refine AWp_freezeI (cs := [.int .i64 at_, .int .i64 code]) 4 (σ.length + 0) 0 77 rfl (by rw [get_own]; rfl) ?_ (by decide)
 rw [set_own]
 refine zrt ?_
 exact ResQ_1 rfl hcl (by simp [AV.lt, AV.ltL]) (Ret_of rfl)

theorem spot_0 (σ : List AO) : ACalls Tryz.prog 23 [.nili] σ (Ret (.tup [.int .i64 0, .int .i64 0]) σ) := by
 refine ACalls_body Tryz.func23 rfl Tryz.ntmps23 (res2 Tryz.results23) (Nat.le_of_ble_eq_true rfl) (fun hcl hal => ?_)
 refine zw2 ?_
 refine AWp_seq ?_
 refine zw2 ?_
 refine AWp_cond rfl (fun h1 => ?_) (fun h1 => ?_)
 ·(try rw [h1]); replace h1 := zcl h1
  refine zw2 ?_
  refine zrt ?_
  exact ResQ_20 rfl rfl hcl (by simp [AV.lt, AV.ltL]) (Ret_of rfl)
 ·(try rw [h1]); replace h1 := zcl h1
  cases h1

theorem spot_s (at_ code : Int) (σ : List AO) : ACalls Tryz.prog 23 [.iface 77 (.pp [.int .i64 at_, .int .i64 code])] σ (Ret (.tup [.int .i64 code, .int .i64 at_]) σ) := by
 refine ACalls_body Tryz.func23 rfl Tryz.ntmps23 (res2 Tryz.results23) (Nat.le_of_ble_eq_true rfl) (fun hcl hal => ?_)
 refine zw2 ?_
 refine AWp_seq ?_
 refine zw2 ?_
 refine AWp_cond rfl (fun h1 => ?_) (fun h1 => ?_)
 ·(try rw [h1]); replace h1 := zcl h1
  cases h1
 ·(try rw [h1]); replace h1 := zcl h1
  refine AWp_skip ?_
  refine zu1 ?_
  refine zt rfl (op_assertT rfl Tryz.underlying77 rfl) ?_
  refine zv5 ?_
  refine AWp_seq ?_
  refine zw5 ?_
  refine AWp_condT rfl ?_
  refine AWp_seq ?_
  refine AWp_drawL #[0, 1, 3, 7, 0, 16, 48, 112, 15, 511] Tryz.mixed (by decide +kernel) (by decide +kernel) ?_
  refine zd3 ?_
  refine zp1 ?_
  refine zd3 ?_
  refine zp1 ?_
  refine zd2 ?_
  refine RP.nil rfl ?_
  refine zrt ?_
  exact ResQ_20 rfl rfl hcl (by simp [AV.lt, AV.ltL]) (Ret_of rfl)
end Lg
