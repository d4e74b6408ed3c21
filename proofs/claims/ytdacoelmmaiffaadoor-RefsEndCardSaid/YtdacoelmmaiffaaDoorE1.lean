/- A part of the proof of When the program's refs.Link tells no error: in place no node of a schema is come to twice on one way, each reference has one kid, and all else stays; when it tells one it gives no nodes.. -/
import Derived.Test.YtdacoelmmaiffaaDoorR1
import Derived.Test.YtdacoelmmaiffaaDoorR2
import Derived.Test.YtdacoelmmaiffaaDoorR3
import Derived.Test.YtdacoelmmaiffaaDoorR4
import Derived.Test.YtdacoelmmaiffaaDoorR5
import Derived.Test.YtdacoelmmaiffaaDoorR6
import Derived.Test.YtdacoelmmaiffaaDoorR7
import Derived.Test.YtdacoelmmaiffaaDoorR8
import Derived.Test.YtdacoelmmaiffaaDoorR9
import Derived.SizedLaws
import Derived.Test.YtdacoelmmaiffaaDoorTie
import Derived.Test.YtdacoelmmaiffaaDoorCards
import Derived.SevenTiedAt
set_option linter.unusedVariables false
set_option linter.unusedSimpArgs false
set_option linter.unusedSectionVars false
namespace Lg
open Go
section
variable [GLay]
theorem lkk_rel {l : List JNode} : ∀ (r a ks : List JKey), lkk l r a = some ks → ks.length = a.length + r.length ∧ (∀ (k : Nat) q, a[k]? = some q → ks[k]? = some q) ∧ ∀ (k : Nat) q, r[k]? = some q → ∃ q2, ks[a.length + k]? = some q2 ∧ lk1 l q = some q2
  | [], a, ks, h => by cases h; exact ⟨rfl, fun k q h => h, fun k q h => by simp at h⟩
  | q :: r, a, ks, h => by
    cases h1 : lk1 l q with
    | none => rw [lkk_bad h1] at h; cases h
    | some q2 =>
      rw [lkk_go h1] at h
      obtain ⟨i1, i2, i3⟩ := lkk_rel r (a ++ [q2]) ks h
      rw [List.length_append, List.length_singleton] at i1 i3
      refine ⟨by rw [i1]; simp; omega, fun k x hx => i2 k x (by rw [List.getElem?_append_left (List.getElem?_eq_some_iff.1 hx).1]; exact hx), fun k x hx => ?_⟩
      cases k with
      | zero =>
        simp at hx; subst hx
        exact ⟨q2, i2 a.length q2 (by simp), h1⟩
      | succ k =>
        simp at hx
        obtain ⟨y, hy1, hy2⟩ := i3 k x hx
        exact ⟨y, by rw [show a.length + (k + 1) = a.length + 1 + k by omega]; exact hy1, hy2⟩
theorem lkn_rel {l : List JNode} : ∀ (r a o : List JNode) (p : ByteArray), lkn l r a = (o, 0, p) → o.length = a.length + r.length ∧ (∀ (j : Nat) n, a[j]? = some n → o[j]? = some n) ∧ ∀ (j : Nat) n, r[j]? = some n → ∃ ks, o[a.length + j]? = some ⟨n.path, n.all, n.pass, ks⟩ ∧ lkk l n.keys [] = some ks
  | [], a, o, p, h => by cases h; exact ⟨rfl, fun k q h => h, fun k q h => by simp at h⟩
  | n :: r, a, o, p, h => by
    cases h1 : lkk l n.keys [] with
    | none => rw [lkn_bad h1] at h; cases h
    | some ks =>
      rw [lkn_go h1] at h
      obtain ⟨i1, i2, i3⟩ := lkn_rel r _ o p h
      rw [List.length_append, List.length_singleton] at i1 i3
      refine ⟨by rw [i1]; simp; omega, fun k x hx => i2 k x (by rw [List.getElem?_append_left (List.getElem?_eq_some_iff.1 hx).1]; exact hx), fun k x hx => ?_⟩
      cases k with
      | zero =>
        simp at hx; subst hx
        exact ⟨ks, i2 a.length _ (by simp), h1⟩
      | succ k =>
        simp at hx
        obtain ⟨y, hy1, hy2⟩ := i3 k x hx
        exact ⟨y, by rw [show a.length + (k + 1) = a.length + 1 + k by omega]; exact hy1, hy2⟩
theorem lkc_all {o : List JNode} {p : ByteArray} : ∀ (r : List JNode) (i : Nat), lkc o r i = (0, p) → ∀ j, j < r.length → pb (Rch o (i + j) (i + j)) = false
  | [], i, h, j, hj => by simp at hj
  | n :: r, i, h, j, hj => by
    cases h1 : pb (Rch o i i) with
    | true => rw [lkc_y h1] at h; cases h
    | false =>
      rw [lkc_n h1] at h
      cases j with
      | zero => exact h1
      | succ j =>
        have := lkc_all r (i + 1) h j (by simpa using hj)
        rwa [show i + 1 + j = i + (j + 1) by omega] at this
structure LNK (l o : List JNode) : Prop where
  ok : LOK o
  len : o.length = l.length
  rel : ∀ (j : Nat) n, l[j]? = some n → ∃ ks, o[j]? = some ⟨n.path, n.all, n.pass, ks⟩ ∧ ks.length = n.keys.length ∧ ∀ (k : Nat) q, n.keys[k]? = some q → ∃ q2, ks[k]? = some q2 ∧ q2.name = q.name ∧ q2.kids.length = if q.name = cREF then 1 else q.kids.length
  cyc : ∀ i, i < o.length → pb (Rch o i i) = false
theorem jlink_LNK {l : List JNode} (hok : NOK l) (h : (jlink l).2.1 = 0) : LNK l (jlink l).1 := by
  unfold jlink at h ⊢
  split at h
  · rename_i h0; exact absurd h h0
  · rename_i h0
    split at h
    · rename_i h2; exact absurd h h2
    · rename_i h2
      rw [if_neg h0, if_neg h2]
      have h0' : (lkn l l []).2.1 = 0 := Decidable.not_not.1 h0
      have h2' : (lkc (lkn l l []).1 (lkn l l []).1 0).1 = 0 := Decidable.not_not.1 h2
      have e : lkn l l [] = ((lkn l l []).1, 0, (lkn l l []).2.2) := by rw [← h0']
      obtain ⟨g1, g2⟩ := lkn_LOK hok e
      obtain ⟨r1, _, r3⟩ := lkn_rel l [] _ _ e
      generalize (lkn l l []).1 = o at g1 g2 r1 r3 h2' ⊢
      refine ⟨g1, g2, fun j n hn => ?_, fun i hi => ?_⟩
      · obtain ⟨ks, k1, k2⟩ := r3 j n hn
        obtain ⟨m1, _, m3⟩ := lkk_rel _ _ _ k2
        simp only [List.length_nil, Nat.zero_add] at k1 m1 m3
        refine ⟨ks, k1, m1, fun k q hq => ?_⟩
        obtain ⟨q2, hq1, hq2⟩ := m3 k q hq
        refine ⟨q2, hq1, ?_⟩
        unfold lk1 at hq2
        split at hq2
        · split at hq2
          · cases hq2
          · rename_i hn _; cases hq2; exact ⟨rfl, by rw [if_pos hn]; rfl⟩
        · rename_i hn; cases hq2; exact ⟨rfl, by rw [if_neg hn]⟩
      · have e2 : lkc o o 0 = (0, (lkc o o 0).2) := by rw [← h2']
        have := lkc_all o 0 e2 i hi
        rwa [Nat.zero_add] at this
theorem jlink_err {l : List JNode} (h : ¬ (jlink l).2.1 = 0) : (jlink l).1 = [] := by
  unfold jlink at h ⊢
  split
  · rfl
  · rename_i h0
    rw [if_neg h0] at h
    split
    · rfl
    · rename_i h2
      rw [if_neg h2] at h
      exact absurd rfl h
end
end Lg
set_option maxRecDepth 20000
set_option maxHeartbeats 4000000
namespace Lg
open Go Go.Proofs Go.RowKit
variable [GLay] [ML]
theorem op_neSpE {P : Program} {σ : List AO} {e : Env} {o : Oper} {T T' : TypeId} {x : Operand} {ms : Array (String × TypeId)} {z : Int × ByteArray} (ho : o.op = .binOp .neq T x (.const .nilIface) T') (hu : P.underlying T = some (.interface ms)) (hx : opO e x = some (spE z)) : AOp P σ e o (.bool (decide (¬ z.1 = 0))) σ := by
  unfold spE at hx
  split at hx
  · rename_i h; rw [decide_eq_false (fun g => g h)]; exact op_neINil ho hu hx
  · rename_i h; rw [decide_eq_true h]; exact op_neIN ho hu hx
theorem refsEnd_c (s : ByteArray) (σ : List AO) : ACalls Tryd.prog 4 [.str s] σ (Ret (.bool true) σ) := by
 refine ACalls_body Tryd.func4 rfl Tryd.ntmps4 (res1 Tryd.results4) (Nat.le_of_ble_eq_true rfl) (fun hcl hal => ?_)
 have hva := rValue_ok s
 refine zw1 ?_
 refine zsr ?_
 refine zt rfl (zc rfl (up12_c _)) ?_
 refine zv1 ?_
 refine zu1 ?_
 refine zt rfl (zc rfl (value_c s _)) ?_
 generalize (rValue s).1 = v at hva ⊢
 generalize (rValue s).2 = ok at hva ⊢
 rw [vcells_eq v]
 refine zv6 ?_
 refine AWp_seq ?_
 refine zw2 ?_
 refine AWp_cond rfl (fun h1 => ?_) (fun h1 => ?_)
 ·(try rw [h1]); replace h1 := zcl h1
  refine zw2 ?_
  refine zrt ?_
  exact ResQ_1 rfl hcl trivial (Ret_of rfl)
 ·(try rw [h1]); replace h1 := zcl h1
  obtain ⟨hmy, hjb, hjs⟩ : jmay v ∧ jb v ∧ jsize v ≤ 2002 := by rcases hva with h | h; exact absurd h.1 h1; exact h.2
  obtain ⟨_, _, hl0, hm0, _, _⟩ := (jb_eq v).1 hjb
  have hl : v.l.length ≤ 1000000000 := by omega
  have hm : v.m.length ≤ 1000000000 := by omega
  have hw : v.kind = 2 → rWhole v.n = decide (0 ≤ v.n.exp) := fun _ => may_whole hmy
  have hst := may_st hmy
  refine AWp_skip ?_
  refine zu1 ?_
  refine zt rfl (zc rfl (rcomp_c v _ _ (vcells_eq _) hjb (by omega))) ?_
  refine zv7 ?_
  refine AWp_seq ?_
  refine zw2 ?_
  refine AWp_cond rfl (fun h2 => ?_) (fun h2 => ?_)
  ·(try rw [h2]); replace h2 := zcl h2
   refine zw2 ?_
   refine zrt ?_
   exact ResQ_1 rfl hcl trivial (Ret_of rfl)
  ·(try rw [h2]); replace h2 := zcl h2
   have hlc := jcomp_ok hjb hst (by omega : jsize v ≤ 10000) h2
   generalize jcomp v = w at hlc h2 ⊢
   obtain ⟨lw, bw, pw⟩ := w
   dsimp only at hlc h2
   refine AWp_skip ?_
   refine zu1 ?_
   refine zt rfl (zc rfl (plink_c false lw _ _ rfl hlc)) ?_
   refine zv5 ?_
   refine AWp_seq ?_
   refine zu1 ?_
   refine zt rfl (op_neSpE rfl Tryd.underlying35 rfl) ?_
   refine zon ?_
   refine AWp_cond rfl (fun h3 => ?_) (fun h3 => ?_)
   ·(try rw [h3]); replace h3 := zcl h3
    have he := jlink_err h3
    rw [he]
    refine zw7 ?_
    refine zrt ?_
    exact ResQ_1 rfl hcl trivial (Ret_of rfl)
   ·(try rw [h3]); replace h3 := zcl h3
    have hL := jlink_LNK hlc h3
    generalize (jlink lw).1 = o at hL ⊢
    have hol := hL.len
    have h2l := noder_len o
    have h3l := noder_len lw
    have h4l := hL.ok.le
    refine AWp_skip ?_
    refine AWp_seq ?_
    refine zw5 ?_
    refine AWp_cond rfl (fun h4 => ?_) (fun h4 => ?_)
    ·(try rw [h4]); replace h4 := zcl h4
     first | exact absurd rfl h4 | exact absurd True.intro h4 | omega | (exfalso; simp at h4; done)
    ·(try rw [h4]); replace h4 := zcl h4
     refine AWp_skip ?_
     refine AWp_seq ?_
     refine zw1 ?_
     refine AWp_block ?_
     -- loop 0 LIVE 2:assign 3:assign 6:assign 9:assign 11:assign
     refine AWp_loop (ι := Nat) (fun i => i ≤ o.length) (fun i => ⟨[], [(3, .bool true), (6, .sl false 4 (noder lw)), (9, .sl false 4 (noder o)), (11, .int .i64 (i : Int))]⟩) (fun i => σ ++ [.box [.int .i64 v.kind, .bool v.b, .bool v.n.neg, .str v.n.digits, .int .i64 v.n.exp, .str v.s, .sl false 8 (lcells v.l), .sl false 9 (mcells v.m)]]) (fun i => o.length - i) (0) (Nat.zero_le _) ?_ rfl (fun i hi => ?_)
     ·exact ⟨rfl, rfl, rfl, rfl, rfl, trivial⟩
     refine AWp_seq ?_
     refine zw4 ?_
     refine AWp_cond rfl (fun h5 => ?_) (fun h5 => ?_)
     ·(try rw [h5]); replace h5 := zcl h5
      obtain ⟨n, hn⟩ : ∃ n, lw[i]? = some n := ⟨_, List.getElem?_eq_getElem (show i < lw.length by omega)⟩
      obtain ⟨ks, hn2, hkl, hrel⟩ := hL.rel i n hn
      have hkz := (hL.ok.kz _ (List.mem_of_getElem? hn2)).1
      have hkr := hL.ok.kr _ (List.mem_of_getElem? hn2)
      have hkzz := (hL.ok.kz _ (List.mem_of_getElem? hn2)).2
      have hyl := keyr_len ks
      have hyl2 := keyr_len n.keys
      simp only at hkz hkr hkzz
      refine AWp_skip ?_
      refine AWp_seq ?_
      refine AWp_block ?_
      refine AWp_seq ?_
      refine AWp_seq ?_
      refine AWp_drawL #[0, 0, 3, 7, 15, 31, 0, 0, 192, 448, 960, 1984, 4095, 8191, 16383, 16383, 65535, 131071, 262143, 16383, 16383, 1589247, 3686399, 7880703, 16777215, 33554431] Tryd.mixed (by decide +kernel) (by decide +kernel) ?_
      refine zd2 ?_
      refine yA rfl rfl (fun _ => op_indexAddr rfl Tryd.underlying31 Tryd.sizeOf45 rfl rfl (by omega) (noder_get hn2)) ?_
      refine zd1 ?_
      refine zp1 ?_
      refine zd3 ?_
      refine yA rfl rfl (fun _ => op_indexAddr rfl Tryd.underlying31 Tryd.sizeOf45 rfl rfl (by omega) (noder_get hn)) ?_
      refine zd1 ?_
      refine zp1 ?_
      refine zd3 ?_
      refine zspr 71 rfl (fun h6 => ?_) fun h6 => ?_
      ·rw [h6]; replace h6 := zcl h6
       first | exact absurd rfl h6 | exact absurd True.intro h6 | omega | (exfalso; simp at h6; done)
      ·rw [h6]; replace h6 := zcl h6
       refine zd2 ?_
       refine yAG rfl rfl rfl (fun _ => op_indexAddr rfl Tryd.underlying31 Tryd.sizeOf45 rfl rfl (by omega) (noder_get hn2)) ?_
       refine zd1 ?_
       refine zp1 ?_
       refine zd2 ?_
       refine yAG rfl rfl rfl (fun _ => op_indexAddr rfl Tryd.underlying31 Tryd.sizeOf45 rfl rfl (by omega) (noder_get hn)) ?_
       refine zd1 ?_
       refine zp1 ?_
       refine zd2 ?_
       refine RP.nil rfl ?_
       refine AWp_cond rfl (fun h7 => ?_) (fun h7 => ?_)
       ·(try rw [h7]); replace h7 := zcl h7
        first | exact absurd rfl h7 | exact absurd True.intro h7 | omega | (exfalso; simp at h7; done)
       ·(try rw [h7]); replace h7 := zcl h7
        refine AWp_skip ?_
        refine zw1 ?_
        refine AWp_block ?_
        -- loop 1 LIVE 2:assign 3:assign 6:assign 9:assign 11:assign 12:assign
        refine AWp_loop (ι := Nat) (fun k => k ≤ ks.length) (fun k => ⟨[], [(3, .bool true), (6, .sl false 4 (noder lw)), (9, .sl false 4 (noder o)), (11, .int .i64 (i : Int)), (12, .int .i64 (k : Int))]⟩) (fun k => σ ++ [.box [.int .i64 v.kind, .bool v.b, .bool v.n.neg, .str v.n.digits, .int .i64 v.n.exp, .str v.s, .sl false 8 (lcells v.l), .sl false 9 (mcells v.m)]]) (fun k => ks.length - k) (0) (Nat.zero_le _) ?_ rfl (fun k hk => ?_)
        ·exact ⟨rfl, rfl, rfl, rfl, rfl, rfl, trivial⟩
        refine AWp_seq ?_
        refine zu3 ?_
        refine zt rfl (op_indexAddr rfl Tryd.underlying31 Tryd.sizeOf45 rfl rfl (by omega) (noder_get hn2)) ?_
        refine zv4 ?_
        refine AWp_cond rfl (fun h8 => ?_) (fun h8 => ?_)
        ·(try rw [h8]); replace h8 := zcl h8
         obtain ⟨q, hq⟩ : ∃ q, n.keys[k]? = some q := ⟨_, List.getElem?_eq_getElem (show k < n.keys.length by omega)⟩
         obtain ⟨q2, hq2, hqn, hqk⟩ := hrel k q hq
         have hd2 := kidr_len q2.kids
         have hd1 := kidr_len q.kids
         have hkb := (hkzz q2 (List.mem_of_getElem? hq2)).2.2
         refine AWp_skip ?_
         refine AWp_seq ?_
         refine AWp_block ?_
         refine zu2 ?_
         refine zt rfl (op_indexAddr rfl Tryd.underlying31 Tryd.sizeOf45 rfl rfl (by omega) (noder_get hn)) ?_
         refine zg3 ?_
         refine zt rfl (op_indexAddr rfl Tryd.underlying43 Tryd.sizeOf48 rfl rfl (by omega) (keyr_get hq)) ?_
         rw [keyc_eq]
         refine zv4 ?_
         refine AWp_join (ι := Nat) (fun many => many = q2.kids.length) (fun many => ⟨[], [(3, .bool true), (6, .sl false 4 (noder lw)), (9, .sl false 4 (noder o)), (11, .int .i64 (i : Int)), (12, .int .i64 (k : Int)), (13, .int .i64 (many : Int))]⟩) (fun many => σ ++ [.box [.int .i64 v.kind, .bool v.b, .bool v.n.neg, .str v.n.digits, .int .i64 v.n.exp, .str v.s, .sl false 8 (lcells v.l), .sl false 9 (mcells v.m)]]) ?_ (fun many hj => ?_)
         ·skip
          refine zu2 ?_
          refine zt rfl (op_indexAddr rfl Tryd.underlying31 Tryd.sizeOf45 rfl rfl (by omega) (noder_get hn)) ?_
          refine zg3 ?_
          refine zt rfl (op_indexAddr rfl Tryd.underlying43 Tryd.sizeOf48 rfl rfl (by omega) (keyr_get hq)) ?_
          refine zv3 ?_
          refine AWp_cond rfl (fun h9 => ?_) (fun h9 => ?_)
          ·(try rw [h9]); replace h9 := zcl h9
           have h9 : q.name = cREF := h9
           refine AWp_regL ?_
           refine zv1 ?_
           exact ⟨1, by rw [hqk, if_pos h9], ⟨rfl, rfl, rfl, rfl, rfl, rfl, rfl, trivial⟩, rfl⟩
          ·(try rw [h9]); replace h9 := zcl h9
           have h9 : ¬ q.name = cREF := h9
           refine AWp_skip ?_
           exact ⟨(kidr q.kids).length, by rw [hqk, if_neg h9, hd1], ⟨rfl, rfl, rfl, rfl, rfl, rfl, rfl, trivial⟩, rfl⟩
         ·skip
          refine AWp_seq ?_
          refine AWp_seq ?_
          refine AWp_drawL #[0, 0, 3, 7, 15, 0, 63, 127, 255, 511, 0, 2047, 4095, 8191, 8191, 32767, 65535, 131071, 8191, 524287, 1048575, 2097151, 8191, 8191, 12591103, 29368319, 62922751, 8191, 264249343, 532684799, 1069555711, 2147483647, 4294967295] Tryd.mixed (by decide +kernel) (by decide +kernel) ?_
          refine zd2 ?_
          refine yA rfl rfl (fun _ => op_indexAddr rfl Tryd.underlying31 Tryd.sizeOf45 rfl rfl (by omega) (noder_get hn2)) ?_
          refine zd1 ?_
          refine zp1 ?_
          refine zd1 ?_
          refine yA rfl rfl (fun _ => op_indexAddr rfl Tryd.underlying43 Tryd.sizeOf48 rfl rfl (by omega) (keyr_get hq2)) ?_
          rw [keyc_eq q2]
          refine zd1 ?_
          refine zp1 ?_
          refine zd4 ?_
          refine zspr 126 rfl (fun h10 => ?_) fun h10 => ?_
          ·rw [h10]; replace h10 := zcl h10
           first | exact absurd rfl h10 | exact absurd True.intro h10 | omega | (exfalso; simp at h10; done)
          ·rw [h10]; replace h10 := zcl h10
           refine zd2 ?_
           refine yAG rfl rfl rfl (fun _ => op_indexAddr rfl Tryd.underlying31 Tryd.sizeOf45 rfl rfl (by omega) (noder_get hn2)) ?_
           refine zd1 ?_
           refine zp1 ?_
           refine zd1 ?_
           refine yAG rfl rfl rfl (fun _ => op_indexAddr rfl Tryd.underlying43 Tryd.sizeOf48 rfl rfl (by omega) (keyr_get hq2)) ?_
           refine zd1 ?_
           refine zp1 ?_
           refine zd2 ?_
           refine yAG rfl rfl rfl (fun _ => op_indexAddr rfl Tryd.underlying31 Tryd.sizeOf45 rfl rfl (by omega) (noder_get hn)) ?_
           refine zd1 ?_
           refine zp1 ?_
           refine zd1 ?_
           refine yAG rfl rfl rfl (fun _ => op_indexAddr rfl Tryd.underlying43 Tryd.sizeOf48 rfl rfl (by omega) (keyr_get hq)) ?_
           refine zd1 ?_
           refine zp1 ?_
           refine zd2 ?_
           refine RP.nil rfl ?_
           refine AWp_cond rfl (fun h11 => ?_) (fun h11 => ?_)
           ·(try rw [h11]); replace h11 := zcl h11
            exact absurd hqn h11
           ·(try rw [h11]); replace h11 := zcl h11
            refine AWp_skip ?_
            refine zw1 ?_
            refine AWp_block ?_
            -- loop 2 LIVE 2:assign 3:assign 9:assign 11:assign 12:assign 13:assign 14:assign
            refine AWp_loop (ι := Nat) (fun j => j ≤ many) (fun j => ⟨[], [(3, .bool true), (6, .sl false 4 (noder lw)), (9, .sl false 4 (noder o)), (11, .int .i64 (i : Int)), (12, .int .i64 (k : Int)), (13, .int .i64 (many : Int)), (14, .int .i64 (j : Int))]⟩) (fun j => σ ++ [.box [.int .i64 v.kind, .bool v.b, .bool v.n.neg, .str v.n.digits, .int .i64 v.n.exp, .str v.s, .sl false 8 (lcells v.l), .sl false 9 (mcells v.m)]]) (fun j => many - j) (0) (Nat.zero_le _) ?_ rfl (fun j hj2 => ?_)
            ·exact ⟨rfl, rfl, rfl, rfl, rfl, rfl, rfl, rfl, trivial⟩
            refine AWp_seq ?_
            refine zw3 ?_
            refine AWp_cond rfl (fun h12 => ?_) (fun h12 => ?_)
            ·(try rw [h12]); replace h12 := zcl h12
             obtain ⟨d, hd⟩ : ∃ d, q2.kids[j]? = some d := ⟨_, List.getElem?_eq_getElem (show j < q2.kids.length by omega)⟩
             have hdr := hkr q2 (List.mem_of_getElem? hq2) d (List.mem_of_getElem? hd)
             refine AWp_skip ?_
             refine AWp_seq ?_
             refine AWp_block ?_
             refine zu2 ?_
             refine zt rfl (op_indexAddr rfl Tryd.underlying31 Tryd.sizeOf45 rfl rfl (by omega) (noder_get hn2)) ?_
             refine zg3 ?_
             refine zt rfl (op_indexAddr rfl Tryd.underlying43 Tryd.sizeOf48 rfl rfl (by omega) (keyr_get hq2)) ?_
             rw [keyc_eq]
             refine zg3 ?_
             refine zt rfl (op_indexAddr rfl Tryd.underlying46 Tryd.sizeOf50 rfl rfl (by omega) (kidr_get hd)) ?_
             refine zg4 ?_
             refine zsp 166 rfl (fun h13 => ?_) fun h13 => ?_
             ·rw [h13]; replace h13 := zcl h13
              first | exact absurd rfl h13 | exact absurd True.intro h13 | omega | (exfalso; simp at h13; done)
             ·rw [h13]; replace h13 := zcl h13
              refine zg2 ?_
              refine ztG rfl rfl (op_indexAddr rfl Tryd.underlying31 Tryd.sizeOf45 rfl rfl (by omega) (noder_get hn2)) ?_
              refine zg3 ?_
              refine ztG rfl rfl (op_indexAddr rfl Tryd.underlying43 Tryd.sizeOf48 rfl rfl (by omega) (keyr_get hq2)) ?_
              (try rw [keyc_eq])
              refine zg3 ?_
              refine ztG rfl rfl (op_indexAddr rfl Tryd.underlying46 Tryd.sizeOf50 rfl rfl (by omega) (kidr_get hd)) ?_
              refine zv6 ?_
              refine AWp_cond rfl (fun h14 => ?_) (fun h14 => ?_)
              ·(try rw [h14]); replace h14 := zcl h14
               first | exact absurd rfl h14 | exact absurd True.intro h14 | omega | (exfalso; simp at h14; done)
              ·(try rw [h14]); replace h14 := zcl h14
               refine AWp_skip ?_
               refine AWp_regL ?_
               refine zv3 ?_
               refine ⟨j + 1, σ.length + 1, by omega, by omega, by simp, ⟨rfl, rfl, rfl, rfl, rfl, rfl, rfl, rfl, trivial⟩, closed_own 1 hcl ?_, ?_, take_own 1⟩
               ·simp [ownLt, AO.cells, AV.ltL, AV.lt]
               ·simp [ltE, AV.lt, AV.ltL]
            ·(try rw [h12]); replace h12 := zcl h12
             refine AWp_exit ?_
             refine AWp_regL ?_
             refine zv3 ?_
             refine ⟨k + 1, σ.length + 1, by omega, by omega, by simp, ⟨rfl, rfl, rfl, rfl, rfl, rfl, trivial⟩, closed_own 1 hcl ?_, ?_, take_own 1⟩
             ·simp [ownLt, AO.cells, AV.ltL, AV.lt]
             ·simp [ltE, AV.lt, AV.ltL]
        ·(try rw [h8]); replace h8 := zcl h8
         refine AWp_exit ?_
         refine AWp_regL ?_
         refine zv3 ?_
         refine ⟨i + 1, σ.length + 1, by omega, by omega, by simp, ⟨rfl, rfl, rfl, rfl, rfl, trivial⟩, closed_own 1 hcl ?_, ?_, take_own 1⟩
         ·simp [ownLt, AO.cells, AV.ltL, AV.lt]
         ·simp [ltE, AV.lt, AV.ltL]
     ·(try rw [h5]); replace h5 := zcl h5
      refine AWp_exit ?_
      refine AWp_seq ?_
      refine zw1 ?_
      refine AWp_block ?_
      -- loop 3 LIVE 2:assign 3:assign 9:assign 15:assign
      refine AWp_loop (ι := Nat) (fun c => c ≤ o.length) (fun c => ⟨[], [(3, .bool true), (9, .sl false 4 (noder o)), (15, .int .i64 (c : Int))]⟩) (fun c => σ ++ [.box [.int .i64 v.kind, .bool v.b, .bool v.n.neg, .str v.n.digits, .int .i64 v.n.exp, .str v.s, .sl false 8 (lcells v.l), .sl false 9 (mcells v.m)]]) (fun c => o.length - c) (0) (Nat.zero_le _) ?_ rfl (fun c hc => ?_)
      ·exact ⟨rfl, rfl, rfl, rfl, trivial⟩
      refine AWp_seq ?_
      refine zw4 ?_
      refine AWp_cond rfl (fun h15 => ?_) (fun h15 => ?_)
      ·(try rw [h15]); replace h15 := zcl h15
       refine AWp_skip ?_
       refine AWp_seq ?_
       refine AWp_block ?_
       refine zu2 ?_
       refine zt rfl (zc rfl (reach_c false o _ c _ rfl hL.ok (by omega))) ?_
       refine zg1 ?_
       refine zt rfl (op_indexAddr rfl Tryd.underlying51 Tryd.sizeOf4 rfl rfl (by omega) (reachL_get (by omega))) ?_
       refine zv1 ?_
       refine AWp_cond rfl (fun h16 => ?_) (fun h16 => ?_)
       ·(try rw [h16]); replace h16 := zcl h16
        rw [hL.cyc c (by omega)] at h16; cases h16
       ·(try rw [h16]); replace h16 := zcl h16
        refine AWp_skip ?_
        refine AWp_regL ?_
        refine zv3 ?_
        refine ⟨c + 1, σ.length + 1, by omega, by omega, by simp, ⟨rfl, rfl, rfl, rfl, trivial⟩, closed_own 1 hcl ?_, ?_, take_own 1⟩
        ·simp [ownLt, AO.cells, AV.ltL, AV.lt]
        ·simp [ltE, AV.lt, AV.ltL]
      ·(try rw [h15]); replace h15 := zcl h15
       refine AWp_exit ?_
       refine zw2 ?_
       refine zrt ?_
       exact ResQ_1 rfl hcl trivial (Ret_of rfl)
end Lg
set_option maxRecDepth 100000
set_option maxHeartbeats 4000000
namespace Go.Proofs.YtdacoelmmaiffaaDoor
open Go Go.ChangeShapes Go.WideShapes Go.ChangeAt Go.RowKit Go.Lib
open Go.ChangeMaps (open_string shut_string)
noncomputable def refsEnd_lw (os : Os) : World := World.laidAll Tryd.prog os Rows.refsEndRow.laid
theorem refsEnd_pl : (Rows.refsEndRow.laid.all fun x => x.2.handleName?.isNone) = true := by kernel_rfl
theorem refsEnd_mh (os : Os) (args : Array Value) : laidMetH Tryd.prog Rows.refsEndRow.laid ((refsEnd_lw os).forCall (fun _ _ => 0) ⟨#[], args, []⟩).memory := by
  rw [MakeChecks.laidMetH_plain _ _ _ refsEnd_pl]; exact laidMet_laidAll _ (by kernel_rfl) (by kernel_rfl)
theorem refsEnd_lifted (os : Os) (started : os.Started) (H : Type) (enc : TypeId × Value → H) :
    ReturnsInHanded {} Tryd.checked os 4 .any (fun w args => (Rows.refsEndSpec.pre enc Tryd.prog Tryd.f4 [] false w args ∧ laidMetH Tryd.prog Rows.refsEndRow.laid w) ∧ sizedMet enc Tryd.prog Tryd.f4 (OpenSpec.ofChange Rows.refsEndSpec) false w args)
      (Rows.refsEndSpec.post enc Tryd.prog Tryd.f4 false true false false) := by
  refine Lg.returns_and_shaped (C := Tryd.checked) (X := fun w _ => laidMetH Tryd.prog Rows.refsEndRow.laid w) (fun _ _ _ hh h => h.of_heap hh) own started (by kernel_rfl) Tryd.func4
    (ChangeSpec.witness_shaped (enc := enc) (C := Tryd.checked) (os := os) (X := fun w _ => laidMetH Tryd.prog Rows.refsEndRow.laid w) false (refsEnd_lw os) #[.string ⟨#[]⟩] 8 (World.laidAll_os _ _ _)
      (World.shaped_of_ZipB (by kernel_rfl) (by kernel_rfl)) (by kernel_rfl) (by kernel_rfl) (by kernel_rfl) (refsEnd_mh os _)) ?_
  intro W base args ds gs before hval0 hW hL hS
  have hval : ∀ (j : Nat) t v, Tryd.f4.params[j]? = some t → args[j]? = some v → Value.okWide Tryd.prog W .any base t v := hval0
  have hW' := hW
  obtain ⟨p, q, hA0, hV, rfl, hfz, hnd⟩ := hW
  have hA : DataW.TrodAll enc Tryd.prog W 0 (fun _ => true) true Tryd.f4.params.toList args.toList ds p := hA0
  rw [Tryd.params4] at hA hval
  obtain ⟨v0, vs0, d0, ds0, p0, q0, hargs, rfl, rfl, h0, r0⟩ := trodAll_cons hA
  obtain ⟨rfl, rfl, rfl⟩ := trodAll_nil r0
  obtain rfl : args = #[v0] := by cases args; simp_all
  obtain ⟨rfl, rfl⟩ := trodVars_none hV
  obtain ⟨x0, rfl, rfl, rfl, w0⟩ := open_string Tryd.underlying9 (hval 0 9 v0 rfl rfl) h0
  clear hA0 hval0
  simp only [List.append_nil] at hW'
  have hcall := Lg.calls_of (P := Tryd.prog) (f := 4) (args := [.str x0]) (cargs := [.string x0]) (W := W)
    (fun st => (.cons (.str _) .nil))
    (fun hg => by haveI := Lg.ML.of hS hg; exact Lg.refsEnd_c x0 [] )
  refine hcall.mono fun e W' ⟨he, hg⟩ => ?_
  subst he
  refine ⟨_, rfl, _, _, _, [], [], [], hW', trodAll_mk1 (shut_bool Tryd.underlying4 _), ?_, rfl, hg.frame _, fun h => by cases h⟩
  exact (trodAll_cons_mk (shut_string Tryd.underlying9 w0) trodAll_mk0)
theorem refsEnd_holds : Rows.RefsEndSaid :=
  OpenClaim.holds_of_wide 4 Tryd.f4 rfl rfl rfl rfl rfl rfl rfl ⟨rfl, rfl, rfl, rfl, rfl⟩ rfl rfl rfl rfl rfl (by kernel_rfl) Tryd.func4 (by kernel_rfl)
    (of_decide_eq_true (by kernel_rfl)) (by unfold Func.isWrapper; first | (rw [if_pos (by decide +kernel)]; kernel_rfl) | (rw [if_neg (by decide +kernel)]; exact ⟨rfl, rfl⟩))
    (fun os started H enc _ => refsEnd_lifted os started H enc)
end Go.Proofs.YtdacoelmmaiffaaDoor
