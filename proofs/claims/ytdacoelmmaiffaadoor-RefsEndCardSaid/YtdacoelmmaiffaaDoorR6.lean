/- A part of the proof of The nodes of any schema with their references known, or what is amiss and where: the program's refs.Link answers as the reference's Link.: Lg51 Lg52 Lg56 Lg58 C1 C2 Lc2 Lc3 Lg59 Lc4 C3 Lg54 Lc5 C4 Lc6 C5 C6 Lc7 Lg35 Lq2 Lg36 Lq3 Lg37 Lg38 B8 C7 Lg60. -/
import Derived.Test.YtdacoelmmaiffaaDoorR5
import Derived.Test.YtdacoelmmaiffaaDoorR3
import Derived.Test.YtdacoelmmaiffaaDoorR4
import Derived.Test.YtdacoelmmaiffaaDoorR2
import Derived.Laws.BitsLemmas
set_option linter.unusedVariables false
set_option linter.unusedSimpArgs false
set_option linter.unusedSectionVars false
namespace Lg
open Go Go.RowKit
variable [GLay]
section sound
variable {P : Program} {N : Nat} {ops : Array Oper} {tb : Array Nat} {Q : Env → List AO → Prop} {B : AO} {L : Nat}
structure InvG (ops : Array Oper) (N f : Nat) (E : Nat → Env) (H : Bool → Nat → List AO) (val : Nat → AV) (kd : Nat → Kd) (s0 : CS) (listed : Array Bool) (a : Act) (w : World) : Prop where
  size : listed.size = ops.size
  dn : ∀ j o, ops[j]? = some o → listed.getD j false = true → ∀ ed ∈ o.after.toList, Region.binds .any ed = true → listed.getD ed.on false = true
  st : ∃ s q, s.w = w ∧ Good s ∧ Ext s0 s ∧ q ≤ ops.size ∧ (∀ j, j < q → kd j = .eff → listed.getD j false = true) ∧ (q < ops.size → kd q = .eff ∧ listed.getD q false = false) ∧ s.σ = H (listed.getD f false) q ∧
    a.tmps.size = N ∧ DefOK s (E 0).D a.defers ∧ ∀ t, V s (preA ops (E 0) val (fun j => listed.getD j false) ops.size t) (a.eval (.tmp t))
theorem InvG.way {f : Nat} {E : Nat → Env} {H : Bool → Nat → List AO} {val : Nat → AV} {kd : Nat → Kd} {s0 : CS} {listed : Array Bool} {a : Act} {w : World} (c : Chk ops tb) (h : InvG ops N f E H val kd s0 listed a w) :
    ∀ (j : Nat) (o : Oper), ops[j]? = some o → (∀ ed ∈ o.after.toList, Region.binds .any ed = true → listed.getD ed.on false = true) → ∀ i, i < ops.size → befB tb i j = true → listed.getD i false = true := by
  intro j
  induction j using Nat.strongRecOn with
  | _ j ih =>
    intro o ho hdeps i hi hb
    obtain ⟨ed, hed, hbd, h1⟩ := c.way i j o ho hi hb
    have hon := hdeps ed hed hbd
    rcases h1 with h1 | h1
    · rw [← h1]; exact hon
    · have hlt := (c.edge j o ho ed hed hbd).1
      have hjn : ed.on < ops.size := by have := (Array.getElem?_eq_some_iff.1 ho).1; omega
      have ho' := Array.getElem?_eq_getElem hjn
      exact ih ed.on hlt _ ho' (h.dn ed.on _ ho' hon) i hi h1
theorem TrG.step {i0 f : Nat} {E : Nat → Env} {H : Bool → Nat → List AO} {val : Nat → AV} {kd : Nat → Kd} (ht : TrG P N ops tb B L Q i0 f E H val kd) : ∀ i, i0 ≤ i → i < ops.size → ∃ o, ops[i]? = some o ∧ (∀ d, o.dst = some d → d < N) ∧ E (i + 1) = (E i).put o.dst (val i) ∧ GuardA ops N (E i) o true := fun i h0 hi => by
  rcases Nat.lt_trichotomy i f with h | h | h
  · obtain ⟨o, a1, a2, a3, a4, _⟩ := ht.pre i h0 h; exact ⟨o, a1, a2, a3, a4⟩
  · subst h; obtain ⟨o, a1, a2, a3, a4, _⟩ := ht.flt; exact ⟨o, a1, a2, a3, a4⟩
  · obtain ⟨o, a1, a2, a3, a4, _⟩ := ht.tail i h hi; exact ⟨o, a1, a2, a3, a4⟩
theorem TrG.hconst {i0 f : Nat} {E : Nat → Env} {H : Bool → Nat → List AO} {val : Nat → AV} {kd : Nat → Kd} (ht : TrG P N ops tb B L Q i0 f E H val kd) (z : Bool) : ∀ (b a : Nat), i0 ≤ a → a ≤ b → b ≤ ops.size → (∀ j, a ≤ j → j < b → kd j ≠ .eff) → H z a = H z b
  | 0, a, _, h, _, _ => by have : a = 0 := by omega
                           subst this; rfl
  | b + 1, a, h0, h, hb, hk => by
    by_cases e : a = b + 1
    · subst e; rfl
    · have ih := ht.hconst z b a h0 (by omega) (by omega) (fun j h1 h2 => hk j h1 (by omega))
      have hkb := hk b (by omega) (by omega)
      have : H z (b + 1) = H z b := by
        rcases Nat.lt_trichotomy b f with h1 | h1 | h1
        · obtain ⟨o, _, _, _, _, hc⟩ := ht.pre b (by omega) h1
          rcases hc with ⟨_, h2, _⟩ | ⟨h2, _⟩
          · exact (h2 z).2
          · exact absurd h2 hkb
        · subst h1
          obtain ⟨o, _, _, _, _, _, h2, _⟩ := ht.flt
          exact h2 z
        · obtain ⟨o, _, _, _, _, h2, _⟩ := ht.tail b h1 (by omega)
          exact absurd h2 hkb
      rw [ih, this]
end sound
end Lg
namespace Lg
open Go Go.RowKit
variable [GLay]
section
variable {P : Program} {N : Nat} {σ l : List AO} {e : Env} {o : Oper} {Q : QA}
end
section
variable {P : Program} {N : Nat} {ops : Array Oper} {tb : Array Nat} {B : AO} {L : Nat} {QR : Env → List AO → Prop} {i : Nat} {D : List (FuncId × List AV)} {el : List (Nat × AV)} {σ : Bool → List AO} {past : List (Nat × (Bool → List AO))} {held : List (Nat × (List AO → Prop))} {o : Oper} {v : AV} {d : Nat}
end
end Lg
namespace Lg
open Go Go.RowKit
variable [GLay]
section
variable {P : Program} {N : Nat} {e : Env} {σ : List AO} {Q : QA}
end
end Lg
namespace Lg
open Go Go.RowKit
variable [GLay]
section
variable {P : Program} {N : Nat} {σ l : List AO} {e : Env} {Q : QA}
theorem AWp_arrLe {c : Code} (q : Nat) {sz gg : Nat} {bs bs' : List AV} (hq : σ[q]? = some (.arr sz gg bs)) (hb0 : bs ≠ []) (hle : AVleL bs bs') (k : AWp P N c e (σ.set q (.arr sz gg bs')) Q) : AWp P N c e σ Q := fun s0 s a hs g x he => by
  subst hs
  have hrep := g.obj q _ hq
  have hne : (s.μ q).tot ≠ 0 := by
    rcases hrep with ⟨_, h⟩ | ⟨h, _⟩
    · exact absurd h hb0
    · exact h
  have hlive : s.live q := by unfold CS.live; rw [hq]; exact hne
  obtain ⟨_, vs, T, hb, hp⟩ := g.rep hq hlive
  have hnew : RepW s (s.μ q) vs T (.arr sz gg bs') := ⟨hp.1, hp.2.1, by have := hp.2.2.1; rw [← hle.len]; exact this, by have := hle.pw hp.2.2.2; rw [← hle.len]; exact this⟩
  obtain ⟨s2, f1, f2, g2, x2, _⟩ := g.setObj hq hlive (o' := .arr sz gg bs') (.arr _ _ _ _ _ (Nat.le_refl _) (fun _ => hle.len)) rfl (hnew.any rfl)
  have hw : s2.w = s.w := by rw [f2, setRow_self _ _ _ _ _ hb]
  have := k s0 s2 a f1 g2 (x.trans x2) (he.mono g x2)
  rwa [hw] at this
theorem AWp_arrLeO {c : Code} (k : Nat) {sz gg : Nat} {bs bs' : List AV} (hq : l[k]? = some (.arr sz gg bs)) (hb0 : bs ≠ []) (hle : AVleL bs bs') (h : AWp P N c e (σ ++ l.set k (.arr sz gg bs')) Q) : AWp P N c e (σ ++ l) Q :=
  AWp_arrLe (σ.length + k) (by rw [get_ownT rfl]; exact hq) hb0 hle (by rw [set_ownT rfl]; exact h)
theorem op_storeEl1 {o : Oper} {T : TypeId} {x y : Operand} {j g sz off i : Nat} {cs : List AV} {b : AV} (ho : o.op = .store T x y) (hz : ∀ w, (Go.sizeOf T).run P w = Result.ok 1 w) (hy : opO e y = some b) (hbc : b.cells = [b]) (h1 : ones [b] = true) (hx : opO e x = some (.pel (σ.length + j) g off)) (hoff : off = i)
    (hl : l[j]? = some (.arr sz g cs)) (hi : i < cs.length) : AOp P (σ ++ l) e o .any (σ ++ l.set j (.arr sz g (cs.set i b))) := by
  subst hoff
  have e1 := opO_eq hy
  have := op_store (P := P) (σ := σ ++ l) (e := e) (p := σ.length + j) (O := .arr sz g (cs.set off b)) ho hz (by rw [e1, hbc]; rfl) (by rw [e1, hbc]; exact h1) (by
    rw [e1, hbc, opO_eq hx]
    show stv (σ ++ l) [b] (.pel (σ.length + j) g off) = _
    simp only [stv, get_own, hl, if_true, spl_set _ _ _ hi, Option.map_some]) (by decide)
  rw [set_own] at this
  exact this
end
end Lg
namespace Lg
open Go Go.RowKit
variable [GLay]
theorem ResQ_KN {n0 : Nat} {el : List (Nat × AV)} {σ : List AO} {R : Out → List AO → Prop} (m : Nat) (hm : n0 ≤ m) (hc : closed m σ) (hR : R (.ret (.tup [])) (σ.take m)) : ResQ n0 [] R .normal ⟨[], el⟩ σ :=
  ⟨rfl, m, hm, hc, trivial, hR⟩
theorem ResQ_KR {n0 : Nat} {el : List (Nat × AV)} {σ : List AO} {R : Out → List AO → Prop} (m : Nat) (hm : n0 ≤ m) (hc : closed m σ) (hR : R (.ret (.tup [])) (σ.take m)) : ResQ n0 [] R .ret ⟨[], el⟩ σ :=
  ⟨rfl, m, hm, hc, trivial, hR⟩
end Lg
set_option maxRecDepth 20000
set_option maxHeartbeats 4000000
namespace Lg
open Go Go.Proofs Go.RowKit
variable [GLay] 
theorem drop_consN {α : Type} {l : List α} {i : Nat} {x : α} (h : l[i]? = some x) : l.drop i = x :: l.drop (i + 1) := by
  have hi := (List.getElem?_eq_some_iff.1 h).1
  rw [List.drop_eq_getElem_cons hi]; congr 1
  have := List.getElem?_eq_getElem hi
  rw [h] at this; exact (Option.some.inj this).symm
theorem rpath1_c (nm : ByteArray) (σ : List AO) (h : nm.size ≤ 1000000) : ACalls Tryd.prog 21 [.sl true 1 [[.str nm]]] σ (Ret (.str (pth nm)) σ) := by
  have hz : nm.data.toList.length = nm.size := Array.length_toList ..
  have h1 := rpath_c true [nm.data.toList] σ (by show 1 ≤ 2000000; decide) (by intro x hx; rw [List.mem_singleton.1 hx]; omega)
  rw [show srow [nm.data.toList] = [[.str nm]] by simp [srow, ← ba_eta]] at h1
  exact h1
theorem call_suf {P : Program} {f : FuncId} {args : List AV} {σ ρ : List AO} {a b a' b' : AO} {v : AV} (h : ACalls P f args (σ ++ [a, b]) (Ret v (σ ++ [a', b']))) (hc0 : closed σ.length σ) (ha : AV.ltL (σ.length + 2) a.cells) (hb : AV.ltL (σ.length + 2) b.cells) (hx : AV.ltL (σ.length + 2) args) : ACalls P f args (σ ++ (a :: b :: ρ)) (Ret v (σ ++ (a' :: b' :: ρ))) := by
  have e : (σ ++ [a, b]).length = σ.length + 2 := by simp
  have h1 := ACalls_suf (ρ := ρ) h (by rw [e]; exact closed_own 2 hc0 (by simp [ownLt]; exact ⟨ha, hb⟩)) (by rw [e]; exact hx) (by simp)
  simpa using h1
theorem node_s (n : Nat) (ih : ∀ (v : JV) (path : ByteArray) (m : MS) (σ : List AO), closed σ.length σ → jsize v ≤ n → jb v → path.size + 4000010 * (jsize v).toNat ≤ 100000000000 → m.l.length ≤ 200 → ACalls Tryd.prog 15 [.ptr (σ.length + 0) 0, .str path, .agg (vcells v)] (σ ++ [.box [.arr (σ.length + 1) m.l.length 4 0 m.l.length, .int .i64 m.bad, .str m.path], .arr 4 m.l.length (noder m.l).flatten]) (Ret (.tup []) (σ ++ [.box [.arr (σ.length + 1) (rnd n path v m).l.length 4 0 (rnd n path v m).l.length, .int .i64 (rnd n path v m).bad, .str (rnd n path v m).path], .arr 4 (rnd n path v m).l.length (noder (rnd n path v m).l).flatten]))) (v : JV) (path : ByteArray) (m : MS) (σ : List AO) (hc0 : closed σ.length σ) (hn : jsize v ≤ n + 1) (hjb : jb v) (hps : path.size + 4000010 * (jsize v).toNat ≤ 100000000000) (hml : m.l.length ≤ 200) : ACalls Tryd.prog 15 [.ptr (σ.length + 0) 0, .str path, .agg (vcells v)] (σ ++ [.box [.arr (σ.length + 1) m.l.length 4 0 m.l.length, .int .i64 m.bad, .str m.path], .arr 4 m.l.length (noder m.l).flatten]) (Ret (.tup []) (σ ++ [.box [.arr (σ.length + 1) (rnd (n + 1) path v m).l.length 4 0 (rnd (n + 1) path v m).l.length, .int .i64 (rnd (n + 1) path v m).bad, .str (rnd (n + 1) path v m).path], .arr 4 (rnd (n + 1) path v m).l.length (noder (rnd (n + 1) path v m).l).flatten])) := by
 refine ACalls_body Tryd.func15 rfl Tryd.ntmps15 (res0 Tryd.results15) (Nat.le_of_ble_eq_true rfl) (fun hcl hal => ?_)
 rw [vcells_eq v]
 obtain ⟨hb1, hb2, hb3, hb4, hb5, hb6⟩ := (jb_eq v).1 hjb
 have hvs := jsize_eq v
 have hv1 := jsize_pos v
 have hl0 := lsize_nn v.l
 have hmn := mcells_length v.m
 have hnl := noder_len m.l
 have hnf := nflat_len m.l
 refine zw1 ?_
 refine AWp_seq ?_
 refine zw5 ?_
 refine AWp_cond rfl (fun h1 => ?_) (fun h1 => ?_)
 ·(try rw [h1]); replace h1 := zcl h1
  refine zrt ?_
  refine ResQ_KR (σ.length + 2) (by simp) (closed_own 2 hc0 ?_) ⟨rfl, ?_⟩
  ·simp [ownLt, AO.cells, AV.ltL, AV.lt]
  ·rw [rnd_b h1]; exact take_own 2
 ·(try rw [h1]); replace h1 := zcl h1
  refine AWp_skip ?_
  refine zu4 ?_
  refine zt rfl (op_lenS rfl rfl Tryd.underlying31 rfl rfl ⟨_, _, (get_own 1).trans rfl⟩) ?_
  refine zv1 ?_
  refine AWp_seq ?_
  refine zw2 ?_
  refine AWp_cond rfl (fun h2 => ?_) (fun h2 => ?_)
  ·(try rw [h2]); replace h2 := zcl h2
   refine zw4 ?_
   refine zw5 ?_
   refine zrt ?_
   refine ResQ_KR (σ.length + 2) (by simp) (closed_own 2 hc0 ?_) ⟨rfl, ?_⟩
   ·simp [ownLt, AO.cells, AV.ltL, AV.lt]
   ·rw [rnd_m h1 (by omega)]; exact take_own 2
  ·(try rw [h2]); replace h2 := zcl h2
   have h2 : ¬ m.l.length = 200 := by omega
   refine AWp_skip ?_
   refine AWp_seq ?_
   refine AWp_drawL #[0, 0, 2, 6, 14, 0, 0, 64, 192, 0, 512, 2016, 4064, 8190, 16383, 32767, 65535] Tryd.mixed (by decide +kernel) (by decide +kernel) ?_
   refine zd4 ?_
   refine zp1 ?_
   refine zd2 ?_
   refine zp1 ?_
   refine zd2 ?_
   refine zp1 ?_
   refine zd1 ?_
   refine yA rfl rfl (fun _ => op_buildSlice [[_, _, _, _]] rfl Tryd.underlying31 Tryd.sizeOf45 Tryd.zeroValue45 rfl (by decide) (by decide) rfl rfl rfl rfl rfl) ?_
   refine yE rfl rfl (op_appendArrT rfl 1 (sz := 4) (m := 1) (len := m.l.length) (cs := _) rfl (.inr ⟨_, rfl⟩) Tryd.underlying31 Tryd.underlying31 Tryd.type45 rfl rfl rfl (by decide) rfl rfl hnf.symm rfl rfl rfl (by show (m.l.length + 1) * 48 ≤ _; omega) (by omega) rfl) (⟨.inl rfl, ⟨.inl rfl, ⟨.inl rfl, trivial⟩⟩⟩) (trivial) ?_
   refine zd2 ?_
   refine yEN rfl rfl rfl (op_storeO (r := [.arr (σ.length + 1) (m.l.length + 1) 4 0 (m.l.length + 1), .int .i64 m.bad, .str m.path]) rfl Tryd.sizeOf31 rfl rfl rfl rfl rfl (by decide)) (⟨.inl rfl, ⟨.inl rfl, ⟨.inl rfl, trivial⟩⟩⟩) (⟨rfl, trivial⟩) ?_
   refine RP.nil rfl ?_
   refine zw1 ?_
   refine AWp_seq ?_
   refine zw1 ?_
   refine AWp_block ?_
   -- loop 0 LIVE 0:param 1:param 5:box 6:assign 7:assign 8:assign
   have hm1 : (m1 m path v).l.length = m.l.length + 1 := by simp [m1]
   refine AWp_arrLeO 1 (bs' := (noder (m1 m path v).l).flatten) rfl (by simp) (by show AVleL _ (noder (m.l ++ [_])).flatten; rw [noder_snoc]; exact AVleL.append (AVleL.refl _) ⟨AVle.refl _, AVle.refl _, AVle.refl _, AVle.nils false 10, trivial⟩) ?_
   refine AWp_ghostTO 7 10 3 rfl rfl ?_ (by decide)
   refine AWp_heap (σ' := σ ++ [.box [.arr (σ.length + 1) (m1 m path v).l.length 4 0 (m1 m path v).l.length, .int .i64 (m1 m path v).bad, .str (m1 m path v).path], .arr 4 (m1 m path v).l.length (noder (m1 m path v).l).flatten, .box [.int .i64 v.kind, .bool v.b, .bool v.n.neg, .str v.n.digits, .int .i64 v.n.exp, .str v.s, .sl false 8 (lcells v.l), .sl false 9 (mcells v.m)], .arr 10 ([] : List JKey).length (keyr ([] : List JKey)).flatten]) (by rw [hm1]; rfl) ?_
   refine AWp_loop (ι := Nat × List JKey × MS) (fun z => z.1 ≤ v.m.length ∧ rmems (rnd n) path (v.m.drop z.1) z.2.1 z.2.2 = rmems (rnd n) path v.m [] (m1 m path v) ∧ m.l.length < z.2.2.l.length ∧ z.2.2.l.length ≤ 200 ∧ z.2.1.length ≤ z.1) (fun z => ⟨[], [(0, .ptr (σ.length + 0) 0), (1, .str path), (5, .ptr (σ.length + 2) 0), (6, .int .i64 (m.l.length : Int)), (7, .arr (σ.length + 3) z.2.1.length 10 0 z.2.1.length), (8, .int .i64 (z.1 : Int))]⟩) (fun z => σ ++ [.box [.arr (σ.length + 1) z.2.2.l.length 4 0 z.2.2.l.length, .int .i64 z.2.2.bad, .str z.2.2.path], .arr 4 z.2.2.l.length (noder z.2.2.l).flatten, .box [.int .i64 v.kind, .bool v.b, .bool v.n.neg, .str v.n.digits, .int .i64 v.n.exp, .str v.s, .sl false 8 (lcells v.l), .sl false 9 (mcells v.m)], .arr 10 z.2.1.length (keyr z.2.1).flatten]) (fun z => v.m.length - z.1) ((0, [], m1 m path v)) (⟨Nat.zero_le _, by rw [List.drop_zero], by simp only; omega, by simp only; omega, Nat.le_refl _⟩) ?_ rfl (fun z hz => ?_)
   ·exact ⟨rfl, rfl, rfl, rfl, rfl, rfl, rfl, trivial⟩
   obtain ⟨i, ks, u⟩ := z
   obtain ⟨hi1, hi2, hi3, hi4, hi5⟩ := hz
   simp only at hi1 hi2 hi3 hi4 hi5 ⊢
   refine AWp_seq ?_
   refine zu6 ?_
   refine zsp 57 rfl (fun h3 => ?_) fun h3 => ?_
   ·rw [h3]; replace h3 := zcl h3
    refine zv6 ?_
    refine AWp_cond rfl (fun h4 => ?_) (fun h4 => ?_)
    ·(try rw [h4]); replace h4 := zcl h4
     obtain ⟨q, hq⟩ : ∃ q, v.m[i]? = some q := ⟨_, List.getElem?_eq_getElem (show i < v.m.length by omega)⟩
     rw [drop_consN hq] at hi2
     have hqb := mb_get hb6 hq
     have hqj := (jb_eq q.2).1 hqb.2
     have hxs := msize_mem hq
     have hq1 := jsize_pos q.2
     have hpz := pth_size q.1
     have hyf := yflat_len ks
     refine AWp_skip ?_
     refine AWp_seq ?_
     refine AWp_block ?_
     refine zw7 ?_
     refine zu2 ?_
     refine zt rfl (op_buildSlice [[_]] rfl Tryd.underlying65 Tryd.sizeOf9 Tryd.zeroValue9 rfl (by decide) (by decide) rfl rfl rfl rfl rfl) ?_
     refine zt rfl (zc rfl (rpath1_c q.1 _ hqb.1)) ?_
     refine zv2 ?_
     refine zu6 ?_
     rw [vcells_eq q.2]
     refine zg1 ?_
     refine zt rfl (zc rfl (vcells_eq q.2 ▸ rshape_c q.1 q.2 _ (by omega) (by omega))) ?_
     refine zv1 ?_
     refine AWp_seq ?_
     refine zw2 ?_
     refine AWp_cond rfl (fun h5 => ?_) (fun h5 => ?_)
     ·(try rw [h5]); replace h5 := zcl h5
      refine zw5 ?_
      refine zw5 ?_
      refine zrt ?_
      have hfin := hi2.symm.trans (rmems_sq h4 h5)
      refine ResQ_KR (σ.length + 2) (by simp) (closed_own 2 hc0 ?_) ⟨rfl, ?_⟩
      ·simp [ownLt, AO.cells, AV.ltL, AV.lt]
      ·rw [rnd_t h1 h2 hfin]; exact take_own 2
     ·(try rw [h5]); replace h5 := zcl h5
      have hkl := kids_len (n := q.1) hqb.2
      have hmk := mcells_length (kidsM q.1 q.2)
      have hpu : (path ++ pth q.1).size = path.size + (pth q.1).size := ByteArray.size_append ..
      refine AWp_skip ?_
      refine zu6 ?_
      rw [vcells_eq q.2]
      refine zv4 ?_
      refine zu6 ?_
      rw [vcells_eq q.2]
      refine zg1 ?_
      refine zt rfl (zc rfl (vcells_eq q.2 ▸ rkids_c q.1 q.2 _ (by omega))) ?_
      refine zv1 ?_
      refine zu1 ?_
      refine zt rfl (zc rfl (rsingle_c q.1 _)) ?_
      refine zv1 ?_
      refine AWp_seq ?_
      refine AWp_seq ?_
      refine AWp_ghostInO 4 9 2 5 rfl rfl rfl ?_
      refine AWp_regL ?_
      refine zv1 ?_
      refine AWp_block ?_
      -- loop 1 LIVE 0:param 6:assign 7:assign 8:assign 10:assign 12:alloc 13:assign 14:assign 15:assign
      refine AWp_loop (ι := Nat × List JKid × MS) (fun y => y.1 ≤ (kidsM q.1 q.2).length ∧ (y.2.1 ++ (rkids (rnd n) (path ++ pth q.1) (decide (rk q.1 = 8)) ((kidsM q.1 q.2).drop y.1) y.2.2).1, (rkids (rnd n) (path ++ pth q.1) (decide (rk q.1 = 8)) ((kidsM q.1 q.2).drop y.1) y.2.2).2) = rkids (rnd n) (path ++ pth q.1) (decide (rk q.1 = 8)) (kidsM q.1 q.2) u ∧ u.l.length ≤ y.2.2.l.length ∧ y.2.2.l.length ≤ 200 ∧ y.2.1.length = y.1) (fun y => ⟨[], [(0, .ptr (σ.length + 0) 0), (1, .str path), (5, .ptr (σ.length + 2) 0), (6, .int .i64 (m.l.length : Int)), (7, .arr (σ.length + 3) ks.length 10 0 ks.length), (8, .int .i64 (i : Int)), (9, .str q.1), (10, .str (path ++ pth q.1)), (12, .ptr (σ.length + 4) 0), (13, .sl false 9 (mcells (kidsM q.1 q.2))), (14, .bool (decide (rk q.1 = 8))), (15, .int .i64 (y.1 : Int))]⟩) (fun y => σ ++ [.box [.arr (σ.length + 1) y.2.2.l.length 4 0 y.2.2.l.length, .int .i64 y.2.2.bad, .str y.2.2.path], .arr 4 y.2.2.l.length (noder y.2.2.l).flatten, .box [.int .i64 v.kind, .bool v.b, .bool v.n.neg, .str v.n.digits, .int .i64 v.n.exp, .str v.s, .sl false 8 (lcells v.l), .sl false 9 (mcells v.m)], .arr 10 ks.length (keyr ks).flatten, .box [.str q.1, .int .i64 q.2.kind, .bool q.2.b, .bool q.2.n.neg, .str q.2.n.digits, .int .i64 q.2.n.exp, .str q.2.s, .sl false 8 (lcells q.2.l), .sl false 9 (mcells q.2.m), .arr (σ.length + 5) y.1 2 0 y.1], .arr 2 y.1 (kidr y.2.1).flatten]) (fun y => (kidsM q.1 q.2).length - y.1) ((0, [], u)) (⟨Nat.zero_le _, by simp, Nat.le_refl _, hi4, rfl⟩) ?_ rfl (fun y hy => ?_)
      ·exact ⟨rfl, rfl, rfl, rfl, rfl, rfl, rfl, rfl, rfl, rfl, rfl, rfl, rfl, trivial⟩
      obtain ⟨j, kd, w⟩ := y
      obtain ⟨hy1, hy2, hy3, hy4, hy5⟩ := hy
      simp only at hy1 hy2 hy3 hy4 hy5 ⊢
      refine AWp_seq ?_
      refine zw4 ?_
      refine AWp_cond rfl (fun h6 => ?_) (fun h6 => ?_)
      ·(try rw [h6]); replace h6 := zcl h6
       obtain ⟨k, hk⟩ : ∃ k, (kidsM q.1 q.2)[j]? = some k := ⟨_, List.getElem?_eq_getElem (show j < (kidsM q.1 q.2).length by omega)⟩
       rw [drop_consN hk] at hy2
       have hkb := kids_jb hqb.2 hk
       have hks := kids_ks hqb.2 hk
       have hkz := pth_size k.1
       have hk1 := jsize_pos k.2
       have hdf : (kidr kd).flatten.length = j * 2 := by rw [dflat_len, hy5]
       have hnx : (if (decide (rk q.1 = 8)) = true then (path ++ pth q.1) else (path ++ pth q.1) ++ pth k.1).size + 4000010 * (jsize k.2).toNat ≤ 100000000000 := by
        have e1 : (if (decide (rk q.1 = 8)) = true then (path ++ pth q.1) else (path ++ pth q.1) ++ pth k.1).size ≤ path.size + (2 * q.1.size + 1) + (2 * k.1.size + 1) := by
         split
         ·omega
         ·rw [ByteArray.size_append]; omega
        omega
       refine AWp_skip ?_
       refine AWp_seq ?_
       refine AWp_block ?_
       refine zw2 ?_
       refine AWp_join (ι := Unit) (fun b => True) (fun b => ⟨[], [(0, .ptr (σ.length + 0) 0), (1, .str path), (5, .ptr (σ.length + 2) 0), (6, .int .i64 (m.l.length : Int)), (7, .arr (σ.length + 3) ks.length 10 0 ks.length), (8, .int .i64 (i : Int)), (9, .str q.1), (10, .str (path ++ pth q.1)), (12, .ptr (σ.length + 4) 0), (13, .sl false 9 (mcells (kidsM q.1 q.2))), (14, .bool (decide (rk q.1 = 8))), (15, .int .i64 (j : Int)), (16, .str (if (decide (rk q.1 = 8)) = true then (path ++ pth q.1) else (path ++ pth q.1) ++ pth k.1))]⟩) (fun b => σ ++ [.box [.arr (σ.length + 1) w.l.length 4 0 w.l.length, .int .i64 w.bad, .str w.path], .arr 4 w.l.length (noder w.l).flatten, .box [.int .i64 v.kind, .bool v.b, .bool v.n.neg, .str v.n.digits, .int .i64 v.n.exp, .str v.s, .sl false 8 (lcells v.l), .sl false 9 (mcells v.m)], .arr 10 ks.length (keyr ks).flatten, .box [.str q.1, .int .i64 q.2.kind, .bool q.2.b, .bool q.2.n.neg, .str q.2.n.digits, .int .i64 q.2.n.exp, .str q.2.s, .sl false 8 (lcells q.2.l), .sl false 9 (mcells q.2.m), .arr (σ.length + 5) j 2 0 j], .arr 2 j (kidr kd).flatten]) ?_ (fun b hj => ?_)
       ·skip
        refine zw2 ?_
        refine AWp_cond rfl (fun h7 => ?_) (fun h7 => ?_)
        ·(try rw [h7]); replace h7 := zcl h7
         refine AWp_regL ?_
         refine zg6 ?_
         refine zt rfl (op_buildSlice [[_]] rfl Tryd.underlying65 Tryd.sizeOf9 Tryd.zeroValue9 rfl (by decide) (by decide) rfl rfl rfl rfl rfl) ?_
         refine zt rfl (zc rfl (rpath1_c k.1 _ hks)) ?_
         refine zv2 ?_
         have hg : ¬ (decide (rk q.1 = 8)) = true := by simpa using h7
         rw [if_neg hg]
         exact ⟨(), trivial, ⟨rfl, rfl, rfl, rfl, rfl, rfl, rfl, rfl, rfl, rfl, rfl, rfl, rfl, rfl, trivial⟩, rfl⟩
        ·(try rw [h7]); replace h7 := zcl h7
         refine AWp_skip ?_
         have hg : (decide (rk q.1 = 8)) = true := by simpa using h7
         rw [if_pos hg]
         exact ⟨(), trivial, ⟨rfl, rfl, rfl, rfl, rfl, rfl, rfl, rfl, rfl, rfl, rfl, rfl, rfl, rfl, trivial⟩, rfl⟩
       ·skip
        refine AWp_seq ?_
        refine AWp_drawL #[0, 1, 0, 0, 12, 28, 60, 0, 128, 384, 896, 1920, 4092, 8188, 16383, 32767, 65535] Tryd.mixed (by decide +kernel) (by decide +kernel) ?_
        refine zd1 ?_
        refine zp1 ?_
        refine zd4 ?_
        refine zp1 ?_
        refine zd3 ?_
        refine zp1 ?_
        refine yP rfl rfl (op_lenS rfl rfl Tryd.underlying31 rfl rfl ⟨_, _, (get_own 1).trans rfl⟩) (trivial) ?_
        refine zd1 ?_
        refine yA rfl rfl (fun _ => op_buildSlice [[_, _]] rfl Tryd.underlying46 Tryd.sizeOf50 Tryd.zeroValue50 rfl (by decide) (by decide) rfl rfl rfl rfl rfl) ?_
        refine yE rfl rfl (op_appendArrT rfl 5 (sz := 2) (m := 1) (len := j) (cs := _) rfl (.inr ⟨_, rfl⟩) Tryd.underlying46 Tryd.underlying46 Tryd.type50 rfl rfl rfl (by decide) rfl rfl hdf.symm rfl rfl rfl (by show (j + 1) * 24 ≤ _; omega) (by omega) rfl) (⟨.inl rfl, ⟨.inl rfl, ⟨.inl rfl, ⟨.inl rfl, trivial⟩⟩⟩⟩) (trivial) ?_
        refine zd1 ?_
        refine yEN rfl rfl rfl (op_storeO (r := [.str q.1, .int .i64 q.2.kind, .bool q.2.b, .bool q.2.n.neg, .str q.2.n.digits, .int .i64 q.2.n.exp, .str q.2.s, .sl false 8 (lcells q.2.l), .sl false 9 (mcells q.2.m), .arr (σ.length + 5) (j + 1) 2 0 (j + 1)]) rfl Tryd.sizeOf46 rfl rfl rfl rfl rfl (by decide)) (⟨.inl rfl, ⟨.inl rfl, ⟨.inl rfl, ⟨.inl rfl, trivial⟩⟩⟩⟩) (⟨rfl, trivial⟩) ?_
        refine RP.nil rfl ?_
        refine AWp_heap (σ' := σ ++ [.box [.arr (σ.length + 1) w.l.length 4 0 w.l.length, .int .i64 w.bad, .str w.path], .arr 4 w.l.length (noder w.l).flatten, .box [.int .i64 v.kind, .bool v.b, .bool v.n.neg, .str v.n.digits, .int .i64 v.n.exp, .str v.s, .sl false 8 (lcells v.l), .sl false 9 (mcells v.m)], .arr 10 ks.length (keyr ks).flatten, .box [.str q.1, .int .i64 q.2.kind, .bool q.2.b, .bool q.2.n.neg, .str q.2.n.digits, .int .i64 q.2.n.exp, .str q.2.s, .sl false 8 (lcells q.2.l), .sl false 9 (mcells q.2.m), .arr (σ.length + 5) (j + 1) 2 0 (j + 1)], .arr 2 (j + 1) (kidr (kd ++ [⟨k.1, (w.l.length : Int)⟩])).flatten]) (by rw [kidr_snoc]; rfl) ?_
        refine AWp_regL ?_
        refine zg6 ?_
        rw [vcells_eq k.2]
        refine zg1 ?_
        refine zt rfl (zc rfl (call_suf (vcells_eq k.2 ▸ ih k.2 (if (decide (rk q.1 = 8)) = true then (path ++ pth q.1) else (path ++ pth q.1) ++ pth k.1) w σ hc0 (by omega) hkb.1 hnx hy4) hc0 (by simp [AO.cells, AV.ltL, AV.lt]) (by simp [AO.cells]) (by simp [AV.ltL, AV.lt]))) ?_
        refine zon ?_
        refine AWp_regL ?_
        refine zv3 ?_
        have hro := rnd_ok n (if (decide (rk q.1 = 8)) = true then (path ++ pth q.1) else (path ++ pth q.1) ++ pth k.1) k.2 w hy4
        refine ⟨(j + 1, kd ++ [⟨k.1, (w.l.length : Int)⟩], rnd n (if (decide (rk q.1 = 8)) = true then (path ++ pth q.1) else (path ++ pth q.1) ++ pth k.1) k.2 w), σ.length + 6, ⟨by simp only; omega, ?_, by simp only; omega, hro.2, by simp only [List.length_append, List.length_singleton]; omega⟩, by simp only; omega, by simp, ⟨rfl, rfl, rfl, rfl, rfl, rfl, rfl, rfl, rfl, rfl, rfl, rfl, rfl, trivial⟩, closed_own 6 hc0 ?_, ?_, ?_⟩
        ·simp only; rw [← hy2, rkids_q]; simp
        ·simp [ownLt, AO.cells, AV.ltL, AV.lt, ltL_append]
        ·simp [ltE, AV.lt, AV.ltL]
        ·exact take_own 6
      ·(try rw [h6]); replace h6 := zcl h6
       refine AWp_exit ?_
       have hje : j = (kidsM q.1 q.2).length := by omega
       have hrk : rkids (rnd n) (path ++ pth q.1) (decide (rk q.1 = 8)) (kidsM q.1 q.2) u = (kd, w) := by rw [← hy2, hje, List.drop_length]; simp [rkids]
       refine AWp_freezeInO 4 9 5 j 2 j rfl rfl rfl (kidr kd) rfl (kidr_el _) (by rw [kidr_len]; exact hy5) (by decide) ?_
       refine AWp_regL ?_
       refine zg2 ?_
       refine zt rfl (op_buildSlice [[_, _, _, _, _, _, _, _, _, _]] rfl Tryd.underlying43 Tryd.sizeOf48 Tryd.zeroValue48 rfl (by decide) (by decide) rfl rfl rfl rfl rfl) ?_
       refine zt rfl (op_appendArrT rfl 3 (sz := 10) (m := 1) (len := ks.length) (cs := _) rfl (.inr ⟨_, rfl⟩) Tryd.underlying43 Tryd.underlying43 Tryd.type48 rfl rfl rfl (by decide) rfl rfl hyf.symm rfl rfl rfl (by show (ks.length + 1) * 152 ≤ _; omega) (by omega) rfl) ?_
       refine zv1 ?_
       refine AWp_regL ?_
       refine zv3 ?_
       refine ⟨(i + 1, ks ++ [⟨q.1, q.2, kd⟩], w), σ.length + 4, ⟨by simp only; omega, ?_, by simp only; omega, by simp only; omega, by simp only [List.length_append, List.length_singleton]; omega⟩, by simp only; omega, by simp, ⟨rfl, rfl, rfl, rfl, rfl, ?_, rfl, trivial⟩, closed_own 4 hc0 ?_, ?_, ?_⟩
       ·simp only; rw [← hi2, rmems_kq h4 h5 hrk]
       ·rw [List.length_append]; rfl
       ·simp [ownLt, AO.cells, AV.ltL, AV.lt, ltL_append]
       ·simp [ltE, AV.lt, AV.ltL]
       ·refine (take_own 4).trans ?_
        rw [keyr_snoc, keyc_eq, List.length_append]; rfl
    ·(try rw [h4]); replace h4 := zcl h4
     refine AWp_exit ?_
     refine AWp_freezeAO 7 3 ks.length 10 ks.length (keyr ks) rfl rfl (keyr_el _) (keyr_len _) (by decide) ?_ (by decide)
     have hul := noder_len u.l
     have hfin : rmems (rnd n) path v.m [] (m1 m path v) = (false, ks, u) := by
      rw [← hi2]; exact rmems_e (by first | exact .inr (by assumption) | exact .inl (List.drop_eq_nil_of_le (by omega)))
     refine AWp_regL ?_
     refine zg6 ?_
     refine zt rfl (op_indexAddrAO (j := 1) rfl Tryd.underlying31 Tryd.sizeOf45 rfl rfl (by omega) (by omega) rfl) ?_
     refine zt rfl (op_fieldAddrO (fo := 3) rfl Tryd.underlying45 rfl rfl Tryd.sizeOf43 (by decide) rfl ⟨_, _, get_own 1⟩) ?_
     refine ztN rfl rfl (op_storeEl1 (j := 1) (i := m.l.length * 4 + 3) rfl Tryd.sizeOf43 rfl rfl rfl rfl (by omega) rfl (by rw [nflat_len]; omega)) ?_
     refine zon ?_
     (try simp only [blockQ, thenQ])
     refine ResQ_KN (σ.length + 2) (by simp) (closed_own 2 hc0 ?_) ⟨rfl, ?_⟩
     ·simp [ownLt, AO.cells, AV.ltL, AV.lt]
      rw [setk_cells u.l m.l.length ks hi3]; exact nflat_lt _ _
     ·rw [rnd_f h1 h2 hfin]; refine (take_own 2).trans ?_
      rw [← setk_cells u.l m.l.length ks hi3, setk_len]; rfl
   ·rw [h3]; replace h3 := zcl h3
    refine zv6 ?_
    refine AWp_condF rfl ?_
    refine AWp_exit ?_
    refine AWp_freezeAO 7 3 ks.length 10 ks.length (keyr ks) rfl rfl (keyr_el _) (keyr_len _) (by decide) ?_ (by decide)
    have hul := noder_len u.l
    have hfin : rmems (rnd n) path v.m [] (m1 m path v) = (false, ks, u) := by
     rw [← hi2]; exact rmems_e (by first | exact .inr (by assumption) | exact .inl (List.drop_eq_nil_of_le (by omega)))
    refine AWp_regL ?_
    refine zg6 ?_
    refine zt rfl (op_indexAddrAO (j := 1) rfl Tryd.underlying31 Tryd.sizeOf45 rfl rfl (by omega) (by omega) rfl) ?_
    refine zt rfl (op_fieldAddrO (fo := 3) rfl Tryd.underlying45 rfl rfl Tryd.sizeOf43 (by decide) rfl ⟨_, _, get_own 1⟩) ?_
    refine ztN rfl rfl (op_storeEl1 (j := 1) (i := m.l.length * 4 + 3) rfl Tryd.sizeOf43 rfl rfl rfl rfl (by omega) rfl (by rw [nflat_len]; omega)) ?_
    refine zon ?_
    (try simp only [blockQ, thenQ])
    refine ResQ_KN (σ.length + 2) (by simp) (closed_own 2 hc0 ?_) ⟨rfl, ?_⟩
    ·simp [ownLt, AO.cells, AV.ltL, AV.lt]
     rw [setk_cells u.l m.l.length ks hi3]; exact nflat_lt _ _
    ·rw [rnd_f h1 h2 hfin]; refine (take_own 2).trans ?_
     rw [← setk_cells u.l m.l.length ks hi3, setk_len]; rfl
end Lg
set_option maxRecDepth 20000
set_option maxHeartbeats 4000000
namespace Lg
open Go Go.Proofs Go.RowKit
variable [GLay] 
theorem node_any : ∀ (n : Nat) (v : JV) (path : ByteArray) (m : MS) (σ : List AO), closed σ.length σ → jsize v ≤ n → jb v → path.size + 4000010 * (jsize v).toNat ≤ 100000000000 → m.l.length ≤ 200 → ACalls Tryd.prog 15 [.ptr (σ.length + 0) 0, .str path, .agg (vcells v)] (σ ++ [.box [.arr (σ.length + 1) m.l.length 4 0 m.l.length, .int .i64 m.bad, .str m.path], .arr 4 m.l.length (noder m.l).flatten]) (Ret (.tup []) (σ ++ [.box [.arr (σ.length + 1) (rnd n path v m).l.length 4 0 (rnd n path v m).l.length, .int .i64 (rnd n path v m).bad, .str (rnd n path v m).path], .arr 4 (rnd n path v m).l.length (noder (rnd n path v m).l).flatten]))
  | 0, v, path, m, σ, hc, hn, _, _, _ => by have := jsize_pos v; omega
  | n + 1, v, path, m, σ, hc, hn, hjb, hps, hml => node_s n (node_any n) v path m σ hc (by omega) hjb hps hml
theorem node_at (a : AO) (v : JV) (path : ByteArray) (m : MS) (σ : List AO) (hc : closed σ.length σ) (ha : AV.ltL (σ.length + 1) a.cells) (hjb : jb v) (hps : path.size + 4000010 * (jsize v).toNat ≤ 100000000000) (hml : m.l.length ≤ 200) : ACalls Tryd.prog 15 [.ptr (σ.length + 1) 0, .str path, .agg (vcells v)] (σ ++ [a, .box [.arr (σ.length + 2) m.l.length 4 0 m.l.length, .int .i64 m.bad, .str m.path], .arr 4 m.l.length (noder m.l).flatten]) (Ret (.tup []) (σ ++ [a, .box [.arr (σ.length + 2) (rnd (jsize v).toNat path v m).l.length 4 0 (rnd (jsize v).toNat path v m).l.length, .int .i64 (rnd (jsize v).toNat path v m).bad, .str (rnd (jsize v).toNat path v m).path], .arr 4 (rnd (jsize v).toNat path v m).l.length (noder (rnd (jsize v).toNat path v m).l).flatten])) := by
  have hj := jsize_pos v
  have h := node_any (jsize v).toNat v path m (σ ++ [a]) (by
    have := closed_own (l := [a]) 1 hc (by simp [ownLt]; exact ha)
    simpa using this) (by omega) hjb hps hml
  simpa [List.append_assoc, Nat.add_assoc] using h
theorem rcomp_c (v : JV) (cs : List AV) (σ : List AO) (hc : vcells v = cs) (hjb : jb v) (hsz : jsize v ≤ 3000) : ACalls Tryd.prog 7 [.agg cs] σ (Ret (.tup [.sl false 4 (noder (jcomp v).1), .int .i64 (jcomp v).2.1, .str (jcomp v).2.2]) σ) := by
 refine ACalls_body Tryd.func7 rfl Tryd.ntmps7 (res3 Tryd.results7) (Nat.le_of_ble_eq_true rfl) (fun hcl hal => ?_)
 subst hc
 rw [vcells_eq v]
 have hro := rnd_ok (jsize v).toNat e0 v (⟨[], 0, e0⟩ : MS) (by decide)
 refine zw4 ?_
 refine zu1 ?_
 refine zt rfl (zc rfl (vcells_eq v ▸ rsch_c v _)) ?_
 refine zv1 ?_
 refine AWp_seq ?_
 refine zw2 ?_
 refine AWp_cond rfl (fun h1 => ?_) (fun h1 => ?_)
 ·(try rw [h1]); replace h1 := zcl h1
  have hs : schB v = false := by simpa using h1
  refine zw3 ?_
  refine AWp_slotLe 2 rfl (AVle.nils false 4) ?_ (by decide)
  refine zrt ?_
  rw [jcomp_n hs]
  exact ResQ_3 rfl rfl rfl hcl (by simp [AV.lt, AV.ltL, AV.ltLL]) ⟨rfl, rfl⟩
 ·(try rw [h1]); replace h1 := zcl h1
  have hs : schB v = true := by simpa using h1
  refine AWp_skip ?_
  refine zw3 ?_
  refine AWp_seq ?_
  refine AWp_ghostInO 1 0 4 2 rfl rfl rfl ?_
  refine AWp_heap (σ' := σ ++ [.box [.int .i64 v.kind, .bool v.b, .bool v.n.neg, .str v.n.digits, .int .i64 v.n.exp, .str v.s, .sl false 8 (lcells v.l), .sl false 9 (mcells v.m)], .box [.arr (σ.length + 2) (⟨[], 0, e0⟩ : MS).l.length 4 0 (⟨[], 0, e0⟩ : MS).l.length, .int .i64 (⟨[], 0, e0⟩ : MS).bad, .str (⟨[], 0, e0⟩ : MS).path], .arr 4 (⟨[], 0, e0⟩ : MS).l.length (noder (⟨[], 0, e0⟩ : MS).l).flatten]) rfl ?_
  refine AWp_regL ?_
  refine zg2 ?_
  refine zt rfl (zc rfl (vcells_eq v ▸ node_at (.box [.int .i64 v.kind, .bool v.b, .bool v.n.neg, .str v.n.digits, .int .i64 v.n.exp, .str v.s, .sl false 8 (lcells v.l), .sl false 9 (mcells v.m)]) v e0 (⟨[], 0, e0⟩ : MS) σ hcl (by simp [AO.cells, AV.ltL, AV.lt]) hjb (by show 0 + _ ≤ _; omega) (by decide))) ?_
  refine zon ?_
  refine AWp_seq ?_
  refine AWp_seq ?_
  refine AWp_heap (σ' := σ ++ [.box [.int .i64 v.kind, .bool v.b, .bool v.n.neg, .str v.n.digits, .int .i64 v.n.exp, .str v.s, .sl false 8 (lcells v.l), .sl false 9 (mcells v.m)], .box [.arr (σ.length + 2) (rnode v).l.length 4 0 (rnode v).l.length, .int .i64 (rnode v).bad, .str (rnode v).path], .arr 4 (rnode v).l.length (noder (rnode v).l).flatten]) rfl ?_
  refine AWp_regL ?_
  refine zv5 ?_
  refine AWp_cond rfl (fun h2 => ?_) (fun h2 => ?_)
  ·(try rw [h2]); replace h2 := zcl h2
   refine AWp_seq ?_
   refine AWp_drawL #[0, 1, 3, 7, 0, 16, 48, 112, 0, 271, 1023] Tryd.mixed (by decide +kernel) (by decide +kernel) ?_
   refine zd3 ?_
   refine zp1 ?_
   refine zd3 ?_
   refine zp1 ?_
   refine zd3 ?_
   refine RP.nil rfl ?_
   refine AWp_slotLe 2 rfl (AVle.nils false 4) ?_ (by decide)
   refine zrt ?_
   rw [jcomp_b hs h2]
   exact ResQ_3 rfl rfl rfl hcl (by simp [AV.lt, AV.ltL, AV.ltLL]) ⟨rfl, rfl⟩
  ·(try rw [h2]); replace h2 := zcl h2
   refine AWp_skip ?_
   refine zw7 ?_
   refine AWp_freezeAO 2 2 (rnode v).l.length 4 (rnode v).l.length (noder (rnode v).l) rfl rfl (noder_el _) (noder_len _) (by decide) ?_ (by decide)
   refine zrt ?_
   rw [jcomp_y hs h2]
   exact ResQ_3 rfl rfl rfl hcl (by simp [AV.lt, AV.ltL]) ⟨rfl, rfl⟩
end Lg
namespace Lg
open Go
section
variable [GLay]
def KR (nn : Nat) (n : JNode) : Prop := ∀ k ∈ n.keys, ∀ d ∈ k.kids, 0 ≤ d.node ∧ d.node < nn
def DR (nn : Nat) (l : List JKid) : Prop := ∀ d ∈ l, 0 ≤ d.node ∧ d.node < nn
def YR (nn : Nat) (l : List JKey) : Prop := ∀ k ∈ l, DR nn k.kids
theorem KR_mono {a b : Nat} {n : JNode} (h : KR a n) (hab : a ≤ b) : KR b n := fun k hk d hd => ⟨(h k hk d hd).1, by have := (h k hk d hd).2; omega⟩
theorem YR_mono {a b : Nat} {n : List JKey} (h : YR a n) (hab : a ≤ b) : YR b n := fun k hk d hd => ⟨(h k hk d hd).1, by have := (h k hk d hd).2; omega⟩
def YZ (l : List JKey) : Prop := ∀ k ∈ l, k.name.size ≤ 1000000 ∧ jb k.v ∧ k.kids.length ≤ 1000000
def KZ (n : JNode) : Prop := n.keys.length ≤ 1000000 ∧ YZ n.keys
def nml (q : ByteArray) : BL := q.data.toList
theorem nml_inj {a b : ByteArray} (h : nml a = nml b) : a = b := by
  cases a; cases b; simp only [nml] at h; congr 1; exact Array.toList_inj.1 h
theorem pth_app (ns : List BL) (n : ByteArray) : ba (shw ns) ++ pth n = ba (shw (ns ++ [nml n])) := by
  rw [pth, ba_app, shw_app]; rfl
structure Adds (m m' : MS) (B : Nat) (ext : List JNode) (nss : List (List BL)) : Prop where
  l : m'.l = m.l ++ ext
  kr : ∀ n ∈ ext, KR m'.l.length n
  pa : ext.map JNode.path = nss.map fun q => ba (shw q)
  sz : ∀ n ∈ ext, n.path.size ≤ B
  kz : ∀ n ∈ ext, KZ n
  nd : nss.Nodup
def NodeOK (n : Nat) (f : ByteArray → JV → MS → MS) : Prop := ∀ (ns : List BL) (x : JV) (m : MS), jb x → jst x → (jsize x).toNat ≤ n → (f (ba (shw ns)) x m).bad = 0 → m.bad = 0 ∧ ∃ ext nss, Adds m (f (ba (shw ns)) x m) ((ba (shw ns)).size + 4000002 * (jsize x).toNat) ext nss ∧ ext ≠ [] ∧ ∀ q ∈ nss, ns <+: q
theorem pre_eq {a : List BL} {x y : BL} {q : List BL} (h : a ++ [x] <+: q) (k : a ++ [y] <+: q) : x = y := by
  have := List.prefix_of_prefix_length_le h k (by simp)
  have h2 := this.eq_of_length (by simp)
  simpa using h2
theorem Adds_app {m m1 m2 : MS} {B : Nat} {e1 e2 : List JNode} {n1 n2 : List (List BL)} (h1 : Adds m m1 B e1 n1) (h2 : Adds m1 m2 B e2 n2) (hd : ∀ q ∈ n1, q ∉ n2) : Adds m m2 B (e1 ++ e2) (n1 ++ n2) where
  l := by rw [h2.l, h1.l, List.append_assoc]
  kr := by
    intro n hn
    have hle : m1.l.length ≤ m2.l.length := by rw [h2.l]; simp
    rcases List.mem_append.1 hn with h | h
    · exact KR_mono (h1.kr n h) hle
    · exact h2.kr n h
  pa := by rw [List.map_append, List.map_append, h1.pa, h2.pa]
  sz := by
    intro n hn
    rcases List.mem_append.1 hn with h | h
    · exact h1.sz n h
    · exact h2.sz n h
  kz := by
    intro n hn
    rcases List.mem_append.1 hn with h | h
    · exact h1.kz n h
    · exact h2.kz n h
  nd := by
    rw [List.nodup_append]
    exact ⟨h1.nd, h2.nd, fun a ha b hb e => hd a ha (e ▸ hb)⟩
theorem Adds_le {m m' : MS} {B C : Nat} {e : List JNode} {n : List (List BL)} (h : Adds m m' B e n) (hbc : B ≤ C) : Adds m m' C e n := ⟨h.l, h.kr, h.pa, fun n hn => Nat.le_trans (h.sz n hn) hbc, h.kz, h.nd⟩
theorem Adds_nil (m : MS) (B : Nat) : Adds m m B [] [] := ⟨by simp, by simp, rfl, by simp, by simp, List.nodup_nil⟩
theorem rkids_len (f : ByteArray → JV → MS → MS) (u : ByteArray) (sg : Bool) : ∀ (r : List BJ) (m : MS), (rkids f u sg r m).1.length = r.length
  | [], m => rfl
  | (k, x) :: r, m => by rw [rkids]; simp [rkids_len f u sg r]
theorem rkids_add {n : Nat} {f : ByteArray → JV → MS → MS} (hf : NodeOK n f) (us : List BL) (sg : Bool) (S : Nat) (hS : S ≤ n) : ∀ (r : List BJ) (m : MS), (∀ q ∈ r, q.1.size ≤ 1000000 ∧ jb q.2 ∧ jst q.2 ∧ (jsize q.2).toNat ≤ S) → (r.map (·.1)).Nodup → (sg = true → r.length ≤ 1) → (rkids f (ba (shw us)) sg r m).2.bad = 0 →
    m.bad = 0 ∧ DR (rkids f (ba (shw us)) sg r m).2.l.length (rkids f (ba (shw us)) sg r m).1 ∧ ∃ ext nss, Adds m (rkids f (ba (shw us)) sg r m).2 ((ba (shw us)).size + 2000001 + 4000002 * S) ext nss ∧ ∀ q ∈ nss, ∃ k ∈ r, (if sg = true then us else us ++ [nml k.1]) <+: q
  | [], m, _, _, _, hb => ⟨hb, (fun d hd => by simp [rkids] at hd : ∀ d ∈ (rkids f (ba (shw us)) sg [] m).1, _), [], [], Adds_nil _ _, fun q hq => by cases hq⟩
  | (k, x) :: r, m, hr, hn, hsg, hb => by
    have hx := hr (k, x) (.head _)
    simp only at hx
    have hn1 := List.nodup_cons.1 hn
    rw [rkids] at hb ⊢
    simp only at hb ⊢
    have hnx : (if sg = true then ba (shw us) else ba (shw us) ++ pth k) = ba (shw (if sg = true then us else us ++ [nml k])) := by
      split
      · rfl
      · exact pth_app us k
    have hsz : (ba (shw (if sg = true then us else us ++ [nml k]))).size ≤ (ba (shw us)).size + 2000001 := by
      rw [← hnx]
      split
      · omega
      · have := pth_size k; rw [ByteArray.size_append]; omega
    rw [hnx] at hb ⊢
    generalize hm1 : f (ba (shw (if sg = true then us else us ++ [nml k]))) x m = q1 at hb ⊢
    obtain ⟨i1, i2, ext2, nss2, a2, p2⟩ := rkids_add hf us sg S hS r q1 (fun q hq => hr q (.tail _ hq)) hn1.2 (fun h => by have := hsg h; simp at this; simp [this]) hb
    obtain ⟨j1, ext1, nss1, a1, ne, p1⟩ := hf (if sg = true then us else us ++ [nml k]) x m hx.2.1 hx.2.2.1 (by omega) (by rw [hm1]; exact i1)
    rw [hm1] at a1
    have a1' := Adds_le a1 (C := (ba (shw us)).size + 2000001 + 4000002 * S) (by
      have h4 : 4000002 * (jsize x).toNat ≤ 4000002 * S := Nat.mul_le_mul_left _ hx.2.2.2
      omega)
    refine ⟨j1, ?_, ext1 ++ ext2, nss1 ++ nss2, Adds_app a1' a2 ?_, ?_⟩
    · intro d hd
      rcases List.mem_cons.1 hd with rfl | hd
      · refine ⟨by simp, ?_⟩
        have h3 := a2.l
        have h4 := a1.l
        have h5 : 0 < ext1.length := List.length_pos_iff.2 ne
        rw [h3, h4]; simp only [List.length_append]; omega
      · exact i2 d hd
    · intro q hq hq2
      obtain ⟨k', hk', hpk⟩ := p2 q hq2
      have h1 := p1 q hq
      cases sg with
      | true =>
        have := hsg rfl
        simp at this
        subst this
        cases hk'
      | false =>
        simp only [Bool.false_eq_true, if_false] at h1 hpk
        have := nml_inj (pre_eq h1 hpk)
        exact hn1.1 (List.mem_map.2 ⟨k', hk', this.symm⟩)
    · intro q hq
      rcases List.mem_append.1 hq with h | h
      · exact ⟨(k, x), .head _, p1 q h⟩
      · obtain ⟨k', hk', hp⟩ := p2 q h
        exact ⟨k', .tail _ hk', hp⟩
theorem ms_nodup {m : List BJ} (h : msorted m) : (m.map (·.1)).Nodup := by
  rw [List.Nodup, List.pairwise_map]
  exact h.imp fun hb => blt_ne hb
theorem kZ_nodup {l : List JV} (h : l.length ≤ 1000000) : ((l.zipIdx.map fun q => (itoaB q.2, q.1)).map (·.1)).Nodup := by
  rw [List.map_map, List.Nodup, List.pairwise_map]
  have h1 : (l.zipIdx).Pairwise (fun a b => ¬ a.2 = b.2) := by
    have h2 : (l.zipIdx.map (·.2)).Nodup := by rw [List.zipIdx_map_snd]; exact List.nodup_range'
    rw [List.Nodup, List.pairwise_map] at h2
    exact h2
  refine h1.imp_of_mem fun {a b} ha hb hab e => hab ?_
  have ha2 : a.2 < l.length := by have := List.mem_zipIdx (x := a.1) (i := a.2) ha; omega
  have hb2 : b.2 < l.length := by have := List.mem_zipIdx (x := b.1) (i := b.2) hb; omega
  have e' : Lib.itoa (a.2 : Int) = Lib.itoa (b.2 : Int) := ba_inj.1 e
  have e1 := (itoa_ix (by omega : a.2 ≤ 1000000)).2
  have e2 := (itoa_ix (by omega : b.2 ≤ 1000000)).2
  rw [e'] at e1; exact_mod_cast e1.symm.trans e2
theorem kids_nodup {n : ByteArray} {v : JV} (hv : jb v) (hs : jst v) : ((kidsM n v).map (·.1)).Nodup := by
  unfold kidsM
  split
  · simp
  · split
    · exact ms_nodup (st_ms hs)
    · split
      · exact kZ_nodup ((jb_eq v).1 hv).2.2.1
      · simp
theorem kids_st {n : ByteArray} {v : JV} (hs : jst v) {i : Nat} {q : BJ} (h : (kidsM n v)[i]? = some q) : jst q.2 := by
  unfold kidsM at h
  split at h
  · have hi := (List.getElem?_eq_some_iff.1 h).1
    have : i = 0 := by simp at hi; exact hi
    subst this
    cases h
    exact hs
  · split at h
    · exact st_mget hs h
    · split at h
      · exact st_get hs (kZ_get (l := v.l) h)
      · simp at h
theorem rmems_add {n : Nat} {f : ByteArray → JV → MS → MS} (hf : NodeOK n f) (ns : List BL) (S : Nat) (hS : S ≤ n) : ∀ (r : List BJ) (ks : List JKey) (m : MS), (∀ q ∈ r, q.1.size ≤ 1000000 ∧ jb q.2 ∧ jst q.2 ∧ (jsize q.2).toNat ≤ S) → (r.map (·.1)).Nodup → (rmems f (ba (shw ns)) r ks m).2.2.bad = 0 →
    m.bad = 0 ∧ (rmems f (ba (shw ns)) r ks m).1 = false ∧ (YR m.l.length ks → YR (rmems f (ba (shw ns)) r ks m).2.2.l.length (rmems f (ba (shw ns)) r ks m).2.1) ∧ (YZ ks → YZ (rmems f (ba (shw ns)) r ks m).2.1) ∧ (rmems f (ba (shw ns)) r ks m).2.1.length ≤ ks.length + r.length ∧ ∃ ext nss, Adds m (rmems f (ba (shw ns)) r ks m).2.2 ((ba (shw ns)).size + 4000002 + 4000002 * S) ext nss ∧ ∀ q ∈ nss, ∃ k ∈ r, ns ++ [nml k.1] <+: q
  | [], ks, m, _, _, hb => ⟨hb, rfl, fun h => h, fun h => h, Nat.le_refl _, [], [], Adds_nil _ _, fun q hq => by cases hq⟩
  | (nm, x) :: r, ks, m, hr, hn, hb => by
    have hx := hr (nm, x) (.head _)
    simp only at hx
    have hn1 := List.nodup_cons.1 hn
    by_cases hm : m.bad = 0
    rotate_left
    · rw [rmems_e (.inr hm)] at hb; exact absurd hb hm
    by_cases hsh : rShape nm x = 0
    rotate_left
    · rw [rmems_s hm hsh] at hb; exact absurd hb hsh
    cases hk : rkids f (ba (shw ns) ++ pth nm) (decide (rk nm = 8)) (kidsM nm x) m with
    | mk kd q1 =>
      rw [rmems_k hm hsh hk] at hb ⊢
      obtain ⟨i1, i2, i3, i4, i5, ext2, nss2, a2, p2⟩ := rmems_add hf ns S hS r (ks ++ [⟨nm, x, kd⟩]) q1 (fun q hq => hr q (.tail _ hq)) hn1.2 hb
      rw [pth_app] at hk
      have hk2 := rkids_add hf (ns ++ [nml nm]) (decide (rk nm = 8)) S hS (kidsM nm x) m (fun q hq => by
        obtain ⟨i, hi⟩ := List.mem_iff_getElem?.1 hq
        have h1 := kids_jb hx.2.1 hi
        exact ⟨kids_ks hx.2.1 hi, h1.1, kids_st hx.2.2.1 hi, by have := h1.2; omega⟩) (kids_nodup hx.2.1 hx.2.2.1) (fun h => by rw [kids_one (of_decide_eq_true h)]; exact Nat.le_refl 1)
      rw [hk] at hk2
      obtain ⟨j1, j2, ext1, nss1, a1, p1⟩ := hk2 i1
      have hsz : (ba (shw (ns ++ [nml nm]))).size ≤ (ba (shw ns)).size + 2000001 := by
        rw [← pth_app]; have := pth_size nm; rw [ByteArray.size_append]; omega
      have a1' := Adds_le a1 (C := (ba (shw ns)).size + 4000002 + 4000002 * S) (by omega)
      have p1' : ∀ q ∈ nss1, ns ++ [nml nm] <+: q := by
        intro q hq
        obtain ⟨k', hk', hp⟩ := p1 q hq
        split at hp
        · exact hp
        · exact (List.prefix_append _ _).trans hp
      have hkl : kd.length ≤ 1000000 := by
        have e := rkids_len f (ba (shw (ns ++ [nml nm]))) (decide (rk nm = 8)) (kidsM nm x) m
        rw [hk] at e
        have := kids_len (n := nm) hx.2.1
        simp only at e; omega
      refine ⟨j1, i2, ?_, ?_, by rw [List.length_append] at i5; simp only [List.length_cons, List.length_nil] at i5 ⊢; omega, ext1 ++ ext2, nss1 ++ nss2, Adds_app a1' a2 ?_, ?_⟩
      · intro hy
        refine i3 fun k hk3 => ?_
        rcases List.mem_append.1 hk3 with h | h
        · exact YR_mono hy (by have := a1.l; simp only at this; rw [this]; simp) k h
        · rw [List.mem_singleton.1 h]; exact j2
      · intro hy
        refine i4 fun k hk3 => ?_
        rcases List.mem_append.1 hk3 with h | h
        · exact hy k h
        · rw [List.mem_singleton.1 h]; exact ⟨hx.1, hx.2.1, hkl⟩
      · intro q hq hq2
        obtain ⟨k', hk', hpk⟩ := p2 q hq2
        have := nml_inj (pre_eq (p1' q hq) hpk)
        exact hn1.1 (List.mem_map.2 ⟨k', hk', this.symm⟩)
      · intro q hq
        rcases List.mem_append.1 hq with h | h
        · exact ⟨(nm, x), .head _, p1' q h⟩
        · obtain ⟨k', hk', hp⟩ := p2 q h
          exact ⟨k', .tail _ hk', hp⟩
theorem setk_at (x : JNode) (b : List JNode) (ks : List JKey) : ∀ a : List JNode, setk (a ++ x :: b) a.length ks = a ++ ⟨x.path, x.all, x.pass, ks⟩ :: b
  | [] => rfl
  | y :: r => by
    have := setk_at x b ks r
    simp only [setk] at this ⊢
    simp [this]
theorem rnd_add : ∀ n, NodeOK n (rnd n)
  | 0, ns, x, m, _, _, hn, _ => by have := jsize_pos x; omega
  | n + 1, ns, x, m, hjb, hst, hn, hb => by
    have hp := jsize_pos x
    by_cases hm : m.bad = 0
    rotate_left
    · rw [rnd_b hm] at hb; exact absurd hb hm
    by_cases hl : m.l.length = 200
    · rw [rnd_m hm hl] at hb; exact absurd hb (by decide : ¬ (5 : Int) = 0)
    have hmm := rmems_add (rnd_add n) ns ((jsize x).toNat - 1) (by omega) x.m [] (m1 m (ba (shw ns)) x) (fun q hq => by
      obtain ⟨i, hi⟩ := List.mem_iff_getElem?.1 hq
      have h6 := ((jb_eq x).1 hjb).2.2.2.2.2
      have h1 := mb_get h6 hi
      have h2 := msize_mem hi
      have h3 := jsize_eq x
      have h4 := lsize_nn x.l
      have h5 := jsize_pos q.2
      exact ⟨h1.1, h1.2, st_mget hst hi, by omega⟩) (ms_nodup (st_ms hst))
    cases hr : rmems (rnd n) (ba (shw ns)) x.m [] (m1 m (ba (shw ns)) x) with
    | mk b q =>
      obtain ⟨ks, m'⟩ := q
      rw [hr] at hmm
      simp only at hmm
      cases b with
      | true =>
        rw [rnd_t hm hl hr] at hb
        exact absurd (hmm hb).2.1 (by decide)
      | false =>
        rw [rnd_f hm hl hr] at hb ⊢
        obtain ⟨_, _, hy, hyz, hyl, ext, nss, a, p⟩ := hmm hb
        refine ⟨hm, ⟨ba (shw ns), decide (x.kind = 1), x.b, ks⟩ :: ext, ns :: nss, ?_, by simp, ?_⟩
        · have hal : m'.l = m.l ++ (⟨ba (shw ns), decide (x.kind = 1), x.b, []⟩ :: ext) := by
            have := a.l
            simp only [m1] at this
            rw [this, List.append_assoc]; rfl
          refine ⟨?_, ?_, ?_, ?_, ?_, ?_⟩
          · show setk m'.l m.l.length ks = _
            rw [hal, setk_at]
          · intro nn hnn
            show KR (setk m'.l m.l.length ks).length nn
            rw [setk_len]
            rcases List.mem_cons.1 hnn with rfl | h
            · exact hy (fun k hk => by cases hk)
            · exact a.kr nn h
          · simp only [List.map_cons, a.pa]
          · intro nn hnn
            rcases List.mem_cons.1 hnn with rfl | h
            · show (ba (shw ns)).size ≤ _; omega
            · have := a.sz nn h; omega
          · intro nn hnn
            rcases List.mem_cons.1 hnn with rfl | h
            · refine ⟨?_, hyz (fun k hk => by cases hk)⟩
              have h9 := ((jb_eq x).1 hjb).2.2.2.1
              simp only [List.length_nil] at hyl
              show ks.length ≤ 1000000; omega
            · exact a.kz nn h
          · refine List.nodup_cons.2 ⟨fun h => ?_, a.nd⟩
            obtain ⟨k, _, hk⟩ := p ns h
            have := hk.length_le
            simp at this
            omega
        · intro q hq
          rcases List.mem_cons.1 hq with rfl | h
          · exact List.prefix_refl _
          · obtain ⟨k, _, hk⟩ := p q h
            exact (List.prefix_append _ _).trans hk
structure NOK (l : List JNode) : Prop where
  kr : ∀ n ∈ l, KR l.length n
  nd : (l.map JNode.path).Nodup
  le : l.length ≤ 200
  sz : ∀ n ∈ l, n.path.size ≤ 100000000000
  kz : ∀ n ∈ l, KZ n
theorem jcomp_ok {v : JV} (hjb : jb v) (hst : jst v) (hsz : jsize v ≤ 10000) (h : (jcomp v).2.1 = 0) : NOK (jcomp v).1 := by
  unfold jcomp at h ⊢
  split at h
  · exact absurd h (by decide)
  · split at h
    · rename_i h1; exact absurd h h1
    · rename_i h1 h2
      have hb : (rnode v).bad = 0 := Decidable.not_not.1 h2
      rw [if_neg h1, if_neg h2]
      have he : e0 = ba (shw []) := by simp [shw]; rfl
      have := rnd_add (jsize v).toNat [] v ⟨[], 0, e0⟩ hjb hst (Nat.le_refl _)
      rw [← he] at this
      obtain ⟨_, ext, nss, a, _, _⟩ := this hb
      have hl : (rnode v).l = ext := by have := a.l; rw [List.nil_append] at this; exact this
      refine ⟨?_, ?_, ?_, ?_, ?_⟩
      · show ∀ n ∈ (rnode v).l, KR (rnode v).l.length n
        intro n hn; rw [hl] at hn; exact a.kr n hn
      · show ((rnode v).l.map JNode.path).Nodup
        rw [hl, a.pa, List.Nodup, List.pairwise_map]
        exact List.Pairwise.imp (fun hne e => hne (shw_inj.1 e)) a.nd
      · exact (rnd_ok (jsize v).toNat e0 v ⟨[], 0, e0⟩ (by decide)).2
      · show ∀ n ∈ (rnode v).l, n.path.size ≤ 100000000000
        intro n hn; rw [hl] at hn
        have h3 := a.sz n hn
        have h4 : e0.size = 0 := rfl
        rw [h4] at h3
        omega
      · show ∀ n ∈ (rnode v).l, KZ n
        intro n hn; rw [hl] at hn; exact a.kz n hn
end
end Lg
namespace Lg
open Go
def cREF : ByteArray := ⟨#[36, 114, 101, 102]⟩
def hsh : ByteArray := ⟨#[35]⟩
def tgt (s : ByteArray) : List JNode → Option Nat
  | [] => none
  | n :: r => if s = hsh ++ n.path then some 0 else (tgt s r).map (· + 1)
def tgtI (s : ByteArray) (l : List JNode) : Int := match tgt s l with | some i => i | none => -1
theorem tgt_none {s : ByteArray} : ∀ {l : List JNode}, tgt s l = none ↔ ∀ n ∈ l, ¬ s = hsh ++ n.path
  | [] => by simp [tgt]
  | n :: r => by
    rw [tgt]
    split
    · rename_i h; simp [h]
    · rename_i h; rw [Option.map_eq_none_iff, tgt_none]; simp [h]
theorem tgt_some {s : ByteArray} : ∀ {l : List JNode} {i : Nat}, tgt s l = some i → ∃ n, l[i]? = some n ∧ s = hsh ++ n.path
  | [], i, h => by simp [tgt] at h
  | n :: r, i, h => by
    rw [tgt] at h
    split at h
    · rename_i h1; cases h; exact ⟨n, rfl, h1⟩
    · cases hr : tgt s r with
      | none => rw [hr] at h; cases h
      | some j =>
        rw [hr] at h; cases h
        obtain ⟨x, hx, e⟩ := tgt_some hr
        exact ⟨x, hx, e⟩
theorem tgt_app {s : ByteArray} : ∀ (l m : List JNode), tgt s (l ++ m) = match tgt s l with | some i => some i | none => (tgt s m).map (· + l.length)
  | [], m => by simp [tgt]
  | n :: r, m => by
    rw [List.cons_append, tgt, tgt]
    split
    · rfl
    · rw [tgt_app r m]
      cases tgt s r with
      | some i => rfl
      | none => cases tgt s m with
        | none => rfl
        | some j => simp [Nat.add_assoc]
theorem hsh_inj {a b : ByteArray} (h : hsh ++ a = hsh ++ b) : a = b := by
  have h1 := congrArg (fun x => x.data.toList) h
  simp [hsh] at h1
  cases a; cases b; simp at h1; rw [h1]
theorem tgtI_take_y {s : ByteArray} {l : List JNode} {j : Nat} {n : JNode} (hd : (l.map JNode.path).Nodup) (hn : l[j]? = some n) (h : s = hsh ++ n.path) : tgtI s (l.take (j + 1)) = j := by
  have hj := (List.getElem?_eq_some_iff.1 hn).1
  have hnone : tgt s (l.take j) = none := by
    rw [tgt_none]
    intro x hx e
    have e2 : n.path = x.path := hsh_inj (h ▸ e)
    obtain ⟨i, hi⟩ := List.mem_iff_getElem?.1 hx
    have hij : i < j := by have := (List.getElem?_eq_some_iff.1 hi).1; simp at this; omega
    rw [List.getElem?_take, if_pos hij] at hi
    rw [List.Nodup, List.pairwise_map, List.pairwise_iff_getElem] at hd
    have hi' := (List.getElem?_eq_some_iff.1 hi)
    have hj' := (List.getElem?_eq_some_iff.1 hn)
    have := hd i j hi'.1 hj'.1 hij
    rw [hi'.2, hj'.2] at this
    exact this e2.symm
  have ht : l.take (j + 1) = l.take j ++ [n] := by rw [List.take_add_one, hn]; rfl
  unfold tgtI
  rw [ht, tgt_app, hnone]
  simp only [tgt, if_pos h, Option.map_some, List.length_take]
  have : min j l.length = j := by omega
  rw [this]; simp
theorem tgtI_take_n {s : ByteArray} {l : List JNode} {j : Nat} {n : JNode} (hn : l[j]? = some n) (h : ¬ s = hsh ++ n.path) : tgtI s (l.take (j + 1)) = tgtI s (l.take j) := by
  have ht : l.take (j + 1) = l.take j ++ [n] := by rw [List.take_add_one, hn]; rfl
  unfold tgtI
  rw [ht, tgt_app]
  cases tgt s (l.take j) with
  | some i => rfl
  | none => simp [tgt, if_neg h]
theorem tgtI_lt (s : ByteArray) (l : List JNode) : tgtI s l < l.length ∧ -1 ≤ tgtI s l := by
  unfold tgtI
  cases h : tgt s l with
  | none => simp only; omega
  | some i =>
    obtain ⟨n, hn, _⟩ := tgt_some h
    have := (List.getElem?_eq_some_iff.1 hn).1
    simp only; omega
def lk1 (l : List JNode) (k : JKey) : Option JKey := if k.name = cREF then (if tgtI k.v.s l < 0 then none else some ⟨k.name, k.v, [⟨e0, tgtI k.v.s l⟩]⟩) else some k
def lkk (l : List JNode) : List JKey → List JKey → Option (List JKey)
  | [], a => some a
  | k :: r, a => match lk1 l k with
    | none => none
    | some k' => lkk l r (a ++ [k'])
def cREFP : ByteArray := ⟨#[47, 36, 114, 101, 102]⟩
def lkn (l : List JNode) : List JNode → List JNode → List JNode × Int × ByteArray
  | [], a => (a, 0, e0)
  | n :: r, a => match lkk l n.keys [] with
    | none => ([], 12, n.path ++ cREFP)
    | some ks => lkn l r (a ++ [⟨n.path, n.all, n.pass, ks⟩])
def cALL : ByteArray := ⟨#[97, 108, 108, 79, 102]⟩
def cANY : ByteArray := ⟨#[97, 110, 121, 79, 102]⟩
def cONE : ByteArray := ⟨#[111, 110, 101, 79, 102]⟩
def cNOT : ByteArray := ⟨#[110, 111, 116]⟩
def plc (n : ByteArray) : Bool := decide (n = cREF) || decide (n = cALL) || decide (n = cANY) || decide (n = cONE) || decide (n = cNOT)
def outD (l : List JKid) : List Nat := l.map fun d => d.node.toNat
def outK (k : JKey) : List Nat := if plc k.name = true then outD k.kids else []
def outs (l : List JKey) : List Nat := l.flatMap outK
inductive Rch (o : List JNode) : Nat → Nat → Prop
  | one {a b : Nat} {n : JNode} (hn : o[a]? = some n) (hb : b ∈ outs n.keys) : Rch o a b
  | more {a b c : Nat} {n : JNode} (h : Rch o a b) (hn : o[b]? = some n) (hc : c ∈ outs n.keys) : Rch o a c
theorem Rch.head {o : List JNode} {a b c : Nat} {n : JNode} (hn : o[a]? = some n) (hb : b ∈ outs n.keys) (h : Rch o b c) : Rch o a c := by
  induction h with
  | one hn2 hb2 => exact .more (.one hn hb) hn2 hb2
  | more _ hn2 hc ih => exact .more ih hn2 hc
theorem Rch.closed {o : List JNode} {i u : Nat} (S : Nat → Prop) (h1 : ∀ n, o[i]? = some n → ∀ b ∈ outs n.keys, S b) (h2 : ∀ a n, S a → o[a]? = some n → ∀ b ∈ outs n.keys, S b) (h : Rch o i u) : S u := by
  induction h with
  | one hn hb => exact h1 _ hn _ hb
  | more _ hn hc ih => exact h2 _ _ ih hn _ hc
def dfD (f : Nat → List Bool → Bool × List Bool) (i : Nat) : List Nat → List Bool → Bool × List Bool
  | [], S => (false, S)
  | d :: r, S => if d = i then (true, S) else if S[d]? = some true then dfD f i r S else
    if (f d (S.set d true)).1 = true then (true, (f d (S.set d true)).2) else dfD f i r (f d (S.set d true)).2
def dfK (f : Nat → List Bool → Bool × List Bool) (i : Nat) : List JKey → List Bool → Bool × List Bool
  | [], S => (false, S)
  | k :: r, S => if plc k.name = true then (if (dfD f i (outD k.kids) S).1 = true then (true, (dfD f i (outD k.kids) S).2) else dfK f i r (dfD f i (outD k.kids) S).2) else dfK f i r S
def dfs (o : List JNode) (i : Nat) : Nat → Nat → List Bool → Bool × List Bool
  | 0, _, S => (false, S)
  | n + 1, k, S => match o[k]? with
    | none => (false, S)
    | some x => dfK (dfs o i n) i x.keys S
def cntF (S : List Bool) : Nat := S.count false
theorem cntF_set {S : List Bool} {d : Nat} (h : S[d]? = some false) : cntF (S.set d true) + 1 = cntF S := by
  have hd := List.getElem?_eq_some_iff.1 h
  have hm : false ∈ S := List.mem_of_getElem? h
  have hp : 0 < S.count false := List.count_pos_iff.2 hm
  unfold cntF
  rw [List.count_set hd.1, hd.2]
  simp; omega
structure Dok (o : List JNode) (i : Nat) (src : Nat → Prop) (S : List Bool) (q : Bool × List Bool) : Prop where
  len : q.2.length = S.length
  mono : ∀ u : Nat, S[u]? = some true → q.2[u]? = some true
  cnt : cntF q.2 ≤ cntF S
  yes : q.1 = true → ∃ u : Nat, src u ∧ (u = i ∨ Rch o u i)
  no : q.1 = false → (∀ u : Nat, src u → ¬ u = i ∧ q.2[u]? = some true) ∧ ∀ u : Nat, q.2[u]? = some true → ¬ S[u]? = some true → ∀ n, o[u]? = some n → ∀ v ∈ outs n.keys, ¬ v = i ∧ q.2[v]? = some true
def Fok (o : List JNode) (i n : Nat) (f : Nat → List Bool → Bool × List Bool) : Prop := ∀ k x S, o[k]? = some x → S.length = o.length → cntF S < n → Dok o i (fun u => u ∈ outs x.keys) S (f k S)
theorem dfD_ok {o : List JNode} {i n : Nat} {f : Nat → List Bool → Bool × List Bool} (hf : Fok o i n f) : ∀ (r : List Nat) (S : List Bool), (∀ d ∈ r, d < o.length) → S.length = o.length → cntF S ≤ n → Dok o i (fun u => u ∈ r) S (dfD f i r S)
  | [], S, _, _, _ => ⟨rfl, fun _ h => h, Nat.le_refl _, fun h => by simp [dfD] at h, fun _ => ⟨(fun u hu => by cases hu), fun u h1 h2 => absurd h1 h2⟩⟩
  | d :: r, S, hr, hS, hc => by
    have hd := hr d (.head _)
    rw [dfD]
    split
    · rename_i e
      exact ⟨rfl, fun _ h => h, Nat.le_refl _, fun _ => ⟨d, .head _, .inl e⟩, fun h => by cases h⟩
    · rename_i hne
      split
      · rename_i hs
        have ih := dfD_ok hf r S (fun d hd => hr d (.tail _ hd)) hS hc
        refine ⟨ih.len, ih.mono, ih.cnt, fun h => ?_, fun h => ?_⟩
        · obtain ⟨u, hu, h2⟩ := ih.yes h; exact ⟨u, .tail _ hu, h2⟩
        · obtain ⟨h1, h2⟩ := ih.no h
          refine ⟨fun u hu => ?_, h2⟩
          rcases List.mem_cons.1 hu with rfl | hu
          · exact ⟨hne, ih.mono _ hs⟩
          · exact h1 u hu
      · rename_i hs
        have hsf : S[d]? = some false := by
          have : d < S.length := by omega
          cases hx : S[d] with
          | true => exact absurd (by rw [List.getElem?_eq_getElem this, hx]) hs
          | false => rw [List.getElem?_eq_getElem this, hx]
        obtain ⟨x, hx⟩ : ∃ x, o[d]? = some x := ⟨_, List.getElem?_eq_getElem hd⟩
        have hcs := cntF_set hsf
        have g := hf d x (S.set d true) hx (by simp [hS]) (by omega)
        have hm0 : ∀ u : Nat, S[u]? = some true → (S.set d true)[u]? = some true := by
          intro u hu
          by_cases e : d = u
          · subst e; rw [List.getElem?_set_self (by omega)]
          · rw [List.getElem?_set_ne e]; exact hu
        have hdt : (S.set d true)[d]? = some true := List.getElem?_set_self (by omega)
        split
        · rename_i hy
          refine ⟨by rw [g.len]; simp, fun u hu => g.mono u (hm0 u hu), by have := g.cnt; simp only; omega, fun _ => ?_, fun h => by cases h⟩
          obtain ⟨u, hu, h2⟩ := g.yes hy
          refine ⟨d, .head _, .inr ?_⟩
          rcases h2 with rfl | h2
          · exact .one hx hu
          · exact .head hx hu h2
        · rename_i hy
          have hy' : (f d (S.set d true)).1 = false := by simpa using hy
          obtain ⟨g1, g2⟩ := g.no hy'
          have ih := dfD_ok hf r (f d (S.set d true)).2 (fun d hd => hr d (.tail _ hd)) (by rw [g.len]; simp [hS]) (by have := g.cnt; omega)
          refine ⟨by rw [ih.len, g.len]; simp, fun u hu => ih.mono u (g.mono u (hm0 u hu)), by have := ih.cnt; have := g.cnt; omega, fun h => ?_, fun h => ?_⟩
          · obtain ⟨u, hu, h2⟩ := ih.yes h; exact ⟨u, .tail _ hu, h2⟩
          · obtain ⟨h1, h2⟩ := ih.no h
            refine ⟨fun u hu => ?_, fun u hu hns nn hnn v hv => ?_⟩
            · rcases List.mem_cons.1 hu with rfl | hu
              · exact ⟨hne, ih.mono _ (g.mono _ hdt)⟩
              · exact h1 u hu
            · by_cases hq : (f d (S.set d true)).2[u]? = some true
              · by_cases e : d = u
                · subst e
                  rw [hx] at hnn; cases hnn
                  have := g1 v hv
                  exact ⟨this.1, ih.mono _ this.2⟩
                · have := g2 u hq (by rw [List.getElem?_set_ne e]; exact hns) nn hnn v hv
                  exact ⟨this.1, ih.mono _ this.2⟩
              · exact h2 u hu hq nn hnn v hv
theorem dfK_ok {o : List JNode} {i n : Nat} {f : Nat → List Bool → Bool × List Bool} (hf : Fok o i n f) : ∀ (r : List JKey) (S : List Bool), (∀ d ∈ outs r, d < o.length) → S.length = o.length → cntF S ≤ n → Dok o i (fun u => u ∈ outs r) S (dfK f i r S)
  | [], S, _, _, _ => ⟨rfl, fun _ h => h, Nat.le_refl _, fun h => by simp [dfK] at h, fun _ => ⟨(fun u hu => by cases hu), fun u h1 h2 => absurd h1 h2⟩⟩
  | k :: r, S, hr, hS, hc => by
    have ho : outs (k :: r) = outK k ++ outs r := by simp [outs]
    rw [dfK]
    split
    · rename_i hp
      have hk : outK k = outD k.kids := if_pos hp
      rw [ho, hk] at hr
      have g := dfD_ok hf (outD k.kids) S (fun d hd => hr d (List.mem_append_left _ hd)) hS hc
      split
      · rename_i hy
        refine ⟨g.len, g.mono, g.cnt, fun _ => ?_, fun h => by cases h⟩
        obtain ⟨u, hu, h2⟩ := g.yes hy
        exact ⟨u, by rw [ho, hk]; exact List.mem_append_left _ hu, h2⟩
      · rename_i hy
        have hy' : (dfD f i (outD k.kids) S).1 = false := by simpa using hy
        obtain ⟨g1, g2⟩ := g.no hy'
        have ih := dfK_ok hf r _ (fun d hd => hr d (List.mem_append_right _ hd)) (g.len.trans hS) (Nat.le_trans g.cnt hc)
        refine ⟨ih.len.trans g.len, fun u hu => ih.mono u (g.mono u hu), Nat.le_trans ih.cnt g.cnt, fun h => ?_, fun h => ?_⟩
        · obtain ⟨u, hu, h2⟩ := ih.yes h
          exact ⟨u, by rw [ho]; exact List.mem_append_right _ hu, h2⟩
        · obtain ⟨h1, h2⟩ := ih.no h
          refine ⟨fun u hu => ?_, fun u hu hns nn hnn v hv => ?_⟩
          · rw [ho, hk] at hu
            rcases List.mem_append.1 hu with hu | hu
            · exact ⟨(g1 u hu).1, ih.mono _ (g1 u hu).2⟩
            · exact h1 u hu
          · by_cases hq : (dfD f i (outD k.kids) S).2[u]? = some true
            · have := g2 u hq hns nn hnn v hv
              exact ⟨this.1, ih.mono _ this.2⟩
            · exact h2 u hu hq nn hnn v hv
    · rename_i hp
      have hk : outK k = [] := if_neg hp
      have ih := dfK_ok hf r S (fun d hd => hr d (by rw [ho]; exact List.mem_append_right _ hd)) hS hc
      rw [ho, hk, List.nil_append]
      exact ih
def OR (o : List JNode) : Prop := ∀ n ∈ o, ∀ d ∈ outs n.keys, d < o.length
theorem dfs_ok {o : List JNode} {i : Nat} (ho : OR o) : ∀ n, Fok o i n (dfs o i n)
  | 0, k, x, S, _, _, h => absurd h (Nat.not_lt_zero _)
  | n + 1, k, x, S, hx, hS, hc => by
    rw [dfs, hx]
    exact dfK_ok (dfs_ok ho n) x.keys S (ho x (List.mem_of_getElem? hx)) hS (by omega)
theorem dfs_cyc {o : List JNode} (ho : OR o) {i : Nat} (hi : i < o.length) : (dfs o i (o.length + 1) i (List.replicate o.length false)).1 = pb (Rch o i i) := by
  obtain ⟨x, hx⟩ : ∃ x, o[i]? = some x := ⟨_, List.getElem?_eq_getElem hi⟩
  have hc : cntF (List.replicate o.length false) = o.length := by simp [cntF]
  have h := dfs_ok ho (o.length + 1) (i := i) i x (List.replicate o.length false) hx (by simp) (by omega)
  cases hr : (dfs o i (o.length + 1) i (List.replicate o.length false)).1 with
  | true =>
    obtain ⟨u, hu, h2⟩ := h.yes hr
    have : Rch o i i := by
      rcases h2 with rfl | h2
      · exact .one hx hu
      · exact .head hx hu h2
    exact (pb_t this).symm
  | false =>
    obtain ⟨h1, h2⟩ := h.no hr
    refine (pb_f fun hR => ?_).symm
    have := Rch.closed (fun u => ¬ u = i ∧ (dfs o i (o.length + 1) i (List.replicate o.length false)).2[u]? = some true) (fun n hn b hb => h1 b (by rw [hx] at hn; cases hn; exact hb)) (fun a n ha hn b hb => h2 a ha.2 (by
      intro e
      rw [List.getElem?_replicate] at e
      split at e <;> simp at e) n hn b hb) hR
    exact this.1 rfl
noncomputable def lkc (o : List JNode) : List JNode → Nat → Int × ByteArray
  | [], _ => (0, e0)
  | n :: r, i => if pb (Rch o i i) = true then (13, n.path) else lkc o r (i + 1)
noncomputable def jlink (l : List JNode) : List JNode × Int × ByteArray :=
  if ¬ (lkn l l []).2.1 = 0 then ([], (lkn l l []).2.1, (lkn l l []).2.2) else
  if ¬ (lkc (lkn l l []).1 (lkn l l []).1 0).1 = 0 then ([], lkc (lkn l l []).1 (lkn l l []).1 0) else ((lkn l l []).1, 0, e0)
end Lg
namespace Lg
open Go Go.RowKit
variable [GLay]
section
variable {P : Program} {N : Nat} {σ l : List AO} {e : Env} {o : Oper}
theorem run_makeSlice1 {T E : TypeId} {i : TypeInfo} {n : Nat} {z c : Value} {w : World} (hu : P.underlying T = some (.slice E)) (hi : P.info? E = some i) (hz : i.zero = some z) (hsz : i.size = 1) (hzc : z.cells = #[c]) (hpos : 0 < n) (hn : n ≤ 1000000000) (hby : i.bytes ≤ 100) :
    (Instr.makeSlice T (.int .i64 (n : Int)) (.int .i64 (n : Int))).run P w = .ok (.slice (some ⟨w.heap.size, 0, none⟩) n n) (w.alloc (.cells (List.replicate n c).toArray E (0, 0))) := by
  have hw : (IntKind.i64.wrap (n : Int)) = (n : Int) := wrap64_in (by omega) (by omega)
  have hmul : i.bytes * n ≤ 100 * n := Nat.mul_le_mul_right _ hby
  have h3 : ¬ ((i.bytes : Int) * (n : Int) > 2 ^ 48) := by
    have : ((i.bytes * n : Nat) : Int) ≤ 100 * (n : Int) := by exact_mod_cast hmul
    rw [Int.natCast_mul] at this
    omega
  have h5 : ¬ n = 0 := by omega
  have g1 : ¬ ((n : Int) < 0) := by omega
  simp [Instr.makeSlice, run_underlying hu, asInt, asIntOf, typeInfo, hi, hw, Go.sizeOf, zeroValue, hz, hsz, hzc, askRoom, h5, g1, newRow, newObj, Sem.run]
  rw [if_neg (by omega)]
  have h7 : Array.map (fun x => ([c] : List Value)[x % 1]?.getD default) (Array.range n) = Array.replicate n c := by
    apply Array.ext
    · simp
    · intro j h1 h2; simp [Nat.mod_one]
  rw [h7]
theorem op_makeSlice1 {T E : TypeId} {x y : Operand} {i : TypeInfo} {n : Nat} {z c : Value} {b : AV} (ho : o.op = .makeSlice T x y) (hu : P.underlying T = some (.slice E)) (hi : P.info? E = some i) (hz : i.zero = some z) (hsz : i.size = 1) (hzc : z.cells = #[c]) (hb : ∀ s, V s b c)
    (hx : opv e x = .int .i64 (n : Int)) (hy : opv e y = .int .i64 (n : Int)) (hpos : 0 < n) (hn : n ≤ 1000000000) (hby : i.bytes ≤ 100) : AOp P σ e o (.arr σ.length 0 1 0 n) (σ ++ [.arr 1 0 (List.replicate n b)]) := by
  intro s a hs g hv K Q hk _
  subst hs
  have e1 : a.eval x = .int .i64 (n : Int) := by
    have h := hv x (by simp [ho, Op.operands]); rw [hx] at h; exact h.inv_int
  have e2 : a.eval y = .int .i64 (n : Int) := by
    have h := hv y (by simp [ho, Op.operands]); rw [hy] at h; exact h.inv_int
  have hpw : PW s (List.replicate n b) (List.replicate n c) := by
    refine ⟨by simp, fun i cc v h1 h2 => ?_⟩
    rw [List.getElem?_replicate] at h1 h2
    split at h1
    · cases h1
      rw [if_pos (by assumption)] at h2
      cases h2; exact hb s
    · cases h1
  obtain ⟨s', f1, f2, g', x', hμ⟩ := g.newArr (sz := 1) (cs := List.replicate n b) (vs := List.replicate n c) (by simpa using hpw) (by simp) E (Below.refl _ _) rfl
  have hw : (IntKind.i64.wrap (n : Int)) = (n : Int) := wrap64_in (by omega) (by omega)
  have hmul : i.bytes * n ≤ 100 * n := Nat.mul_le_mul_right _ hby
  refine wp_value (w' := s'.w) ?_ (hk _ (.slice (some ⟨s.w.heap.size, 0, none⟩) n n) s' ⟨rfl, f1⟩ g' x' ?_)
  · rw [f2]
    simp only [execOp, ho, e1, e2]
    rw [Sem.run_bind, run_makeSlice1 hu hi hz hsz hzc hpos hn hby]
    rfl
  · refine V.newArr (cs := List.replicate n b) (by rw [f1]; simp) hμ (Nat.le_refl _) (by simp)
theorem op_makeSlice1T {k : Nat} (hk : l.length = k) {T E : TypeId} {x y : Operand} {i : TypeInfo} {n : Nat} {z c : Value} {b : AV} (ho : o.op = .makeSlice T x y) (hu : P.underlying T = some (.slice E)) (hi : P.info? E = some i) (hz : i.zero = some z) (hsz : i.size = 1) (hzc : z.cells = #[c]) (hb : ∀ s, V s b c)
    (hx : opv e x = .int .i64 (n : Int)) (hy : opv e y = .int .i64 (n : Int)) (hpos : 0 < n) (hn : n ≤ 1000000000) (hby : i.bytes ≤ 100) : AOp P (σ ++ l) e o (.arr (σ.length + k) 0 1 0 n) (σ ++ (l ++ [.arr 1 0 (List.replicate n b)])) := by
  have := op_makeSlice1 (σ := σ ++ l) ho hu hi hz hsz hzc hb hx hy hpos hn hby
  rwa [List.length_append, hk, List.append_assoc] at this
end
end Lg
namespace Lg
open Go
structure BQ (o : List JNode) (i : Nat) (c : Option Nat) (D : List Nat) (T : List Nat) (S : List Bool) : Prop where
  len : S.length = o.length
  tin : ∀ t ∈ T, t < o.length ∧ (t = i ∨ Rch o i t)
  cin : ∀ t, c = some t → t = i ∨ Rch o i t
  snd : ∀ u : Nat, S[u]? = some true → Rch o i u
  cls : ∀ u : Nat, (u = i ∨ S[u]? = some true) → u ∉ T → ¬ c = some u → ∀ n, o[u]? = some n → ∀ v ∈ outs n.keys, S[v]? = some true
  dne : ∀ v ∈ D, S[v]? = some true
theorem BQ_start {o : List JNode} {i : Nat} (hi : i < o.length) : BQ o i none [] [i] (List.replicate o.length false) where
  len := by simp
  tin := by intro t ht; rw [List.mem_singleton.1 ht]; exact ⟨hi, .inl rfl⟩
  cin := by intro t h; cases h
  snd := by intro u h; rw [List.getElem?_replicate] at h; split at h <;> simp at h
  cls := by
    intro u hu hT
    rcases hu with rfl | h
    · exact absurd (List.mem_singleton.2 rfl) hT
    · rw [List.getElem?_replicate] at h; split at h <;> simp at h
  dne := by intro v h; cases h
theorem BQ_pop {o : List JNode} {i t : Nat} {T : List Nat} {S : List Bool} (h : BQ o i none [] (t :: T) S) : BQ o i (some t) [] T S where
  len := h.len
  tin := fun u hu => h.tin u (.tail _ hu)
  cin := by intro u hu; cases hu; exact (h.tin t (.head _)).2
  snd := h.snd
  cls := fun u hu hT hc => h.cls u hu (fun hm => by
    rcases List.mem_cons.1 hm with rfl | hm
    · exact hc rfl
    · exact hT hm) (by simp)
  dne := by intro v h; cases h
theorem BQ_old {o : List JNode} {i : Nat} {c : Option Nat} {D T : List Nat} {S : List Bool} {v : Nat} (h : BQ o i c D T S) (hv : S[v]? = some true) : BQ o i c (D ++ [v]) T S where
  len := h.len
  tin := h.tin
  cin := h.cin
  snd := h.snd
  cls := h.cls
  dne := by
    intro u hu
    rcases List.mem_append.1 hu with hu | hu
    · exact h.dne u hu
    · rw [List.mem_singleton.1 hu]; exact hv
theorem BQ_new {o : List JNode} {i t : Nat} {D T : List Nat} {S : List Bool} {v : Nat} {n : JNode} (h : BQ o i (some t) D T S) (hn : o[t]? = some n) (hv : v ∈ outs n.keys) (hvl : v < o.length) : BQ o i (some t) (D ++ [v]) (T ++ [v]) (S.set v true) := by
  have hl := h.len
  have hself : (S.set v true)[v]? = some true := List.getElem?_set_self (by omega)
  have hmono : ∀ u : Nat, S[u]? = some true → (S.set v true)[u]? = some true := by
    intro u hu
    by_cases e : v = u
    · subst e; exact hself
    · rw [List.getElem?_set_ne e]; exact hu
  have hR : Rch o i v := by
    rcases h.cin t rfl with rfl | hr
    · exact .one hn hv
    · exact .more hr hn hv
  refine ⟨by simp [hl], ?_, h.cin, ?_, ?_, ?_⟩
  · intro u hu
    rcases List.mem_append.1 hu with hu | hu
    · exact h.tin u hu
    · rw [List.mem_singleton.1 hu]; exact ⟨hvl, .inr hR⟩
  · intro u hu
    by_cases e : v = u
    · subst e; exact hR
    · rw [List.getElem?_set_ne e] at hu; exact h.snd u hu
  · intro u hu hT hc x hx w hw
    have hne : ¬ v = u := fun e => hT (List.mem_append_right _ (List.mem_singleton.2 e.symm))
    refine hmono w (h.cls u (hu.imp id fun hu => ?_) (fun hm => hT (List.mem_append_left _ hm)) hc x hx w hw)
    rwa [List.getElem?_set_ne hne] at hu
  · intro u hu
    rcases List.mem_append.1 hu with hu | hu
    · exact hmono u (h.dne u hu)
    · rw [List.mem_singleton.1 hu]; exact hself
theorem BQ_done {o : List JNode} {i t : Nat} {D T : List Nat} {S : List Bool} {n : JNode} (h : BQ o i (some t) D T S) (hn : o[t]? = some n) (hD : D = outs n.keys) : BQ o i none [] T S where
  len := h.len
  tin := h.tin
  cin := by intro u hu; cases hu
  snd := h.snd
  cls := by
    intro u hu hT _ x hx w hw
    by_cases e : t = u
    · subst e; rw [hn] at hx; cases hx; exact h.dne w (hD ▸ hw)
    · exact h.cls u hu hT (fun e2 => e (Option.some.inj e2)) x hx w hw
  dne := by intro v h; cases h
noncomputable def reachL (o : List JNode) (i : Nat) : List Bool := (List.range o.length).map fun u => pb (Rch o i u)
theorem BQ_end {o : List JNode} {i : Nat} {S : List Bool} (h : BQ o i none [] [] S) : S = reachL o i := by
  apply List.ext_getElem?
  intro u
  unfold reachL
  by_cases hu : u < o.length
  · rw [List.getElem?_map, List.getElem?_range hu, Option.map_some]
    have hS : u < S.length := by rw [h.len]; exact hu
    cases hx : S[u] with
    | true =>
      have h1 : S[u]? = some true := by rw [List.getElem?_eq_getElem hS, hx]
      rw [h1, pb_t (h.snd u h1)]
    | false =>
      have h1 : S[u]? = some false := by rw [List.getElem?_eq_getElem hS, hx]
      rw [h1, pb_f]
      intro hR
      have := Rch.closed (fun a => S[a]? = some true) (fun n hn b hb => h.cls i (.inl rfl) (by simp) (by simp) n hn b hb) (fun a n ha hn b hb => h.cls a (.inr ha) (by simp) (by simp) n hn b hb) hR
      rw [h1] at this; cases this
  · rw [List.getElem?_eq_none (by rw [h.len]; omega), List.getElem?_eq_none (by simp; omega)]
theorem outs_take {l : List JKey} {k : Nat} {x : JKey} (hx : l[k]? = some x) : outs (l.take (k + 1)) = outs (l.take k) ++ outK x := by
  rw [List.take_add_one, hx]; simp [outs]
theorem outD_take {l : List JKid} {k : Nat} {x : JKid} (hx : l[k]? = some x) : outD (l.take (k + 1)) = outD (l.take k) ++ [x.node.toNat] := by
  rw [List.take_add_one, hx]; simp [outD]
theorem mem_outs {l : List JKey} {k : Nat} {x : JKey} (hx : l[k]? = some x) (hp : plc x.name = true) {j : Nat} {d : JKid} (hd : x.kids[j]? = some d) : d.node.toNat ∈ outs l := by
  refine List.mem_flatMap.2 ⟨x, List.mem_of_getElem? hx, ?_⟩
  rw [outK, if_pos hp]
  exact List.mem_map.2 ⟨d, List.mem_of_getElem? hd, rfl⟩
def intc (l : List Nat) : List AV := l.map fun (t : Nat) => .int .i64 (t : Int)
def boolc (l : List Bool) : List AV := l.map .bool
theorem intc_len (l : List Nat) : (intc l).length = l.length := by simp [intc]
theorem boolc_len (l : List Bool) : (boolc l).length = l.length := by simp [boolc]
theorem boolc_get {l : List Bool} {i : Nat} {x : Bool} (h : l[i]? = some x) : (boolc l)[i]? = some (.bool x) := by simp [boolc, h]
theorem boolc_set (l : List Bool) (i : Nat) (b : Bool) : (boolc l).set i (.bool b) = boolc (l.set i b) := by simp [boolc, List.map_set]
theorem intc_head (p : List Nat) (t : Nat) (r : List Nat) : (intc (p ++ t :: r))[p.length]? = some (.int .i64 (t : Int)) := by simp [intc]
theorem intc_drop (p r : List Nat) (v : Nat) : (intc (p ++ r)).drop (p.length * 1) ++ [.int .i64 (v : Int)] = intc ([] ++ (r ++ [v])) := by simp [intc]
section
variable [GLay]
@[simp] theorem intc_lt (n : Nat) (l : List Nat) : AV.ltL n (intc l) := by
  rw [AV.ltL_iff]; intro a ha; simp [intc] at ha; obtain ⟨x, _, rfl⟩ := ha; trivial
@[simp] theorem boolc_lt (n : Nat) (l : List Bool) : AV.ltL n (boolc l) := by
  rw [AV.ltL_iff]; intro a ha; simp [boolc] at ha; rcases ha with ⟨_, rfl⟩ | ⟨_, rfl⟩ <;> trivial
end
def boolr (l : List Bool) : List (List AV) := l.map fun b => [.bool b]
theorem boolr_flat (l : List Bool) : (boolr l).flatten = boolc l := by
  induction l with
  | nil => rfl
  | cons a r ih => simp only [boolr, List.map_cons, List.flatten_cons] at ih ⊢; rw [ih]; rfl
end Lg
namespace Lg
open Go
section
variable [GLay]
@[simp] theorem boolr_lt (n : Nat) (l : List Bool) : AV.ltLL n (boolr l) := by
  rw [AV.ltLL_iff]; intro e he; simp only [boolr, List.mem_map] at he; obtain ⟨x, _, rfl⟩ := he; exact ⟨trivial, trivial⟩
theorem boolr_el (l : List Bool) : ∀ r ∈ boolr l, r.length = 1 := by
  intro r hr; simp only [boolr, List.mem_map] at hr; obtain ⟨x, _, rfl⟩ := hr; rfl
theorem boolr_len (l : List Bool) : (boolr l).length = l.length := by simp [boolr]
structure LOK (o : List JNode) : Prop where
  kr : ∀ n ∈ o, KR o.length n
  kz : ∀ n ∈ o, KZ n
  le : o.length ≤ 200
  sz : ∀ n ∈ o, n.path.size ≤ 100000000000
theorem LOK.out {o : List JNode} (h : LOK o) : OR o := by
  intro n hn d hd
  obtain ⟨k, hk, hd⟩ := List.mem_flatMap.1 hd
  unfold outK at hd
  split at hd
  · obtain ⟨x, hx, rfl⟩ := List.mem_map.1 hd
    have := h.kr n hn k hk x hx
    omega
  · cases hd
end
end Lg
set_option maxRecDepth 20000
set_option maxHeartbeats 4000000
namespace Lg
open Go Go.Proofs Go.RowKit
variable [GLay] 
theorem plc_c (nm : ByteArray) (σ : List AO) : ACalls Tryd.prog 23 [.str nm] σ (Ret (.bool (plc nm)) σ) := by
 refine ACalls_body Tryd.func23 rfl Tryd.ntmps23 (res1 Tryd.results23) (Nat.le_of_ble_eq_true rfl) (fun hcl hal => ?_)
 refine zw1 ?_
 refine zu3 ?_
 refine zsp 5 rfl (fun h1 => ?_) fun h1 => ?_
 ·rw [h1]; replace h1 := zcl h1
  refine zg10 ?_
  refine zg6 ?_
  refine zon ?_
  refine zrt ?_
  refine ResQ_10 rfl hcl trivial (Ret_of ?_)
  simp_all [plc, cREF, cALL, cANY, cONE, cNOT] <;> congr
 ·rw [h1]; replace h1 := zcl h1
  refine zg4 ?_
  refine zsp 9 rfl (fun h2 => ?_) fun h2 => ?_
  ·rw [h2]; replace h2 := zcl h2
   refine zg10 ?_
   refine zg2 ?_
   refine zon ?_
   refine zrt ?_
   refine ResQ_10 rfl hcl trivial (Ret_of ?_)
   simp_all [plc, cREF, cALL, cANY, cONE, cNOT] <;> congr
  ·rw [h2]; replace h2 := zcl h2
   refine zg4 ?_
   refine zsp 13 rfl (fun h3 => ?_) fun h3 => ?_
   ·rw [h3]; replace h3 := zcl h3
    refine zv8 ?_
    refine zrt ?_
    refine ResQ_10 rfl hcl trivial (Ret_of ?_)
    simp_all [plc, cREF, cALL, cANY, cONE, cNOT] <;> congr
   ·rw [h3]; replace h3 := zcl h3
    refine zg4 ?_
    refine zsp 17 rfl (fun h4 => ?_) fun h4 => ?_
    ·rw [h4]; replace h4 := zcl h4
     refine zv4 ?_
     refine zrt ?_
     refine ResQ_10 rfl hcl trivial (Ret_of ?_)
     simp_all [plc, cREF, cALL, cANY, cONE, cNOT] <;> congr
    ·rw [h4]; replace h4 := zcl h4
     refine zv4 ?_
     refine zrt ?_
     refine ResQ_10 rfl hcl trivial (Ret_of ?_)
     simp_all [plc, cREF, cALL, cANY, cONE, cNOT] <;> congr

theorem reach_c (f : Bool) (o : List JNode) (es : List (List AV)) (i : Nat) (σ : List AO) (he : es = noder o) (hok : LOK o) (hi : i < o.length) : ACalls Tryd.prog 12 [.sl f 4 es, .int .i64 (i : Int)] σ (Ret (.sl false 1 (boolr (reachL o i))) σ) := by
 refine ACalls_body Tryd.func12 rfl Tryd.ntmps12 (res1 Tryd.results12) (Nat.le_of_ble_eq_true rfl) (fun hcl hal => ?_)
 subst he
 have hnl := noder_len o
 have hll := hok.le
 have hor := hok.out
 refine zw1 ?_
 refine zu2 ?_
 refine zt rfl (op_makeSlice1 (n := (noder o).length) (c := .bool false) (b := .bool false) rfl Tryd.underlying51 Tryd.type4 rfl rfl rfl (fun s => .bool false) rfl rfl (by omega) (by omega) (by decide)) ?_
 refine zv1 ?_
 refine zu1 ?_
 refine zt rfl (op_buildSliceArrT rfl (n := 1) (cs := [.int .i64 (i : Int)]) rfl rfl (op_buildSliceArr rfl Tryd.underlying72 Tryd.sizeOf3 Tryd.zeroValue3 rfl (by decide) (by decide) rfl rfl rfl)) ?_
 refine zv1 ?_
 refine AWp_seq ?_
 refine AWp_block ?_
 -- loop 0 LIVE 0:param 4:assign 5:assign 6:assign
 refine AWp_heap (σ' := σ ++ [.arr 1 0 (boolc (List.replicate o.length false)), .arr 1 0 (intc ([] ++ [i]))]) (by rw [hnl]; simp [boolc, intc]) ?_
 refine AWp_loop (ι := List Nat × List Nat × List Bool × Nat) (fun z => BQ o i none [] z.2.1 z.2.2.1 ∧ cntF z.2.2.1 + z.2.1.length ≤ o.length + 1) (fun z => ⟨[], [(0, .sl f 4 (noder o)), (5, .arr (σ.length + 0) 0 1 0 o.length), (6, .arr (σ.length + 1) z.2.2.2 1 z.1.length z.2.1.length)]⟩) (fun z => σ ++ [.arr 1 0 (boolc z.2.2.1), .arr 1 z.2.2.2 (intc (z.1 ++ z.2.1))]) (fun z => cntF z.2.2.1 + z.2.1.length) (([], [i], List.replicate o.length false, 0)) (⟨BQ_start hi, by simp [cntF]⟩) ?_ rfl (fun z hz => ?_)
 ·exact ⟨rfl, rfl, by rw [← hnl]; rfl, rfl, trivial⟩
 obtain ⟨pr, T0, S, g⟩ := z
 obtain ⟨hz, hzc⟩ := hz
 simp only at hz hzc ⊢
 refine AWp_seq ?_
 refine zu1 ?_
 refine zt rfl (op_lenS rfl rfl Tryd.underlying72 rfl rfl ⟨_, _, (get_own 1).trans rfl⟩) ?_
 refine zv1 ?_
 refine AWp_cond rfl (fun h1 => ?_) (fun h1 => ?_)
 ·(try rw [h1]); replace h1 := zcl h1
  obtain ⟨t, T, rfl⟩ : ∃ t r, T0 = t :: r := by cases T0 with | nil => simp at h1 | cons t r => exact ⟨t, r, rfl⟩
  have htl := (hz.tin t (.head _)).1
  obtain ⟨n, hn⟩ : ∃ n, o[t]? = some n := ⟨_, List.getElem?_eq_getElem htl⟩
  have hnm := List.mem_of_getElem? hn
  have hnk := hok.kz n hnm
  have hnk1 := hnk.1
  have hyl := keyr_len n.keys
  refine AWp_skip ?_
  refine AWp_block ?_
  refine zu2 ?_
  refine zt rfl (op_indexAddrArr rfl Tryd.underlying72 Tryd.sizeOf3 rfl ((get_own 1).trans rfl) rfl (by omega) (by simp)) ?_
  refine zt rfl (op_load1 rfl Tryd.isAgg3 (ldv_el (j := 1) (i := pr.length) rfl (intc_head _ _ _) (by simp))) ?_
  refine zt rfl (op_indexAddr rfl Tryd.underlying31 Tryd.sizeOf45 rfl rfl (by omega) (noder_get hn)) ?_
  refine zv3 ?_
  refine zu1 ?_
  refine zt rfl (op_sliceArr 1 ((t :: T).length : Nat) rfl Tryd.underlying72 Tryd.sizeOf3 rfl ((get_own 1).trans rfl) (by first | exact ⟨_, rfl⟩ | rfl) (by first | exact ⟨_, rfl⟩ | rfl) (by omega) (by simp; omega) (by omega)) ?_
  rw [show pr.length + Int.toNat 1 = (pr ++ [t]).length by simp, show (((t :: T).length : Nat) : Int).toNat - Int.toNat 1 = T.length by simp]
  refine zv1 ?_
  refine AWp_seq ?_
  refine AWp_heap (σ' := σ ++ [.arr 1 0 (boolc S), .arr 1 g (intc ((pr ++ [t]) ++ T)), .box [.str n.path, .bool n.all, .bool n.pass, .sl false 10 (keyr n.keys)]]) (by simp) ?_
  refine AWp_regL ?_
  refine zv1 ?_
  refine AWp_block ?_
  -- loop 1 LIVE 4:assign 5:assign 6:assign 7:alloc 8:assign
  refine AWp_loop (ι := Nat × List Nat × List Nat × List Bool × Nat) (fun y => y.1 ≤ n.keys.length ∧ BQ o i (some t) (outs (n.keys.take y.1)) y.2.2.1 y.2.2.2.1 ∧ cntF y.2.2.2.1 + y.2.2.1.length = cntF S + T.length) (fun y => ⟨[], [(0, .sl f 4 (noder o)), (5, .arr (σ.length + 0) 0 1 0 o.length), (6, .arr (σ.length + 1) y.2.2.2.2 1 y.2.1.length y.2.2.1.length), (7, .ptr (σ.length + 2) 0), (8, .int .i64 (y.1 : Int))]⟩) (fun y => σ ++ [.arr 1 0 (boolc y.2.2.2.1), .arr 1 y.2.2.2.2 (intc (y.2.1 ++ y.2.2.1)), .box [.str n.path, .bool n.all, .bool n.pass, .sl false 10 (keyr n.keys)]]) (fun y => n.keys.length - y.1) ((0, pr ++ [t], T, S, g)) (⟨Nat.zero_le _, by simpa [outs] using BQ_pop hz, rfl⟩) ?_ rfl (fun y hy => ?_)
  ·exact ⟨rfl, rfl, rfl, rfl, rfl, rfl, trivial⟩
  obtain ⟨k, pq, Tq, Sq, gq⟩ := y
  obtain ⟨hy1, hy2, hy3⟩ := hy
  simp only at hy1 hy2 hy3 ⊢
  refine AWp_seq ?_
  refine zw5 ?_
  refine AWp_cond rfl (fun h2 => ?_) (fun h2 => ?_)
  ·(try rw [h2]); replace h2 := zcl h2
   obtain ⟨q, hq⟩ : ∃ q, n.keys[k]? = some q := ⟨_, List.getElem?_eq_getElem (show k < n.keys.length by omega)⟩
   have hqm := List.mem_of_getElem? hq
   have hqk := (hnk.2 q hqm).2.2
   have hdl := kidr_len q.kids
   refine AWp_skip ?_
   refine AWp_seq ?_
   refine AWp_block ?_
   refine zu3 ?_
   refine zt rfl (op_indexAddr rfl Tryd.underlying43 Tryd.sizeOf48 rfl rfl (by omega) (keyr_get hq)) ?_
   refine zg2 ?_
   refine zt rfl (zc rfl (plc_c q.name _)) ?_
   refine zv1 ?_
   refine zw1 ?_
   refine AWp_block ?_
   -- loop 2 LIVE 4:assign 5:assign 6:assign 7:alloc 8:assign 9:assign 10:assign
   refine AWp_loop (ι := Nat × List Nat × List Nat × List Bool × Nat) (fun x => (plc q.name = true → x.1 ≤ q.kids.length) ∧ (plc q.name = false → x.1 = 0) ∧ BQ o i (some t) (outs (n.keys.take k) ++ (if plc q.name = true then outD (q.kids.take x.1) else [])) x.2.2.1 x.2.2.2.1 ∧ cntF x.2.2.2.1 + x.2.2.1.length = cntF S + T.length) (fun x => ⟨[], [(0, .sl f 4 (noder o)), (5, .arr (σ.length + 0) 0 1 0 o.length), (6, .arr (σ.length + 1) x.2.2.2.2 1 x.2.1.length x.2.2.1.length), (7, .ptr (σ.length + 2) 0), (8, .int .i64 (k : Int)), (9, .bool (plc q.name)), (10, .int .i64 (x.1 : Int))]⟩) (fun x => σ ++ [.arr 1 0 (boolc x.2.2.2.1), .arr 1 x.2.2.2.2 (intc (x.2.1 ++ x.2.2.1)), .box [.str n.path, .bool n.all, .bool n.pass, .sl false 10 (keyr n.keys)]]) (fun x => q.kids.length - x.1) ((0, pq, Tq, Sq, gq)) (⟨fun _ => Nat.zero_le _, fun _ => rfl, by simpa [outD] using hy2, hy3⟩) ?_ rfl (fun x hx => ?_)
   ·exact ⟨rfl, rfl, rfl, rfl, rfl, rfl, rfl, rfl, trivial⟩
   obtain ⟨j, px, Tx, Sx, gx⟩ := x
   obtain ⟨hx1, hx2, hx3, hx4⟩ := hx
   simp only at hx1 hx2 hx3 hx4 ⊢
   simp only [List.length_cons] at hzc
   refine AWp_seq ?_
   refine zu4 ?_
   refine zt rfl (op_indexAddr rfl Tryd.underlying43 Tryd.sizeOf48 rfl rfl (by omega) (keyr_get hq)) ?_
   rw [keyc_eq]
   refine zg5 ?_
   refine zsp 51 rfl (fun h3 => ?_) fun h3 => ?_
   ·rw [h3]; replace h3 := zcl h3
    refine zv2 ?_
    refine AWp_cond rfl (fun h4 => ?_) (fun h4 => ?_)
    ·(try rw [h4]); replace h4 := zcl h4
     obtain ⟨d, hd⟩ : ∃ d, q.kids[j]? = some d := ⟨_, List.getElem?_eq_getElem (show j < q.kids.length by omega)⟩
     have hdr := hok.kr n hnm q hqm d (List.mem_of_getElem? hd)
     obtain ⟨dn, hdn⟩ : ∃ k : Nat, d.node = k := ⟨d.node.toNat, by omega⟩
     have hdo := mem_outs hq h4 hd
     rw [hdn] at hdr
     have hdt : d.node.toNat = dn := by rw [hdn]; rfl
     rw [hdt] at hdo
     have hSl := hx3.len
     obtain ⟨sb, hsb⟩ : ∃ b, Sx[dn]? = some b := ⟨_, List.getElem?_eq_getElem (show dn < Sx.length by omega)⟩
     have hj1 := hx1 h4
     rw [if_pos h4] at hx3
     refine AWp_skip ?_
     refine AWp_seq ?_
     refine AWp_block ?_
     refine zu3 ?_
     refine zt rfl (op_indexAddr rfl Tryd.underlying43 Tryd.sizeOf48 rfl rfl (by omega) (keyr_get hq)) ?_
     rw [keyc_eq]
     refine zg3 ?_
     refine zt rfl (op_indexAddr rfl Tryd.underlying46 Tryd.sizeOf50 rfl rfl (by omega) (kidr_get hd)) ?_
     refine zg2 ?_
     rw [hdn]
     refine zv1 ?_
     refine zu2 ?_
     refine zt rfl (op_indexAddrAO (j := 0) rfl Tryd.underlying51 Tryd.sizeOf4 rfl rfl (by omega) (by omega) rfl) ?_
     refine zt rfl (op_load1 rfl Tryd.isAgg4 (ldv_el (j := 0) (i := dn) rfl (boolc_get hsb) (by simp))) ?_
     refine zv1 ?_
     refine AWp_cond rfl (fun h5 => ?_) (fun h5 => ?_)
     ·(try rw [h5]); replace h5 := zcl h5
      refine zu2 ?_
      refine zt rfl (op_indexAddrAO (j := 0) rfl Tryd.underlying51 Tryd.sizeOf4 rfl rfl (by omega) (by omega) rfl) ?_
      refine ztN rfl rfl (op_storeEl1 (j := 0) (i := dn) rfl Tryd.sizeOf4 rfl rfl rfl rfl (by simp) rfl (by rw [boolc_len]; omega)) ?_
      refine zon ?_
      refine AWp_regL ?_
      refine zg2 ?_
      refine zt rfl (op_buildSlice [[_]] rfl Tryd.underlying72 Tryd.sizeOf3 Tryd.zeroValue3 rfl (by decide) (by decide) rfl rfl rfl rfl rfl) ?_
      refine zt rfl (op_appendArr (p := σ.length + 1) (off := px.length) (len := Tx.length) (sz := 1) (m := 1) (cs := [.int .i64 (dn : Int)]) rfl (.inr ⟨_, rfl⟩) Tryd.underlying72 Tryd.underlying72 Tryd.type3 rfl rfl rfl (by decide) rfl ((get_own 1).trans rfl) (by rw [intc_len]; simp) rfl rfl rfl (by show (Tx.length + 1) * 8 ≤ _; omega) (by omega) rfl) ?_
      rw [set_own]
      refine zv1 ?_
      refine AWp_regL ?_
      refine zv3 ?_
      have hsf : Sx[dn]? = some false := by cases sb <;> simp_all
      have hcs := cntF_set hsf
      refine ⟨(j + 1, [], Tx ++ [dn], Sx.set dn true, gx + 1), σ.length + 3, ⟨fun _ => by simp only; omega, (fun h => by cases h), ?_, by simp only [List.length_append, List.length_singleton]; omega⟩, by simp only; omega, by simp, ⟨rfl, rfl, rfl, by rw [List.length_append]; rfl, rfl, rfl, rfl, rfl, trivial⟩, closed_own 3 hcl ?_, ?_, ?_⟩
      ·show BQ o i (some t) (outs (n.keys.take k) ++ outD (q.kids.take (j + 1))) (Tx ++ [dn]) (Sx.set dn true)
       rw [outD_take hd, hdt, ← List.append_assoc]; exact BQ_new hx3 hn hdo (by omega)
      ·rw [boolc_set, intc_drop]; simp [ownLt, AO.cells, AV.ltL, AV.lt]
      ·simp [ltE, AV.lt, AV.ltL]
      ·refine (take_own 3).trans ?_
       rw [boolc_set, intc_drop]; rfl
     ·(try rw [h5]); replace h5 := zcl h5
      refine AWp_skip ?_
      refine AWp_regL ?_
      refine zv3 ?_
      have hst : Sx[dn]? = some true := by cases sb <;> simp_all
      refine ⟨(j + 1, px, Tx, Sx, gx), σ.length + 3, ⟨fun _ => by simp only; omega, (fun h => by cases h), ?_, hx4⟩, by simp only; omega, by simp, ⟨rfl, rfl, rfl, rfl, rfl, rfl, rfl, rfl, trivial⟩, closed_own 3 hcl ?_, ?_, take_own 3⟩
      ·show BQ o i (some t) (outs (n.keys.take k) ++ outD (q.kids.take (j + 1))) Tx Sx
       rw [outD_take hd, hdt, ← List.append_assoc]; exact BQ_old hx3 hst
      ·simp [ownLt, AO.cells, AV.ltL, AV.lt]
      ·simp [ltE, AV.lt, AV.ltL]
    ·(try rw [h4]); replace h4 := zcl h4
     refine AWp_exit ?_
     refine AWp_regL ?_
     refine zv3 ?_
     have hD : outs (n.keys.take (k + 1)) = outs (n.keys.take k) ++ (if plc q.name = true then outD (q.kids.take j) else []) := by
      rw [outs_take hq, outK]
      by_cases hp : plc q.name = true
      ·rw [hp] at h4; cases h4
      ·rw [if_neg hp, if_neg hp]
     refine ⟨(k + 1, px, Tx, Sx, gx), σ.length + 3, ⟨by simp only; omega, by rw [hD]; exact hx3, hx4⟩, by simp only; omega, by simp, ⟨rfl, rfl, rfl, rfl, rfl, rfl, trivial⟩, closed_own 3 hcl ?_, ?_, take_own 3⟩
     ·simp [ownLt, AO.cells, AV.ltL, AV.lt]
     ·simp [ltE, AV.lt, AV.ltL]
   ·rw [h3]; replace h3 := zcl h3
    refine zv2 ?_
    refine AWp_condF rfl ?_
    refine AWp_exit ?_
    refine AWp_regL ?_
    refine zv3 ?_
    have hD : outs (n.keys.take (k + 1)) = outs (n.keys.take k) ++ (if plc q.name = true then outD (q.kids.take j) else []) := by
     rw [outs_take hq, outK]
     by_cases hp : plc q.name = true
     ·rw [if_pos hp, if_pos hp, List.take_of_length_le (l := q.kids) (i := j) (by omega)]
     ·rw [if_neg hp, if_neg hp]
    refine ⟨(k + 1, px, Tx, Sx, gx), σ.length + 3, ⟨by simp only; omega, by rw [hD]; exact hx3, hx4⟩, by simp only; omega, by simp, ⟨rfl, rfl, rfl, rfl, rfl, rfl, trivial⟩, closed_own 3 hcl ?_, ?_, take_own 3⟩
    ·simp [ownLt, AO.cells, AV.ltL, AV.lt]
    ·simp [ltE, AV.lt, AV.ltL]
  ·(try rw [h2]); replace h2 := zcl h2
   refine AWp_exit ?_
   refine ⟨(pq, Tq, Sq, gq), σ.length + 2, ⟨BQ_done hy2 hn (by rw [List.take_of_length_le (by omega)]), by simp only [List.length_cons] at hzc ⊢; omega⟩, by simp only [List.length_cons]; omega, by simp, ⟨rfl, rfl, rfl, rfl, trivial⟩, closed_own 2 hcl ?_, ?_, take_own 2⟩
   ·simp [ownLt, AO.cells, AV.ltL, AV.lt]
   ·simp [ltE, AV.lt, AV.ltL]
 ·(try rw [h1]); replace h1 := zcl h1
  have hT0 : T0 = [] := by cases T0 with | nil => rfl | cons t r => simp at h1; omega
  subst hT0
  refine AWp_exit ?_
  refine zw2 ?_
  have hS := BQ_end hz
  refine AWp_freezeAO 4 0 0 1 o.length (boolr S) rfl (by rw [boolr_flat]; rfl) (boolr_el _) (by rw [boolr_len]; exact hz.len) (by decide) ?_ (by decide)
  refine zrt ?_
  rw [← hS]
  exact ResQ_1 rfl hcl (by simp [AV.lt]) (Ret_of rfl)
end Lg
namespace Lg
open Go Go.RowKit
variable [GLay]
section
variable {P : Program} {σ : List AO} {e : Env} {o : Oper}
end
end Lg
namespace Lg
open Go Go.RowKit
variable [GLay]
section
variable {P : Program} {σ σ' : List AO} {e : Env} {o : Oper}
theorem AOp.resLe {v w : AV} (h : AOp P σ e o v σ') (hle : AVle v w) : AOp P σ e o w σ' := by
  intro s a hs g hv K Q hk hq
  exact h s a hs g hv K Q (fun v' cv s' ⟨hv', hs'⟩ g' x' hV => hk w cv s' ⟨rfl, hs'⟩ g' x' (hle _ _ (hv' ▸ hV))) hq
end
end Lg
namespace Lg
open Go
section
variable [GLay]
theorem lk1_ref {l : List JNode} {q : JKey} (h : q.name = cREF) (ht : ¬ tgtI q.v.s l < 0) : lk1 l q = some ⟨q.name, q.v, [⟨e0, tgtI q.v.s l⟩]⟩ := by unfold lk1; rw [if_pos h, if_neg ht]
theorem lk1_bad {l : List JNode} {q : JKey} (h : q.name = cREF) (ht : tgtI q.v.s l < 0) : lk1 l q = none := by unfold lk1; rw [if_pos h, if_pos ht]
theorem lk1_no {l : List JNode} {q : JKey} (h : ¬ q.name = cREF) : lk1 l q = some q := by unfold lk1; rw [if_neg h]
theorem lkk_bad {l : List JNode} {q : JKey} {r a : List JKey} (h : lk1 l q = none) : lkk l (q :: r) a = none := by rw [lkk, h]
theorem lkk_go {l : List JNode} {q q2 : JKey} {r a : List JKey} (h : lk1 l q = some q2) : lkk l (q :: r) a = lkk l r (a ++ [q2]) := by rw [lkk, h]
theorem lkn_bad {l r a : List JNode} {n : JNode} (h : lkk l n.keys [] = none) : lkn l (n :: r) a = ([], 12, n.path ++ cREFP) := by rw [lkn, h]
theorem lkn_go {l r a : List JNode} {n : JNode} {ks : List JKey} (h : lkk l n.keys [] = some ks) : lkn l (n :: r) a = lkn l r (a ++ [⟨n.path, n.all, n.pass, ks⟩]) := by rw [lkn, h]
theorem lkc_y {o r : List JNode} {n : JNode} {i : Nat} (h : pb (Rch o i i) = true) : lkc o (n :: r) i = (13, n.path) := by rw [lkc, if_pos h]
theorem lkc_n {o r : List JNode} {n : JNode} {i : Nat} (h : pb (Rch o i i) = false) : lkc o (n :: r) i = lkc o r (i + 1) := by rw [lkc, if_neg (by rw [h]; decide)]
theorem jlink_r {l : List JNode} {p : ByteArray} (h : lkn l l [] = ([], 12, p)) : jlink l = ([], 12, p) := by unfold jlink; simp [h]
theorem jlink_c {l o : List JNode} {p : ByteArray} (h : lkn l l [] = (o, 0, e0)) (h2 : lkc o o 0 = (13, p)) : jlink l = ([], 13, p) := by unfold jlink; simp [h, h2]
theorem jlink_y {l o : List JNode} (h : lkn l l [] = (o, 0, e0)) (h2 : lkc o o 0 = (0, e0)) : jlink l = (o, 0, e0) := by unfold jlink; simp [h, h2]
theorem lk1_ok {l : List JNode} {q q2 : JKey} {N : Nat} (hN : l.length ≤ N) (h : lk1 l q = some q2) (hd : DR N q.kids) (hz : q.name.size ≤ 1000000 ∧ jb q.v ∧ q.kids.length ≤ 1000000) : DR N q2.kids ∧ q2.name.size ≤ 1000000 ∧ jb q2.v ∧ q2.kids.length ≤ 1000000 := by
  unfold lk1 at h
  split at h
  · split at h
    · cases h
    · rename_i ht
      cases h
      refine ⟨fun d hdm => ?_, hz.1, hz.2.1, by simp⟩
      rw [List.mem_singleton.1 hdm]
      have := (tgtI_lt q.v.s l).1
      exact ⟨by simp only; omega, by simp only; omega⟩
  · cases h; exact ⟨hd, hz⟩
theorem lkk_ok {l : List JNode} {N : Nat} (hN : l.length ≤ N) : ∀ (r a ks : List JKey), lkk l r a = some ks → (YR N r ∧ YZ r) → (YR N a ∧ YZ a) → (YR N ks ∧ YZ ks) ∧ ks.length = a.length + r.length
  | [], a, ks, h, _, ha => by cases h; exact ⟨ha, rfl⟩
  | q :: r, a, ks, h, hr, ha => by
    cases h1 : lk1 l q with
    | none => rw [lkk_bad h1] at h; cases h
    | some q2 =>
      rw [lkk_go h1] at h
      have g := lk1_ok hN h1 (hr.1 q (.head _)) (hr.2 q (.head _))
      have ih := lkk_ok hN r (a ++ [q2]) ks h ⟨fun k hk => hr.1 k (.tail _ hk), fun k hk => hr.2 k (.tail _ hk)⟩ ⟨fun k hk => by
        rcases List.mem_append.1 hk with hk | hk
        · exact ha.1 k hk
        · rw [List.mem_singleton.1 hk]; exact g.1, fun k hk => by
        rcases List.mem_append.1 hk with hk | hk
        · exact ha.2 k hk
        · rw [List.mem_singleton.1 hk]; exact g.2⟩
      refine ⟨ih.1, ?_⟩
      rw [ih.2]; simp; omega
def NG (N : Nat) (n : JNode) : Prop := KR N n ∧ KZ n ∧ n.path.size ≤ 100000000000
theorem lkn_ok {l : List JNode} {N : Nat} (hN : l.length ≤ N) : ∀ (r a o : List JNode) (p : ByteArray), lkn l r a = (o, 0, p) → (∀ n ∈ r, NG N n) → (∀ n ∈ a, NG N n) → (∀ n ∈ o, NG N n) ∧ o.length = a.length + r.length
  | [], a, o, p, h, _, ha => by cases h; exact ⟨ha, rfl⟩
  | n :: r, a, o, p, h, hr, ha => by
    cases h1 : lkk l n.keys [] with
    | none => rw [lkn_bad h1] at h; cases h
    | some ks =>
      rw [lkn_go h1] at h
      have hn := hr n (.head _)
      have g := lkk_ok hN n.keys [] ks h1 ⟨hn.1, hn.2.1.2⟩ ⟨fun k hk => (by cases hk), fun k hk => (by cases hk)⟩
      have ih := lkn_ok hN r _ o p h (fun x hx => hr x (.tail _ hx)) (fun x hx => by
        rcases List.mem_append.1 hx with hx | hx
        · exact ha x hx
        · rw [List.mem_singleton.1 hx]
          exact ⟨g.1.1, ⟨by have := hn.2.1.1; have := g.2; simp at this; show ks.length ≤ _; omega, g.1.2⟩, hn.2.2⟩)
      refine ⟨ih.1, ?_⟩
      rw [ih.2]; simp; omega
theorem lkn_LOK {l o : List JNode} {p : ByteArray} (hl : NOK l) (h : lkn l l [] = (o, 0, p)) : LOK o ∧ o.length = l.length := by
  have := lkn_ok (Nat.le_refl _) l [] o p h (fun n hn => ⟨hl.kr n hn, hl.kz n hn, hl.sz n hn⟩) (fun n hn => by cases hn)
  have e : o.length = l.length := by simpa using this.2
  exact ⟨⟨fun n hn => e ▸ (this.1 n hn).1, fun n hn => (this.1 n hn).2.1, by rw [e]; exact hl.le, fun n hn => (this.1 n hn).2.2⟩, e⟩
theorem reachL_get {o : List JNode} {i : Nat} (hi : i < o.length) : (boolr (reachL o i))[i]? = some [.bool (pb (Rch o i i))] := by
  unfold boolr reachL
  rw [List.getElem?_map, List.getElem?_map, List.getElem?_range hi]; rfl
theorem pth_ref : pth cREF = cREFP := by decide +kernel
end
end Lg
set_option maxRecDepth 20000
set_option maxHeartbeats 4000000
namespace Lg
open Go Go.Proofs Go.RowKit
variable [GLay] 
theorem rlink_c (f : Bool) (l : List JNode) (es : List (List AV)) (σ : List AO) (he : es = noder l) (hok : NOK l) : ACalls Tryd.prog 9 [.sl f 4 es] σ (Ret (.tup [.sl false 4 (noder (jlink l).1), .int .i64 (jlink l).2.1, .str (jlink l).2.2]) σ) := by
 refine ACalls_body Tryd.func9 rfl Tryd.ntmps9 (res3 Tryd.results9) (Nat.le_of_ble_eq_true rfl) (fun hcl hal => ?_)
 subst he
 have hnl := noder_len l
 have hll := hok.le
 refine zw3 ?_
 refine zw1 ?_
 refine AWp_seq ?_
 refine zw1 ?_
 refine AWp_block ?_
 -- loop 0 LIVE 0:param 2:assign 3:assign 4:assign 5:assign 6:assign
 refine AWp_ghostT 5 4 rfl ?_ (by decide)
 refine AWp_loop (ι := Nat × List JNode) (fun z => z.1 ≤ l.length ∧ lkn l (l.drop z.1) z.2 = lkn l l [] ∧ z.2.length = z.1) (fun z => ⟨[], [(0, .sl f 4 (noder l)), (5, .arr (σ.length + 0) z.2.length 4 0 z.2.length), (6, .int .i64 (z.1 : Int))]⟩) (fun z => σ ++ [.arr 4 z.2.length (noder z.2).flatten]) (fun z => l.length - z.1) ((0, [])) (⟨Nat.zero_le _, by rw [List.drop_zero], rfl⟩) ?_ rfl (fun z hz => ?_)
 ·exact ⟨rfl, rfl, rfl, rfl, trivial⟩
 obtain ⟨i, o⟩ := z
 obtain ⟨hi1, hi2, hi3⟩ := hz
 simp only at hi1 hi2 hi3 ⊢
 refine AWp_seq ?_
 refine zw4 ?_
 refine AWp_cond rfl (fun h1 => ?_) (fun h1 => ?_)
 ·(try rw [h1]); replace h1 := zcl h1
  obtain ⟨n, hn⟩ : ∃ n, l[i]? = some n := ⟨_, List.getElem?_eq_getElem (show i < l.length by omega)⟩
  have hnm := List.mem_of_getElem? hn
  have hkz := hok.kz n hnm
  have hk1 := hkz.1
  have hyl := keyr_len n.keys
  have hps := hok.sz n hnm
  rw [drop_consN hn] at hi2
  refine AWp_skip ?_
  refine AWp_seq ?_
  refine AWp_block ?_
  refine zu2 ?_
  refine zt rfl (op_indexAddr rfl Tryd.underlying31 Tryd.sizeOf45 rfl rfl (by omega) (noder_get hn)) ?_
  refine zv3 ?_
  refine zw1 ?_
  refine AWp_seq ?_
  refine zw1 ?_
  refine AWp_block ?_
  -- loop 1 LIVE 0:param 2:assign 3:assign 4:assign 5:assign 6:assign 7:alloc 8:assign 9:assign
  refine AWp_ghostTO 8 10 2 rfl rfl ?_ (by decide)
  refine AWp_loop (ι := Nat × List JKey) (fun y => y.1 ≤ n.keys.length ∧ lkk l (n.keys.drop y.1) y.2 = lkk l n.keys [] ∧ y.2.length = y.1) (fun y => ⟨[], [(0, .sl f 4 (noder l)), (5, .arr (σ.length + 0) o.length 4 0 o.length), (6, .int .i64 (i : Int)), (7, .ptr (σ.length + 1) 0), (8, .arr (σ.length + 2) y.2.length 10 0 y.2.length), (9, .int .i64 (y.1 : Int))]⟩) (fun y => σ ++ [.arr 4 o.length (noder o).flatten, .box [.str n.path, .bool n.all, .bool n.pass, .sl false 10 (keyr n.keys)], .arr 10 y.2.length (keyr y.2).flatten]) (fun y => n.keys.length - y.1) ((0, [])) (⟨Nat.zero_le _, by rw [List.drop_zero], rfl⟩) ?_ rfl (fun y hy => ?_)
  ·exact ⟨rfl, rfl, rfl, rfl, rfl, rfl, rfl, trivial⟩
  obtain ⟨k, ks⟩ := y
  obtain ⟨hk2, hk3, hk4⟩ := hy
  simp only at hk2 hk3 hk4 ⊢
  refine AWp_seq ?_
  refine zw5 ?_
  refine AWp_cond rfl (fun h2 => ?_) (fun h2 => ?_)
  ·(try rw [h2]); replace h2 := zcl h2
   obtain ⟨q, hq⟩ : ∃ q, n.keys[k]? = some q := ⟨_, List.getElem?_eq_getElem (show k < n.keys.length by omega)⟩
   have hqz := hkz.2 q (List.mem_of_getElem? hq)
   rw [drop_consN hq] at hk3
   refine AWp_skip ?_
   refine AWp_seq ?_
   refine AWp_block ?_
   refine zu3 ?_
   refine zt rfl (op_indexAddr rfl Tryd.underlying43 Tryd.sizeOf48 rfl rfl (by omega) (keyr_get hq)) ?_
   rw [keyc_eq]
   refine zv3 ?_
   refine AWp_join (ι := JKey) (fun q2 => lk1 l q = some q2) (fun q2 => ⟨[], [(0, .sl f 4 (noder l)), (5, .arr (σ.length + 0) o.length 4 0 o.length), (6, .int .i64 (i : Int)), (7, .ptr (σ.length + 1) 0), (8, .arr (σ.length + 2) ks.length 10 0 ks.length), (9, .int .i64 (k : Int)), (10, .ptr (σ.length + 3) 0)]⟩) (fun q2 => σ ++ [.arr 4 o.length (noder o).flatten, .box [.str n.path, .bool n.all, .bool n.pass, .sl false 10 (keyr n.keys)], .arr 10 ks.length (keyr ks).flatten, .box [.str q2.name, .int .i64 q2.v.kind, .bool q2.v.b, .bool q2.v.n.neg, .str q2.v.n.digits, .int .i64 q2.v.n.exp, .str q2.v.s, .sl false 8 (lcells q2.v.l), .sl false 9 (mcells q2.v.m), .sl false 2 (kidr q2.kids)]]) ?_ (fun q2 hj => ?_)
   ·skip
    refine zw3 ?_
    refine AWp_cond rfl (fun h3 => ?_) (fun h3 => ?_)
    ·(try rw [h3]); replace h3 := zcl h3
     refine zw1 ?_
     refine AWp_seq ?_
     refine zw1 ?_
     refine AWp_block ?_
     -- loop 2 LIVE 0:param 2:assign 3:assign 4:assign 5:assign 6:assign 7:alloc 8:assign 9:assign 10:alloc 11:assign 12:assign
     refine AWp_loop (ι := Nat) (fun j => j ≤ l.length) (fun j => ⟨[], [(0, .sl f 4 (noder l)), (5, .arr (σ.length + 0) o.length 4 0 o.length), (6, .int .i64 (i : Int)), (7, .ptr (σ.length + 1) 0), (8, .arr (σ.length + 2) ks.length 10 0 ks.length), (9, .int .i64 (k : Int)), (10, .ptr (σ.length + 3) 0), (11, .int .i64 (tgtI q.v.s (l.take j))), (12, .int .i64 (j : Int))]⟩) (fun j => σ ++ [.arr 4 o.length (noder o).flatten, .box [.str n.path, .bool n.all, .bool n.pass, .sl false 10 (keyr n.keys)], .arr 10 ks.length (keyr ks).flatten, .box [.str q.name, .int .i64 q.v.kind, .bool q.v.b, .bool q.v.n.neg, .str q.v.n.digits, .int .i64 q.v.n.exp, .str q.v.s, .sl false 8 (lcells q.v.l), .sl false 9 (mcells q.v.m), .sl false 2 (kidr q.kids)]]) (fun j => l.length - j) (0) (Nat.zero_le _) ?_ rfl (fun j hj => ?_)
     ·exact ⟨rfl, rfl, rfl, rfl, rfl, rfl, rfl, rfl, rfl, rfl, trivial⟩
     refine AWp_seq ?_
     refine zw4 ?_
     refine AWp_cond rfl (fun h4 => ?_) (fun h4 => ?_)
     ·(try rw [h4]); replace h4 := zcl h4
      obtain ⟨x, hx⟩ : ∃ x, l[j]? = some x := ⟨_, List.getElem?_eq_getElem (show j < l.length by omega)⟩
      have hxs := hok.sz x (List.mem_of_getElem? hx)
      refine AWp_skip ?_
      refine AWp_seq ?_
      refine AWp_block ?_
      refine AWp_seq ?_
      refine AWp_drawL #[0, 1, 3, 0, 0, 24, 56, 120, 248, 511] Tryd.mixed (by decide +kernel) (by decide +kernel) ?_
      refine zd2 ?_
      refine zp1 ?_
      refine zd2 ?_
      refine yA rfl rfl (fun _ => op_indexAddr rfl Tryd.underlying31 Tryd.sizeOf45 rfl rfl (by omega) (noder_get hx)) ?_
      refine zd1 ?_
      refine zp1 ?_
      refine yA rfl rfl (fun _ => op_cat rfl rfl rfl (by show 1 + x.path.size ≤ _; omega)) ?_
      refine zd1 ?_
      refine RP.nil rfl ?_
      refine AWp_cond rfl (fun h5 => ?_) (fun h5 => ?_)
      ·(try rw [h5]); replace h5 := zcl h5
       refine AWp_regL ?_
       refine zv2 ?_
       refine AWp_regL ?_
       refine zv3 ?_
       refine ⟨j + 1, σ.length + 4, by omega, by omega, by simp, ⟨rfl, rfl, rfl, rfl, rfl, rfl, rfl, rfl, by rw [tgtI_take_y hok.nd hx h5]; rfl, rfl, trivial⟩, closed_own 4 hcl ?_, ?_, take_own 4⟩
       ·simp [ownLt, AO.cells, AV.ltL, AV.lt, ltL_append]
       ·simp [ltE, AV.lt, AV.ltL]
      ·(try rw [h5]); replace h5 := zcl h5
       refine AWp_skip ?_
       refine AWp_regL ?_
       refine zv3 ?_
       refine ⟨j + 1, σ.length + 4, by omega, by omega, by simp, ⟨rfl, rfl, rfl, rfl, rfl, rfl, rfl, rfl, by rw [tgtI_take_n hx h5]; rfl, rfl, trivial⟩, closed_own 4 hcl ?_, ?_, take_own 4⟩
       ·simp [ownLt, AO.cells, AV.ltL, AV.lt, ltL_append]
       ·simp [ltE, AV.lt, AV.ltL]
     ·(try rw [h4]); replace h4 := zcl h4
      have hjl : l.take j = l := List.take_of_length_le (by omega)
      rw [hjl]
      have htl := tgtI_lt q.v.s l
      refine AWp_exit ?_
      refine AWp_seq ?_
      refine zw2 ?_
      refine AWp_cond rfl (fun h6 => ?_) (fun h6 => ?_)
      ·(try rw [h6]); replace h6 := zcl h6
       refine AWp_seq ?_
       refine AWp_drawL #[0, 1, 0, 4, 15, 12, 44, 127] Tryd.mixed (by decide +kernel) (by decide +kernel) ?_
       refine zd1 ?_
       refine zp1 ?_
       refine yA rfl rfl (fun _ => op_buildSlice [[_]] rfl Tryd.underlying65 Tryd.sizeOf9 Tryd.zeroValue9 rfl (by decide) (by decide) rfl rfl rfl rfl rfl) ?_
       refine yP rfl rfl (zc rfl (rpath1_c cREF _ (by decide))) (trivial) ?_
       rw [pth_ref]
       refine yA rfl rfl (fun _ => op_cat rfl rfl rfl (by show n.path.size + 5 ≤ _; omega)) ?_
       refine zd3 ?_
       refine RP.nil rfl ?_
       refine AWp_slotLe 2 rfl (AVle.nils false 4) ?_ (by decide)
       refine zrt ?_
       rw [jlink_r (hi2.symm.trans (lkn_bad (hk3.symm.trans (lkk_bad (lk1_bad h3 h6)))))]
       exact ResQ_3 rfl rfl rfl hcl (by simp [AV.lt, AV.ltL, AV.ltLL]) ⟨rfl, rfl⟩
      ·(try rw [h6]); replace h6 := zcl h6
       refine AWp_skip ?_
       refine AWp_regL ?_
       refine zg2 ?_
       refine zt rfl (AOp.resLe (op_buildSlice [[_, _]] rfl Tryd.underlying46 Tryd.sizeOf50 Tryd.zeroValue50 rfl (by decide) (by decide) rfl rfl rfl rfl rfl) (AVle.full _ _)) ?_
       refine zv2 ?_
       exact ⟨⟨q.name, q.v, [⟨e0, tgtI q.v.s l⟩]⟩, lk1_ref h3 (by omega), ⟨rfl, rfl, rfl, rfl, rfl, rfl, rfl, rfl, trivial⟩, rfl⟩
    ·(try rw [h3]); replace h3 := zcl h3
     refine AWp_skip ?_
     exact ⟨q, lk1_no h3, ⟨rfl, rfl, rfl, rfl, rfl, rfl, rfl, rfl, trivial⟩, rfl⟩
   ·skip
    refine AWp_regL ?_
    refine zg2 ?_
    refine zt rfl (op_buildSlice [[_, _, _, _, _, _, _, _, _, _]] rfl Tryd.underlying43 Tryd.sizeOf48 Tryd.zeroValue48 rfl (by decide) (by decide) rfl rfl rfl rfl rfl) ?_
    refine zt rfl (op_appendArrT rfl 2 (sz := 10) (m := 1) (len := ks.length) (cs := _) rfl (.inr ⟨_, rfl⟩) Tryd.underlying43 Tryd.underlying43 Tryd.type48 rfl rfl rfl (by decide) rfl rfl (yflat_len ks).symm rfl rfl rfl (by show (ks.length + 1) * 152 ≤ _; omega) (by omega) rfl) ?_
    refine zv1 ?_
    refine AWp_regL ?_
    refine zv3 ?_
    refine ⟨(k + 1, ks ++ [q2]), σ.length + 3, ⟨by simp only; omega, by rw [← hk3, lkk_go hj], by simp only [List.length_append, List.length_singleton]; omega⟩, by simp only; omega, by simp, ⟨rfl, rfl, rfl, rfl, rfl, by rw [List.length_append]; rfl, rfl, trivial⟩, closed_own 3 hcl ?_, ?_, ?_⟩
    ·simp [ownLt, AO.cells, AV.ltL, AV.lt, ltL_append]
    ·simp [ltE, AV.lt, AV.ltL]
    ·refine (take_own 3).trans ?_
     rw [keyr_snoc, keyc_eq, List.length_append]; rfl
  ·(try rw [h2]); replace h2 := zcl h2
   have hks : lkk l n.keys [] = some ks := by rw [← hk3, List.drop_eq_nil_of_le (by omega)]; rfl
   refine AWp_exit ?_
   refine AWp_seq ?_
   refine AWp_freezeAO 8 2 ks.length 10 ks.length (keyr ks) rfl rfl (keyr_el _) (keyr_len _) (by decide) ?_ (by decide)
   refine AWp_regL ?_
   refine zg2 ?_
   refine ztN rfl rfl (op_storeO (r := [.str n.path, .bool n.all, .bool n.pass, .sl false 10 (keyr ks)]) rfl Tryd.sizeOf43 rfl rfl rfl rfl rfl (by decide)) ?_
   refine zon ?_
   refine AWp_regL ?_
   refine zg2 ?_
   refine zt rfl (op_buildSlice [[_, _, _, _]] rfl Tryd.underlying31 Tryd.sizeOf45 Tryd.zeroValue45 rfl (by decide) (by decide) rfl rfl rfl rfl rfl) ?_
   refine zt rfl (op_appendArrT rfl 0 (sz := 4) (m := 1) (len := o.length) (cs := _) rfl (.inr ⟨_, rfl⟩) Tryd.underlying31 Tryd.underlying31 Tryd.type45 rfl rfl rfl (by decide) rfl rfl (nflat_len o).symm rfl rfl rfl (by show (o.length + 1) * 48 ≤ _; omega) (by omega) rfl) ?_
   refine zv1 ?_
   refine AWp_regL ?_
   refine zv3 ?_
   refine ⟨(i + 1, o ++ [⟨n.path, n.all, n.pass, ks⟩]), σ.length + 1, ⟨by simp only; omega, by rw [← hi2, lkn_go hks], by simp only [List.length_append, List.length_singleton]; omega⟩, by simp only; omega, by simp, ⟨rfl, rfl, by rw [List.length_append]; rfl, rfl, trivial⟩, closed_own 1 hcl ?_, ?_, ?_⟩
   ·simp [ownLt, AO.cells, AV.ltL, AV.lt, ltL_append]
   ·simp [ltE, AV.lt, AV.ltL]
   ·refine (take_own 1).trans ?_
    rw [noder_snoc, List.length_append]; rfl
 ·(try rw [h1]); replace h1 := zcl h1
  refine AWp_exit ?_
  refine AWp_seq ?_
  refine zw1 ?_
  refine AWp_block ?_
  -- loop 3 LIVE 2:assign 3:assign 4:assign 5:assign 13:assign
  have ho : lkn l l [] = (o, 0, e0) := by rw [← hi2, List.drop_eq_nil_of_le (by omega)]; rfl
  obtain ⟨hok2, hol⟩ := lkn_LOK hok ho
  have honl := noder_len o
  refine AWp_freezeAO 5 0 o.length 4 o.length (noder o) rfl rfl (noder_el _) (noder_len _) (by decide) ?_ (by decide)
  refine AWp_loop (ι := Nat) (fun c => c ≤ o.length ∧ lkc o (o.drop c) c = lkc o o 0) (fun c => ⟨[], [(5, .sl false 4 (noder o)), (13, .int .i64 (c : Int))]⟩) (fun c => σ ++ [.dead]) (fun c => o.length - c) (0) (⟨Nat.zero_le _, by rw [List.drop_zero]⟩) ?_ rfl (fun c hc => ?_)
  ·exact ⟨rfl, rfl, rfl, trivial⟩
  obtain ⟨hc1, hc2⟩ := hc
  refine AWp_seq ?_
  refine zw4 ?_
  refine AWp_cond rfl (fun h7 => ?_) (fun h7 => ?_)
  ·(try rw [h7]); replace h7 := zcl h7
   obtain ⟨n, hn⟩ : ∃ n, o[c]? = some n := ⟨_, List.getElem?_eq_getElem (show c < o.length by omega)⟩
   rw [drop_consN hn] at hc2
   refine AWp_skip ?_
   refine AWp_seq ?_
   refine AWp_block ?_
   refine zu2 ?_
   refine zt rfl (zc rfl (reach_c false o _ c _ rfl hok2 (by omega))) ?_
   refine zv1 ?_
   refine zu2 ?_
   refine zt rfl (op_indexAddr rfl Tryd.underlying51 Tryd.sizeOf4 rfl rfl (by omega) (reachL_get (by omega))) ?_
   refine zv1 ?_
   refine AWp_cond rfl (fun h8 => ?_) (fun h8 => ?_)
   ·(try rw [h8]); replace h8 := zcl h8
    refine AWp_seq ?_
    refine AWp_drawL #[0, 0, 3, 7, 15, 0, 32, 127] Tryd.mixed (by decide +kernel) (by decide +kernel) ?_
    refine zd2 ?_
    refine yA rfl rfl (fun _ => op_indexAddr rfl Tryd.underlying31 Tryd.sizeOf45 rfl rfl (by omega) (noder_get hn)) ?_
    refine zd1 ?_
    refine zp1 ?_
    refine zd3 ?_
    refine RP.nil rfl ?_
    refine AWp_slotLe 2 rfl (AVle.nils false 4) ?_ (by decide)
    refine zrt ?_
    rw [jlink_c ho (hc2.symm.trans (lkc_y h8))]
    exact ResQ_3 rfl rfl rfl hcl (by simp [AV.lt, AV.ltL, AV.ltLL]) ⟨rfl, rfl⟩
   ·(try rw [h8]); replace h8 := zcl h8
    refine AWp_skip ?_
    refine AWp_regL ?_
    refine zv3 ?_
    refine ⟨c + 1, σ.length + 1, ⟨by omega, by rw [← hc2, lkc_n h8]⟩, by omega, by simp, ⟨rfl, rfl, rfl, trivial⟩, closed_own 1 hcl ?_, ?_, take_own 1⟩
    ·simp [ownLt, AO.cells, AV.ltL, AV.lt]
    ·simp [ltE, AV.lt, AV.ltL]
  ·(try rw [h7]); replace h7 := zcl h7
   refine AWp_exit ?_
   refine zw4 ?_
   refine zrt ?_
   rw [jlink_y ho (by rw [← hc2, List.drop_eq_nil_of_le (by omega)]; rfl)]
   exact ResQ_3 rfl rfl rfl hcl (by simp [AV.lt, AV.ltL]) ⟨rfl, rfl⟩
end Lg
namespace Lg
open Go
section
variable {f : Nat → List Bool → Bool × List Bool} {i : Nat} {S : List Bool}
theorem dfD_hit {d : Nat} {r : List Nat} (h : d = i) : dfD f i (d :: r) S = (true, S) := by rw [dfD, if_pos h]
theorem dfD_old {d : Nat} {r : List Nat} (h : ¬ d = i) (hs : S[d]? = some true) : dfD f i (d :: r) S = dfD f i r S := by rw [dfD, if_neg h, if_pos hs]
theorem dfD_yes {d : Nat} {r : List Nat} (h : ¬ d = i) (hs : S[d]? = some false) (hf : (f d (S.set d true)).1 = true) : dfD f i (d :: r) S = (true, (f d (S.set d true)).2) := by rw [dfD, if_neg h, if_neg (by rw [hs]; simp), if_pos hf]
theorem dfD_no {d : Nat} {r : List Nat} (h : ¬ d = i) (hs : S[d]? = some false) (hf : (f d (S.set d true)).1 = false) : dfD f i (d :: r) S = dfD f i r (f d (S.set d true)).2 := by rw [dfD, if_neg h, if_neg (by rw [hs]; simp), if_neg (by rw [hf]; decide)]
theorem dfK_out {k : JKey} {r : List JKey} (h : plc k.name = false) : dfK f i (k :: r) S = dfK f i r S := by rw [dfK, if_neg (by rw [h]; decide)]
theorem dfK_yes {k : JKey} {r : List JKey} {T : List Bool} (h : plc k.name = true) (hd : dfD f i (outD k.kids) S = (true, T)) : dfK f i (k :: r) S = (true, T) := by rw [dfK, if_pos h, hd, if_pos rfl]
theorem dfK_no {k : JKey} {r : List JKey} {T : List Bool} (h : plc k.name = true) (hd : dfD f i (outD k.kids) S = (false, T)) : dfK f i (k :: r) S = dfK f i r T := by rw [dfK, if_pos h, hd]; rfl
theorem dfK_nil : dfK f i [] S = (false, S) := rfl
theorem dfs_at {o : List JNode} {n k : Nat} {x : JNode} (h : o[k]? = some x) : dfs o i (n + 1) k S = dfK (dfs o i n) i x.keys S := by rw [dfs, h]
theorem outD_drop {l : List JKid} {b : Nat} {d : JKid} (h : l[b]? = some d) : (outD l).drop b = d.node.toNat :: (outD l).drop (b + 1) := by
  have h1 : (outD l)[b]? = some d.node.toNat := by simp [outD, h]
  have hi := (List.getElem?_eq_some_iff.1 h1).1
  rw [List.drop_eq_getElem_cons hi]; congr 1
  have := List.getElem?_eq_getElem hi
  rw [h1] at this; exact (Option.some.inj this).symm
theorem outD_len (l : List JKid) : (outD l).length = l.length := by simp [outD]
end
end Lg
set_option maxRecDepth 20000
set_option maxHeartbeats 4000000
namespace Lg
open Go Go.Proofs Go.RowKit
variable [GLay] 
theorem here_c (nm : ByteArray) (σ : List AO) : ACalls Tryd.prog 34 [.str nm] σ (Ret (.bool (plc nm)) σ) := by
 refine ACalls_body Tryd.func34 rfl Tryd.ntmps34 (res1 Tryd.results34) (Nat.le_of_ble_eq_true rfl) (fun hcl hal => ?_)
 refine zw1 ?_
 refine zsr ?_
 refine zt rfl (op_buildSlice [[_], [_], [_], [_], [_]] rfl Tryd.underlying65 Tryd.sizeOf9 Tryd.zeroValue9 rfl (by decide) (by decide) rfl rfl rfl rfl rfl) ?_
 refine zg1 ?_
 refine zt rfl (zc rfl (cts_c [cREF, cALL, cANY, cONE, cNOT] nm true _ (by decide))) ?_
 refine zv1 ?_
 refine zrt ?_
 refine ResQ_10 rfl hcl trivial (Ret_of ?_)
 simp [plc, Bool.or_assoc]

theorem call_suf5 {P : Program} {f : FuncId} {args : List AV} {σ ρ : List AO} {a b c d e a' b' c' d' e' : AO} {v : AV} (h : ACalls P f args (σ ++ [a, b, c, d, e]) (Ret v (σ ++ [a', b', c', d', e']))) (hc : closed (σ.length + 5) (σ ++ [a, b, c, d, e])) (hx : AV.ltL (σ.length + 5) args) : ACalls P f args (σ ++ (a :: b :: c :: d :: e :: ρ)) (Ret v (σ ++ (a' :: b' :: c' :: d' :: e' :: ρ))) := by
  have e1 : (σ ++ [a, b, c, d, e]).length = σ.length + 5 := by simp
  have h1 := ACalls_suf (ρ := ρ) h (by rw [e1]; exact hc) (by rw [e1]; exact hx) (by simp)
  simpa using h1
theorem bk1_s (f : Bool) (o : List JNode) (i : Nat) (hok : LOK o) (n : Nat) (ih : ∀ (k : Nat) (S : List Bool) (σ : List AO), closed σ.length σ → k < o.length → S.length = o.length → cntF S < n → ACalls Tryd.prog 33 [.int .i64 (k : Int), .ptr (σ.length + 0) 0, .ptr (σ.length + 1) 0, .ptr (σ.length + 3) 0, .ptr (σ.length + 4) 0] (σ ++ [.box [.sl f 4 (noder o)], .box [.int .i64 (i : Int)], .arr 1 0 (boolc S), .box [.arr (σ.length + 2) 0 1 0 o.length], .box [.func (.func 33) [] [.ptr (σ.length + 0) 0, .ptr (σ.length + 1) 0, .ptr (σ.length + 3) 0, .ptr (σ.length + 4) 0]]]) (Ret (.bool (dfs o i n k S).1) (σ ++ [.box [.sl f 4 (noder o)], .box [.int .i64 (i : Int)], .arr 1 0 (boolc (dfs o i n k S).2), .box [.arr (σ.length + 2) 0 1 0 o.length], .box [.func (.func 33) [] [.ptr (σ.length + 0) 0, .ptr (σ.length + 1) 0, .ptr (σ.length + 3) 0, .ptr (σ.length + 4) 0]]]))) (k : Nat) (S : List Bool) (σ : List AO) (hc0 : closed σ.length σ) (hk : k < o.length) (hS : S.length = o.length) (hcn : cntF S < n + 1) : ACalls Tryd.prog 33 [.int .i64 (k : Int), .ptr (σ.length + 0) 0, .ptr (σ.length + 1) 0, .ptr (σ.length + 3) 0, .ptr (σ.length + 4) 0] (σ ++ [.box [.sl f 4 (noder o)], .box [.int .i64 (i : Int)], .arr 1 0 (boolc S), .box [.arr (σ.length + 2) 0 1 0 o.length], .box [.func (.func 33) [] [.ptr (σ.length + 0) 0, .ptr (σ.length + 1) 0, .ptr (σ.length + 3) 0, .ptr (σ.length + 4) 0]]]) (Ret (.bool (dfs o i (n + 1) k S).1) (σ ++ [.box [.sl f 4 (noder o)], .box [.int .i64 (i : Int)], .arr 1 0 (boolc (dfs o i (n + 1) k S).2), .box [.arr (σ.length + 2) 0 1 0 o.length], .box [.func (.func 33) [] [.ptr (σ.length + 0) 0, .ptr (σ.length + 1) 0, .ptr (σ.length + 3) 0, .ptr (σ.length + 4) 0]]])) := by
 refine ACalls_body Tryd.func33 rfl Tryd.ntmps33 (res1 Tryd.results33) (Nat.le_of_ble_eq_true rfl) (fun hcl hal => ?_)
 have hnl := noder_len o
 have hll := hok.le
 have hor := hok.out
 obtain ⟨x, hx⟩ : ∃ x, o[k]? = some x := ⟨_, List.getElem?_eq_getElem hk⟩
 have hxm := List.mem_of_getElem? hx
 have hxk := hok.kz x hxm
 have hx1 := hxk.1
 have hyl := keyr_len x.keys
 rw [dfs_at hx]
 refine zw1 ?_
 refine AWp_seq ?_
 refine zu2 ?_
 refine zt rfl (op_indexAddr rfl Tryd.underlying31 Tryd.sizeOf45 rfl rfl (by omega) (noder_get hx)) ?_
 refine zv4 ?_
 refine AWp_block ?_
 -- loop 0 LIVE 6:assign 15:load 16:call 17:move
 refine AWp_loop (ι := Nat × List Bool) (fun z => z.1 ≤ x.keys.length ∧ z.2.length = o.length ∧ cntF z.2 ≤ cntF S ∧ dfK (dfs o i n) i (x.keys.drop z.1) z.2 = dfK (dfs o i n) i x.keys S) (fun z => ⟨[], [(1, .ptr (σ.length + 0) 0), (2, .ptr (σ.length + 1) 0), (3, .ptr (σ.length + 3) 0), (4, .ptr (σ.length + 4) 0), (15, .sl false 10 (keyr x.keys)), (16, .int .i64 ((keyr x.keys).length : Int)), (17, .int .i64 (z.1 : Int))]⟩) (fun z => σ ++ [.box [.sl f 4 (noder o)], .box [.int .i64 (i : Int)], .arr 1 0 (boolc z.2), .box [.arr (σ.length + 2) 0 1 0 o.length], .box [.func (.func 33) [] [.ptr (σ.length + 0) 0, .ptr (σ.length + 1) 0, .ptr (σ.length + 3) 0, .ptr (σ.length + 4) 0]]]) (fun z => x.keys.length - z.1) ((0, S)) (⟨Nat.zero_le _, hS, Nat.le_refl _, by rw [List.drop_zero]⟩) ?_ rfl (fun z hz => ?_)
 ·exact ⟨rfl, rfl, rfl, rfl, rfl, rfl, rfl, rfl, trivial⟩
 obtain ⟨a, T⟩ := z
 obtain ⟨ha1, ha2, ha3, ha4⟩ := hz
 simp only at ha1 ha2 ha3 ha4 ⊢
 refine zw1 ?_
 refine AWp_seq ?_
 refine AWp_cond rfl (fun h1 => ?_) (fun h1 => ?_)
 ·(try rw [h1]); replace h1 := zcl h1
  obtain ⟨q, hq⟩ : ∃ q, x.keys[a]? = some q := ⟨_, List.getElem?_eq_getElem (show a < x.keys.length by omega)⟩
  have hqm := List.mem_of_getElem? hq
  have hqk := (hxk.2 q hqm).2.2
  have hdl := kidr_len q.kids
  rw [drop_consN hq] at ha4
  refine AWp_skip ?_
  refine AWp_seq ?_
  refine AWp_block ?_
  refine zsr ?_
  refine zt rfl (op_indexAddr rfl Tryd.underlying43 Tryd.sizeOf48 rfl rfl (by omega) (keyr_get hq)) ?_
  rw [keyc_eq]
  refine zv3 ?_
  refine AWp_seq ?_
  refine zu2 ?_
  refine zt rfl (zc rfl (here_c q.name _)) ?_
  refine zv1 ?_
  refine AWp_cond rfl (fun h2 => ?_) (fun h2 => ?_)
  ·(try rw [h2]); replace h2 := zcl h2
   refine AWp_exit ?_
   refine AWp_regL ?_
   refine zv2 ?_
   refine ⟨(a + 1, T), σ.length + 5, ⟨by simp only; omega, ha2, ha3, by rw [← ha4, dfK_out h2]⟩, by simp only; omega, by simp, ⟨rfl, rfl, rfl, rfl, rfl, rfl, rfl, rfl, trivial⟩, closed_own 5 hc0 ?_, ?_, take_own 5⟩
   ·simp [ownLt, AO.cells, AV.ltL, AV.lt]
   ·simp [ltE, AV.lt, AV.ltL]
  ·(try rw [h2]); replace h2 := zcl h2
   refine AWp_skip ?_
   refine zw4 ?_
   refine AWp_block ?_
   -- loop 1 LIVE 6:assign 17:move 26:load 27:call 28:move
   refine AWp_loop (ι := Nat × List Bool) (fun y => y.1 ≤ q.kids.length ∧ y.2.length = o.length ∧ cntF y.2 ≤ cntF S ∧ dfD (dfs o i n) i ((outD q.kids).drop y.1) y.2 = dfD (dfs o i n) i (outD q.kids) T) (fun y => ⟨[], [(1, .ptr (σ.length + 0) 0), (2, .ptr (σ.length + 1) 0), (3, .ptr (σ.length + 3) 0), (4, .ptr (σ.length + 4) 0), (15, .sl false 10 (keyr x.keys)), (16, .int .i64 ((keyr x.keys).length : Int)), (17, .int .i64 (a : Int)), (8, .ptr (σ.length + 5) 0), (26, .sl false 2 (kidr q.kids)), (27, .int .i64 ((kidr q.kids).length : Int)), (28, .int .i64 (y.1 : Int))]⟩) (fun y => σ ++ [.box [.sl f 4 (noder o)], .box [.int .i64 (i : Int)], .arr 1 0 (boolc y.2), .box [.arr (σ.length + 2) 0 1 0 o.length], .box [.func (.func 33) [] [.ptr (σ.length + 0) 0, .ptr (σ.length + 1) 0, .ptr (σ.length + 3) 0, .ptr (σ.length + 4) 0]], .box [.str q.name, .int .i64 q.v.kind, .bool q.v.b, .bool q.v.n.neg, .str q.v.n.digits, .int .i64 q.v.n.exp, .str q.v.s, .sl false 8 (lcells q.v.l), .sl false 9 (mcells q.v.m), .sl false 2 (kidr q.kids)]]) (fun y => q.kids.length - y.1) ((0, T)) (⟨Nat.zero_le _, ha2, ha3, by rw [List.drop_zero]⟩) ?_ rfl (fun y hy => ?_)
   ·exact ⟨rfl, rfl, rfl, rfl, rfl, rfl, rfl, rfl, rfl, rfl, rfl, rfl, trivial⟩
   obtain ⟨b, U⟩ := y
   obtain ⟨hu1, hu2, hu3, hu4⟩ := hy
   simp only at hu1 hu2 hu3 hu4 ⊢
   refine zw1 ?_
   refine AWp_seq ?_
   refine AWp_cond rfl (fun h3 => ?_) (fun h3 => ?_)
   ·(try rw [h3]); replace h3 := zcl h3
    obtain ⟨d, hd⟩ : ∃ d, q.kids[b]? = some d := ⟨_, List.getElem?_eq_getElem (show b < q.kids.length by omega)⟩
    have hdr := hok.kr x hxm q hqm d (List.mem_of_getElem? hd)
    obtain ⟨dn, hdn⟩ : ∃ k : Nat, d.node = k := ⟨d.node.toNat, by omega⟩
    rw [outD_drop hd, hdn, Int.toNat_natCast] at hu4
    rw [hdn] at hdr
    obtain ⟨sb, hsb⟩ : ∃ b, U[dn]? = some b := ⟨_, List.getElem?_eq_getElem (show dn < U.length by omega)⟩
    refine AWp_skip ?_
    refine AWp_seq ?_
    refine AWp_block ?_
    refine zsr ?_
    refine zt rfl (op_indexAddr rfl Tryd.underlying46 Tryd.sizeOf50 rfl rfl (by omega) (kidr_get hd)) ?_
    rw [show kidc d = [.str d.key, .int .i64 (dn : Int)] by rw [kidc, hdn]]
    refine zv3 ?_
    refine AWp_seq ?_
    refine zw4 ?_
    refine AWp_cond rfl (fun h4 => ?_) (fun h4 => ?_)
    ·(try rw [h4]); replace h4 := zcl h4
     have h4 : dn = i := by omega
     refine zw1 ?_
     refine zrt ?_
     rw [← ha4, dfK_yes h2 (hu4.symm.trans (dfD_hit h4))]
     refine ResQ_K (v := .bool true) (σ.length + 5) (by simp) rfl (closed_own 5 hc0 ?_) (by simp [AV.lt]) ⟨rfl, take_own 5⟩
     simp [ownLt, AO.cells, AV.ltL, AV.lt]
    ·(try rw [h4]); replace h4 := zcl h4
     have h4 : ¬ dn = i := by omega
     refine AWp_skip ?_
     refine zu3 ?_
     refine zt rfl (op_indexAddrAO (j := 2) rfl Tryd.underlying51 Tryd.sizeOf4 rfl rfl (by omega) (by omega) rfl) ?_
     refine zt rfl (op_load1 rfl Tryd.isAgg4 (ldv_el (j := 2) (i := dn) rfl (boolc_get hsb) (by simp))) ?_
     refine zv1 ?_
     refine AWp_cond rfl (fun h5 => ?_) (fun h5 => ?_)
     ·(try rw [h5]); replace h5 := zcl h5
      have hsf : U[dn]? = some false := by cases sb <;> simp_all
      have hcs := cntF_set hsf
      obtain ⟨xd, hxd⟩ : ∃ xd, o[dn]? = some xd := ⟨_, List.getElem?_eq_getElem (show dn < o.length by omega)⟩
      have g := dfs_ok (i := i) hor n dn xd (U.set dn true) hxd (by rw [List.length_set]; exact hu2) (by omega)
      refine zu3 ?_
      refine zt rfl (op_indexAddrAO (j := 2) rfl Tryd.underlying51 Tryd.sizeOf4 rfl rfl (by omega) (by omega) rfl) ?_
      refine ztN rfl rfl (op_storeEl1 (j := 2) (i := dn) rfl Tryd.sizeOf4 rfl rfl rfl rfl (by simp) rfl (by rw [boolc_len]; omega)) ?_
      rw [boolc_set]
      refine zon ?_
      refine zu3 ?_
      refine zt rfl (zc rfl (call_suf5 (ih dn (U.set dn true) σ hc0 (by omega) (by rw [List.length_set]; exact hu2) (by omega)) (closed_own 5 hc0 (by simp [ownLt, AO.cells, AV.ltL, AV.lt])) (by simp [AV.ltL, AV.lt]))) ?_
      refine zon ?_
      refine AWp_cond rfl (fun h6 => ?_) (fun h6 => ?_)
      ·(try rw [h6]); replace h6 := zcl h6
       refine zw1 ?_
       refine zrt ?_
       rw [← ha4, dfK_yes h2 (hu4.symm.trans (dfD_yes h4 hsf h6))]
       refine ResQ_K (v := .bool true) (σ.length + 5) (by simp) rfl (closed_own 5 hc0 ?_) (by simp [AV.lt]) ⟨rfl, take_own 5⟩
       simp [ownLt, AO.cells, AV.ltL, AV.lt]
      ·(try rw [h6]); replace h6 := zcl h6
       refine AWp_skip ?_
       refine AWp_regL ?_
       refine zv2 ?_
       refine ⟨(b + 1, (dfs o i n dn (U.set dn true)).2), σ.length + 6, ⟨by simp only; omega, by simp only; rw [g.len, List.length_set]; exact hu2, by have := g.cnt; simp only; omega, by rw [← hu4, dfD_no h4 hsf h6]⟩, by simp only; omega, by simp, ⟨rfl, rfl, rfl, rfl, rfl, rfl, rfl, rfl, rfl, rfl, rfl, rfl, trivial⟩, closed_own 6 hc0 ?_, ?_, take_own 6⟩
       ·simp [ownLt, AO.cells, AV.ltL, AV.lt]
       ·simp [ltE, AV.lt, AV.ltL]
     ·(try rw [h5]); replace h5 := zcl h5
      refine AWp_skip ?_
      refine AWp_regL ?_
      refine zv2 ?_
      have hst : U[dn]? = some true := by cases sb <;> simp_all
      refine ⟨(b + 1, U), σ.length + 6, ⟨by simp only; omega, hu2, hu3, by rw [← hu4, dfD_old h4 hst]⟩, by simp only; omega, by simp, ⟨rfl, rfl, rfl, rfl, rfl, rfl, rfl, rfl, rfl, rfl, rfl, rfl, trivial⟩, closed_own 6 hc0 ?_, ?_, take_own 6⟩
      ·simp [ownLt, AO.cells, AV.ltL, AV.lt]
      ·simp [ltE, AV.lt, AV.ltL]
   ·(try rw [h3]); replace h3 := zcl h3
    refine AWp_exit ?_
    refine AWp_regL ?_
    refine zv2 ?_
    have hdd : dfD (dfs o i n) i (outD q.kids) T = (false, U) := by rw [← hu4, List.drop_eq_nil_of_le (by rw [outD_len]; omega)]; rfl
    refine ⟨(a + 1, U), σ.length + 5, ⟨by simp only; omega, hu2, hu3, by rw [← ha4, dfK_no h2 hdd]⟩, by simp only; omega, by simp, ⟨rfl, rfl, rfl, rfl, rfl, rfl, rfl, rfl, trivial⟩, closed_own 5 hc0 ?_, ?_, take_own 5⟩
    ·simp [ownLt, AO.cells, AV.ltL, AV.lt]
    ·simp [ltE, AV.lt, AV.ltL]
 ·(try rw [h1]); replace h1 := zcl h1
  refine AWp_exit ?_
  refine zw1 ?_
  refine zrt ?_
  rw [← ha4, List.drop_eq_nil_of_le (by omega), dfK_nil]
  refine ResQ_K (v := .bool false) (σ.length + 5) (by simp) rfl (closed_own 5 hc0 ?_) (by simp [AV.lt]) ⟨rfl, take_own 5⟩
  simp [ownLt, AO.cells, AV.ltL, AV.lt]
end Lg
set_option maxRecDepth 20000
set_option maxHeartbeats 4000000
namespace Lg
open Go Go.Proofs Go.RowKit
variable [GLay] 
theorem bk1_any (f : Bool) (o : List JNode) (i : Nat) (hok : LOK o) : ∀ (n : Nat) (k : Nat) (S : List Bool) (σ : List AO), closed σ.length σ → k < o.length → S.length = o.length → cntF S < n → ACalls Tryd.prog 33 [.int .i64 (k : Int), .ptr (σ.length + 0) 0, .ptr (σ.length + 1) 0, .ptr (σ.length + 3) 0, .ptr (σ.length + 4) 0] (σ ++ [.box [.sl f 4 (noder o)], .box [.int .i64 (i : Int)], .arr 1 0 (boolc S), .box [.arr (σ.length + 2) 0 1 0 o.length], .box [.func (.func 33) [] [.ptr (σ.length + 0) 0, .ptr (σ.length + 1) 0, .ptr (σ.length + 3) 0, .ptr (σ.length + 4) 0]]]) (Ret (.bool (dfs o i n k S).1) (σ ++ [.box [.sl f 4 (noder o)], .box [.int .i64 (i : Int)], .arr 1 0 (boolc (dfs o i n k S).2), .box [.arr (σ.length + 2) 0 1 0 o.length], .box [.func (.func 33) [] [.ptr (σ.length + 0) 0, .ptr (σ.length + 1) 0, .ptr (σ.length + 3) 0, .ptr (σ.length + 4) 0]]]))
  | 0, k, S, σ, _, _, _, h => absurd h (Nat.not_lt_zero _)
  | n + 1, k, S, σ, hc, hk, hS, hn => bk1_s f o i hok n (bk1_any f o i hok n) k S σ hc hk hS hn
theorem back_c (f : Bool) (o : List JNode) (es : List (List AV)) (i : Nat) (σ : List AO) (he : es = noder o) (hok : LOK o) (hi : i < o.length) : ACalls Tryd.prog 20 [.sl f 4 es, .int .i64 (i : Int)] σ (Ret (.bool (pb (Rch o i i))) σ) := by
 refine ACalls_body Tryd.func20 rfl Tryd.ntmps20 (res1 Tryd.results20) (Nat.le_of_ble_eq_true rfl) (fun hcl hal => ?_)
 subst he
 have hnl := noder_len o
 have hll := hok.le
 have hor := hok.out
 have hcf : cntF (List.replicate o.length false) = o.length := by simp [cntF]
 refine zw3 ?_
 refine zu2 ?_
 refine zt rfl (op_makeSlice1T (k := 2) rfl (n := (noder o).length) (c := .bool false) (b := .bool false) rfl Tryd.underlying51 Tryd.type4 rfl rfl rfl (fun s => .bool false) rfl rfl (by omega) (by omega) (by decide)) ?_
 refine zv2 ?_
 refine zw1 ?_
 refine zsr ?_
 refine zt rfl (op_makeFunc (af := []) (ac := [.ptr (σ.length + 0) 0, .ptr (σ.length + 1) 0, .ptr (σ.length + 3) 0, .ptr (σ.length + 4) 0]) rfl rfl rfl) ?_
 refine zv1 ?_
 refine AWp_seq ?_
 refine AWp_heap (σ' := σ ++ [.box [.sl f 4 (noder o)], .box [.int .i64 (i : Int)], .arr 1 0 (boolc (List.replicate o.length false)), .box [.arr (σ.length + 2) 0 1 0 o.length], .box [.func (.func 33) [] [.ptr (σ.length + 0) 0, .ptr (σ.length + 1) 0, .ptr (σ.length + 3) 0, .ptr (σ.length + 4) 0]]]) (by rw [hnl]; simp [boolc]) ?_
 refine AWp_regL ?_
 refine zg2 ?_
 refine zt rfl (zc rfl (bk1_any f o i hok (o.length + 1) i (List.replicate o.length false) σ hcl hi (by simp) (by omega))) ?_
 refine zv1 ?_
 refine zrt ?_
 rw [← dfs_cyc hor hi]
 exact ResQ_1 rfl hcl trivial (Ret_of rfl)
end Lg
namespace Lg
open Go
theorem hsh_tl (r : ByteArray) : (hsh ++ r).extract 1 (hsh ++ r).size = r := by
  apply ByteArray.ext
  simp [hsh]
  exact .inr (by show r.size ≤ 1 + r.size - 1; omega)
theorem hsh_hd {s : ByteArray} (h1 : 1 ≤ s.size) (h : s.extract 0 1 = hsh) : s = hsh ++ s.extract 1 s.size := by
  rw [← h]
  apply ByteArray.ext
  simp
def hpB (s : ByteArray) : Bool := decide (hsh.size ≤ s.size) && decide (s.extract 0 hsh.size = hsh)
theorem hp_y {s : ByteArray} (h : hpB s = true) : s = hsh ++ s.extract 1 s.size := by
  simp only [hpB, Bool.and_eq_true, decide_eq_true_eq] at h
  exact hsh_hd h.1 h.2
theorem hp_n {s : ByteArray} {l : List JNode} (h : hpB s = false) : tgtI s l = -1 := by
  have hn : tgt s l = none := by
    rw [tgt_none]
    intro n _ e
    have : hpB s = true := by
      subst e
      simp only [hpB, Bool.and_eq_true, decide_eq_true_eq]
      refine ⟨by rw [ByteArray.size_append]; omega, ?_⟩
      apply ByteArray.ext
      simp [hsh]
      rfl
    rw [this] at h; cases h
  unfold tgtI; rw [hn]
theorem tgt_hit {s : ByteArray} {l : List JNode} {j : Nat} {n : JNode} (h : tgt s (l.take j) = none) (hn : l[j]? = some n) (e : s = hsh ++ n.path) : tgtI s l = j := by
  have hj := (List.getElem?_eq_some_iff.1 hn).1
  have hl : l = l.take j ++ (n :: l.drop (j + 1)) := by
    have := List.getElem?_eq_some_iff.1 hn
    rw [← this.2, ← List.drop_eq_getElem_cons hj, List.take_append_drop]
  unfold tgtI
  rw [hl, tgt_app, h]
  simp only [tgt, if_pos e, Option.map_some, List.length_take]
  have : min j l.length = j := by omega
  rw [this]; simp
theorem tgt_step {s : ByteArray} {l : List JNode} {j : Nat} {n : JNode} (h : tgt s (l.take j) = none) (hn : l[j]? = some n) (e : ¬ s = hsh ++ n.path) : tgt s (l.take (j + 1)) = none := by
  have ht : l.take (j + 1) = l.take j ++ [n] := by rw [List.take_add_one, hn]; rfl
  rw [ht, tgt_app, h]
  simp [tgt, if_neg e]
theorem tgt_all {s : ByteArray} {l : List JNode} {j : Nat} (h : tgt s (l.take j) = none) (hj : l.length ≤ j) : tgtI s l = -1 := by
  rw [List.take_of_length_le hj] at h
  unfold tgtI; rw [h]
structure RW (l : List JNode) (rows : List (List AV)) : Prop where
  len : rows.length = l.length
  el : ∀ r ∈ rows, r.length = 4
  get : ∀ (j : Nat) n, l[j]? = some n → ∃ K, AV.one K = true ∧ rows[j]? = some [.str n.path, .bool n.all, .bool n.pass, K]
section
variable [GLay]
theorem tk_app : ∀ (r x : List AV), tk r.length (r ++ x) = some r
  | [], x => rfl
  | a :: r, x => by
    show (tk r.length (r ++ x)).map (a :: ·) = _
    rw [tk_app r x]; rfl
theorem tk_row {sz : Nat} : ∀ {rows : List (List AV)} {i : Nat} {r : List AV}, (∀ r ∈ rows, r.length = sz) → rows[i]? = some r → tk sz (rows.flatten.drop (i * sz)) = some r := by
  intro rows i r hel hr
  have hi := (List.getElem?_eq_some_iff.1 hr)
  have hi1 := hi.1
  rw [← flatten_drop hel i (by omega), List.drop_eq_getElem_cons hi1, hi.2, List.flatten_cons]
  have := tk_app r (rows.drop (i + 1)).flatten
  rwa [hel r (List.mem_of_getElem? hr)] at this
theorem ldv_row {σ : List AO} {p g sz off i : Nat} {rows : List (List AV)} {r : List AV} (hl : σ[p]? = some (.arr sz g rows.flatten)) (hel : ∀ r ∈ rows, r.length = sz) (hr : rows[i]? = some r) (ho : off = i * sz) : ldv σ sz (.pel p g off) = some r := by
  subst ho
  simp only [ldv, hl, if_true]
  exact tk_row hel hr
theorem AWp_freezeQ {P : Program} {N : Nat} {Q : QA} {e : Env} {σ l : List AO} {c : Code} (t k : Nat) {cs : List AV} (hl : lookO e.l t = some (.ptr (σ.length + k) 0)) (hk : l[k]? = some (.box cs)) (h : AWp P N c (e.put (some t) (.pp cs)) (σ ++ l.set k .gone) Q) (ht : t < N) : AWp P N c e (σ ++ l) Q :=
  AWp_freeze t (σ.length + k) 0 hl (by rw [get_own]; exact hk) (by rw [set_own]; exact h) ht
end
end Lg
namespace Lg
open Go Go.RowKit
variable [GLay]
variable {P : Program} {N : Nat} {σ l : List AO} {e : Env} {Q : QA} {o : Oper}
theorem AWp_freezeI {c : Code} (t p off : Nat) (T : TypeId) {cs : List AV} (hl : lookO e.l t = some (.iface T (.ptr p off))) (hσ : σ[p]? = some (.box cs)) (k : AWp P N c (e.put (some t) (.iface T (.pp (cs.drop off)))) (σ.set p .gone) Q) (ht : t < N) : AWp P N c e σ Q := fun s0 s a hs g x he => by
  subst hs
  have hv := he.tmps t
  rw [show e.look t = .iface T (.ptr p off) from lookO_eq hl] at hv
  obtain ⟨v, hv0, hv1⟩ := hv.inv_iface
  obtain ⟨s', e1, e2, g', x', hv'⟩ := freezeBox_V g hσ hv1
  have hv2 : V s' (.iface T (.pp (cs.drop off))) (a.eval (.tmp t)) := by rw [hv0]; exact .iface _ _ _ hv'
  have := k s0 s' a e1 g' (x.trans x') (by
    have h1 := (he.mono g x').put (some t) hv2 (fun d hd => by cases hd; exact ht)
    have h2 : a.put (some t) (a.eval (.tmp t)) = a := put_self (by rw [he.size]; exact ht)
    rwa [h2] at h1)
  rwa [e2] at this
section asserts
variable {T U U' E : TypeId} {x : Operand} {v : AV}
theorem op_assertT (ho : o.op = .typeAssert x T U true) (hu : P.underlying U = some (.pointer E)) (hx : opO e x = some (.iface U v)) : AOp P σ e o (.tup [v, .bool true]) σ :=
  .of_run fun s a hs g hv => by
    have h1 := hv x (by simp [ho, Op.operands])
    rw [opO_eq hx] at h1
    obtain ⟨w, h2, h3⟩ := h1.inv_iface
    refine ⟨.tuple #[w, .bool true], ?_, .tup [v, .bool true] [w, .bool true] rfl (fun i c z e1 e2 => by
      match i, e1, e2 with
      | 0, e1, e2 => cases e1; cases e2; exact h3
      | 1, e1, e2 => cases e1; cases e2; exact .bool _)⟩
    simp [execOp, ho, h2, Instr.typeAssert, run_underlying hu]
end asserts
end Lg
namespace Lg
open Go
variable [GLay] {σ : List AO}
end Lg
namespace Lg
open Go Go.RowKit
variable [GLay]
variable {P : Program} {N : Nat} {σ l : List AO} {e : Env} {Q : QA} {o : Oper}
section
variable {T T' : TypeId} {x y : Operand} {k : IntKind} {a b r : Int}
end
end Lg
namespace Lg
open Go
end Lg
namespace Lg
open Go Go.RowKit
variable [GLay]
variable {P : Program} {σ : List AO} {e : Env} {o : Oper}
end Lg
namespace Lg
open Go Go.RowKit
variable [GLay]
variable {P : Program} {σ : List AO} {s : ByteArray} {i j : Int} {a : AV} {T : TypeId} {l l' : List UInt8}
end Lg
set_option maxRecDepth 20000
set_option maxHeartbeats 4000000
namespace Lg
open Go Go.Proofs Go.RowKit
variable [GLay] 
theorem hasPreB_c (s t : ByteArray) (σ : List AO) (hs : s.size ≤ 1000000) (ht : t.size ≤ 1000000) : ACalls Tryd.prog 48 [.str s, .str t] σ (Ret (.bool (decide (t.size ≤ s.size) && decide (s.extract 0 t.size = t))) σ) := by
 refine ACalls_body Tryd.func48 rfl Tryd.ntmps48 (res1 Tryd.results48) (Nat.le_of_ble_eq_true rfl) (fun hcl hal => ?_)
 refine zw1 ?_
 refine zu6 ?_
 refine zsp 10 rfl (fun h1 => ?_) fun h1 => ?_
 ·rw [h1]; replace h1 := zcl h1
  refine zv8 ?_
  refine zrt ?_
  refine ResQ_10 rfl hcl trivial (Ret_of ?_)
  rw [decide_eq_true (show t.size ≤ s.size by omega), Bool.true_and]; rfl
 ·rw [h1]; replace h1 := zcl h1
  refine zv8 ?_
  refine zrt ?_
  refine ResQ_10 rfl hcl trivial (Ret_of ?_)
  rw [decide_eq_false (show ¬ t.size ≤ s.size by omega), Bool.false_and]

theorem tHasPreB_c (s t : ByteArray) (σ : List AO) (hs : s.size ≤ 1000000) (ht : t.size ≤ 1000000) : ACalls Tryd.prog 29 [.str s, .str t] σ (Ret (.bool (decide (t.size ≤ s.size) && decide (s.extract 0 t.size = t))) σ) := by
 refine ACalls_body Tryd.func29 rfl Tryd.ntmps29 (res1 Tryd.results29) (Nat.le_of_ble_eq_true rfl) (fun hcl hal => ?_)
 refine zw1 ?_
 refine zu2 ?_
 refine zt rfl (zc rfl (hasPreB_c s t _ hs ht)) ?_
 refine zv1 ?_
 refine zrt ?_
 exact ResQ_10 rfl hcl (by simp [AV.lt, AV.ltL]) ⟨rfl, rfl⟩
end Lg
set_option maxRecDepth 20000
set_option maxHeartbeats 4000000
namespace Lg
open Go Go.Proofs Go.RowKit
variable [GLay] 
theorem tg1_c (pa : ByteArray) (a b : Bool) (K : AV) (s : ByteArray) (σ : List AO) (hs : s = hsh ++ s.extract 1 s.size) (hK : AV.one K = true) : ACalls Tryd.prog 31 [.agg [.str pa, .bool a, .bool b, K], .pp [.str s]] σ (Ret (.bool (decide (s = hsh ++ pa))) σ) := by
 refine ACalls_body Tryd.func31 rfl Tryd.ntmps31 (res1 Tryd.results31) (Nat.le_of_ble_eq_true rfl) (fun hcl hal => ?_)
 have hsz : 1 ≤ s.size := by
  have := congrArg ByteArray.size hs
  rw [ByteArray.size_append] at this
  have h1 : hsh.size = 1 := rfl
  omega
 refine zsr ?_
 refine zt rfl (op_box0 (cs := [.str pa, .bool a, .bool b, K]) rfl rfl (by simp only [ones, AV.one, Bool.true_and, Bool.and_true]; exact hK)) ?_
 refine zv1 ?_
 refine AWp_seq ?_
 refine AWp_drawL #[0, 1, 0, 4, 15, 31] Tryd.mixed (by decide +kernel) (by decide +kernel) ?_
 refine zd1 ?_
 refine zp2 ?_
 refine zd3 ?_
 refine RP.nil rfl ?_
 refine zrt ?_
 refine ResQ_1 rfl hcl trivial (Ret_of ?_)
 congr 1
 refine decide_eq_decide.2 ⟨fun e => ?_, fun e => ?_⟩
 ·rw [e]; exact hs
 ·conv => rhs; rw [e]
  exact (hsh_tl pa).symm

theorem ixn_c (l : List JNode) (rows : List (List AV)) (p g : Nat) (s : ByteArray) (σ : List AO) (hσ : σ[p]? = some (.arr 4 g rows.flatten)) (hrw : RW l rows) (hs : s = hsh ++ s.extract 1 s.size) (hl : l.length ≤ 1000000) : ACalls Tryd.prog 30 [.arr p g 4 0 l.length, .func (.func 31) [] [.pp [.str s]]] σ (Ret (.int .i64 (tgtI s l)) σ) := by
 refine ACalls_body Tryd.func30 rfl Tryd.ntmps30 (res1 Tryd.results30) (Nat.le_of_ble_eq_true rfl) (fun hcl hal => ?_)
 refine zw1 ?_
 refine AWp_seq ?_
 refine zu1 ?_
 refine zt rfl (op_lenS rfl rfl Tryd.underlying31 rfl rfl ⟨_, _, hσ⟩) ?_
 refine zv1 ?_
 refine AWp_block ?_
 -- loop 0 LIVE 0:param 1:param 4:assign 7:call 8:move
 refine AWp_loop (ι := Nat) (fun j => j ≤ l.length ∧ tgt s (l.take j) = none) (fun j => ⟨[], [(0, .arr p g 4 0 l.length), (1, .func (.func 31) [] [.pp [.str s]]), (7, .int .i64 (l.length : Int)), (8, .int .i64 (j : Int))]⟩) (fun j => σ) (fun j => l.length - j) (0) (⟨Nat.zero_le _, rfl⟩) ?_ rfl (fun j hj => ?_)
 ·exact ⟨rfl, rfl, rfl, rfl, rfl, trivial⟩
 obtain ⟨hj1, hj2⟩ := hj
 refine zw1 ?_
 refine AWp_seq ?_
 refine AWp_cond rfl (fun h1 => ?_) (fun h1 => ?_)
 ·(try rw [h1]); replace h1 := zcl h1
  obtain ⟨n, hn⟩ : ∃ n, l[j]? = some n := ⟨_, List.getElem?_eq_getElem (show j < l.length by omega)⟩
  obtain ⟨K, hK1, hK⟩ := hrw.get j n hn
  refine AWp_skip ?_
  refine AWp_seq ?_
  refine AWp_block ?_
  refine zw2 ?_
  refine zu3 ?_
  refine zt rfl (op_indexAddrA rfl Tryd.underlying31 Tryd.sizeOf45 rfl rfl (by omega) (by omega) hσ) ?_
  refine zt rfl (op_loadK rfl Tryd.isAgg45 Tryd.sizeOf45 (ldv_row hσ hrw.el hK (by simp))) ?_
  refine zt rfl (zc rfl (tg1_c n.path n.all n.pass K s σ hs hK1)) ?_
  refine zon ?_
  refine AWp_cond rfl (fun h2 => ?_) (fun h2 => ?_)
  ·(try rw [h2]); replace h2 := zcl h2
   refine zw2 ?_
   refine zrt ?_
   rw [tgt_hit hj2 hn h2]
   exact ResQ_10 rfl hcl trivial (Ret_of rfl)
  ·(try rw [h2]); replace h2 := zcl h2
   refine AWp_skip ?_
   refine AWp_regL ?_
   refine zv2 ?_
   refine ⟨j + 1, σ.length, ⟨by omega, tgt_step hj2 hn h2⟩, by omega, Nat.le_refl _, ⟨rfl, rfl, rfl, rfl, rfl, trivial⟩, hcl, ?_, List.take_length⟩
   simp [ltE, AV.lt, AV.ltL]
   exact (List.getElem?_eq_some_iff.1 hσ).1
 ·(try rw [h1]); replace h1 := zcl h1
  refine AWp_exit ?_
  refine zw1 ?_
  refine zrt ?_
  rw [tgt_all hj2 (by omega)]
  exact ResQ_10 rfl hcl trivial (Ret_of rfl)

theorem tgt_c (l : List JNode) (rows : List (List AV)) (p g : Nat) (s : ByteArray) (σ : List AO) (hσ : σ[p]? = some (.arr 4 g rows.flatten)) (hrw : RW l rows) (hl : l.length ≤ 1000000) (hss : s.size ≤ 1000000) : ACalls Tryd.prog 18 [.arr p g 4 0 l.length, .str s] σ (Ret (.int .i64 (tgtI s l)) σ) := by
 refine ACalls_body Tryd.func18 rfl Tryd.ntmps18 (res1 Tryd.results18) (Nat.le_of_ble_eq_true rfl) (fun hcl hal => ?_)
 refine zw2 ?_
 refine AWp_seq ?_
 refine zu1 ?_
 refine zt rfl (zc rfl (tHasPreB_c s hsh _ hss (by decide))) ?_
 refine zv1 ?_
 refine AWp_cond rfl (fun h1 => ?_) (fun h1 => ?_)
 ·(try rw [h1]); replace h1 := zcl h1
  have h1 : hpB s = false := by simpa [hpB] using h1
  refine zw1 ?_
  refine zrt ?_
  rw [hp_n h1]
  exact ResQ_1 rfl hcl trivial (Ret_of rfl)
 ·(try rw [h1]); replace h1 := zcl h1
  have h1 : hpB s = true := by simpa [hpB] using h1
  refine AWp_skip ?_
  refine AWp_seq ?_
  refine AWp_freezeQ 3 0 rfl rfl ?_ (by decide)
  refine AWp_regL ?_
  refine zg2 ?_
  refine zt rfl (zc rfl (ixn_c l rows p g s _ (by rw [List.getElem?_append_left (List.getElem?_eq_some_iff.1 hσ).1]; exact hσ) hrw (hp_y h1) hl)) ?_
  refine zv1 ?_
  refine zrt ?_
  exact ResQ_1 rfl hcl trivial (Ret_of rfl)
end Lg
namespace Lg
open Go Go.RowKit
section
variable [GLay] {P : Program} {N : Nat} {σ l : List AO} {e : Env} {Q : QA}
theorem AWp_freezeInA {c : Code} (q i p gg sz off len : Nat) {sz2 g2 : Nat} {bs cs : List AV} (hqp : q ≠ p) (hq : σ[q]? = some (.arr sz2 g2 bs)) (hi : bs[i]? = some (.arr p gg sz off len)) (hσ : σ[p]? = some (.arr sz gg cs)) (es : List (List AV)) (hes : es.flatten = (cs.drop (off * sz)).take (len * sz))
    (hel : ∀ r ∈ es, r.length = sz) (hlen : es.length = len) (hsz : sz ≠ 0) (hfit : (off + len) * sz ≤ cs.length) (k : AWp P N c e ((σ.set p .dead).set q (.arr sz2 g2 (bs.set i (.sl false sz es)))) Q) : AWp P N c e σ Q := fun s0 s a hs g x he => by
  subst hs
  have hb0 : bs ≠ [] := fun e => by subst e; cases hi
  have hrep := g.obj q _ hq
  have hne : (s.μ q).tot ≠ 0 := by
    rcases hrep with ⟨_, h⟩ | ⟨h, _⟩
    · exact absurd h hb0
    · exact h
  have hliveq : s.live q := by unfold CS.live; rw [hq]; exact hne
  obtain ⟨_, vs, T, hb, hp⟩ := g.rep hq hliveq
  obtain ⟨v, hv1, hv2⟩ := hp.2.2.2.get hi
  have hbl := hp.2.2.1
  have hlt : i < bs.length := (List.getElem?_eq_some_iff.1 hi).1
  obtain ⟨s1, e1, e2, g1, x1, hv'⟩ := freezeArr_V g hσ hv2 es hes hel hlen hsz hfit
  have hq1 : s1.σ[q]? = some (.arr sz2 g2 bs) := by rw [e1, List.getElem?_set, if_neg (fun e => hqp e.symm)]; exact hq
  have hμ1 : s1.μ q = s.μ q := by
    obtain ⟨o', h1, _, h3⟩ := x1.objs q _ hq
    rw [hq1] at h1; cases h1
    exact h3 rfl
  have hlive1 : s1.live q := by unfold CS.live; rw [hq1]; show (s1.μ q).tot ≠ 0; rw [hμ1]; exact hne
  have hset : ((vs.drop (s.μ q).base).take bs.length).set i v = (vs.drop (s.μ q).base).take bs.length := by
    obtain ⟨h1, h2⟩ := List.getElem?_eq_some_iff.1 hv1
    rw [← h2]; exact List.set_getElem_self h1
  have hnew : RepW s1 (s1.μ q) vs T (.arr sz2 g2 (bs.set i (.sl false sz es))) := by
    rw [hμ1]
    refine ⟨hp.1, hp.2.1, by rw [List.length_set]; exact hbl, ?_⟩
    have := (hp.2.2.2.mono g x1).set i hv'
    rw [hset] at this
    rw [List.length_set]; exact this
  obtain ⟨s2, f1, f2, g2', x2, _⟩ := g1.setObj hq1 hlive1 (o' := .arr sz2 g2 (bs.set i (.sl false sz es))) (.arr _ _ _ _ _ (Nat.le_refl _) (fun _ => by simp)) rfl (hnew.any rfl)
  have hw : s2.w = s.w := by
    rw [f2, e2, hμ1, setRow_self _ _ _ _ _ hb]
  have := k s0 s2 a (by rw [f1, e1]) g2' ((x.trans x1).trans x2) ((he.mono g x1).mono g1 x2)
  rwa [hw] at this
theorem AWp_freezeInAO {c : Code} (kq i kp gg sz len : Nat) {sz2 g2 : Nat} {bs cs : List AV} (hqp : kq ≠ kp) (hq : l[kq]? = some (.arr sz2 g2 bs)) (hi : bs[i]? = some (.arr (σ.length + kp) gg sz 0 len)) (hσ : l[kp]? = some (.arr sz gg cs)) (es : List (List AV)) (hes : es.flatten = cs)
    (hel : ∀ r ∈ es, r.length = sz) (hlen : es.length = len) (hsz : sz ≠ 0) (k : AWp P N c e (σ ++ (l.set kp .dead).set kq (.arr sz2 g2 (bs.set i (.sl false sz es)))) Q) : AWp P N c e (σ ++ l) Q := by
  have hcl : cs.length = len * sz := by rw [← hes, flatten_len hel, hlen]
  refine AWp_freezeInA (σ.length + kq) i (σ.length + kp) gg sz 0 len (fun e => hqp (by omega)) (by rw [get_ownT rfl]; exact hq) hi (by rw [get_ownT rfl]; exact hσ) es ?_ hel hlen hsz ?_ (by rw [set_ownT rfl, set_ownT rfl]; exact k)
  · rw [Nat.zero_mul, List.drop_zero, ← hcl, List.take_length]; exact hes
  · rw [Nat.zero_add, hcl]; exact Nat.le_refl _
end
end Lg
