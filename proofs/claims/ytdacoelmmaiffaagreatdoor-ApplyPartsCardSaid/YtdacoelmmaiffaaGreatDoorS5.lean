/- A part of the proof of For every input the law doubletlaw09.ApplyParts returns true: a patch's beginning, and then the rest, is the patch: the same value, or the same error at the same operation; the value stays as it is; a test of what is there changes nothing; the input reads as it did.: Lp4 Lp5 Lp6 Lp7 Lk4 Lk5 Lg44 Lk6 Lk7 Lr3 Lr4 Lr5 Lg45 Lg46 Lo1 Lr6 Lk9 Lt1 Lt2 Lt3 Lo2 Lo3 Ln9 Ln10 Ln11 Ln12 Le1 Lr7 Le2 Le3 Le4 Lr8 X4 Lg47. -/
import Derived.Test.YtdacoelmmaiffaaGreatDoorS4
import Derived.Test.YtdacoelmmaiffaaGreatDoorS3
import Derived.Test.YtdacoelmmaiffaaGreatDoorS2
import Derived.MapKept
import Derived.Lib.Atoi
import Derived.Lib.SlTrimSet
import Derived.Laws.CopyRow
set_option linter.unusedVariables false
set_option linter.unusedSimpArgs false
set_option linter.unusedSectionVars false
namespace Lg
open Go Go.Lib
def u8L (l : List UInt8) : Nat := u8N l.length (l.getD 0 0).toNat (l.getD 1 0).toNat (l.getD 2 0).toNat (l.getD 3 0).toNat
theorem validD_u8 (l : List UInt8) (hne : l ≠ []) : validD l = if u8L l = 0 then false else validD (l.drop (u8L l)) := by
  rw [validD_step _ hne]
  have hw := decodeL_width l
  rw [decodeL_N] at hw ⊢
  unfold u8L u8N
  by_cases hc : (decodeN l.length (l.getD 0 0).toNat (l.getD 1 0).toNat (l.getD 2 0).toNat (l.getD 3 0).toNat).1 = 65533 ∧ (decodeN l.length (l.getD 0 0).toNat (l.getD 1 0).toNat (l.getD 2 0).toNat (l.getD 3 0).toNat).2 = 1
  · rw [if_pos hc, if_pos hc, if_pos rfl]
  · rw [if_neg hc, if_neg hc, if_neg (by omega)]
theorem u8N_pre {n b0 b1 b2 b3 n' c0 c1 c2 c3 w : Nat} (hb0 : b0 < 256) (h : u8N n b0 b1 b2 b3 = w) (hw : w ≠ 0) (hl : w ≤ n') (h0 : c0 = b0) (h1 : 1 < w → c1 = b1) (h2 : 2 < w → c2 = b2) (h3 : 3 < w → c3 = b3) (hn : 1 ≤ n) :
    u8N n' c0 c1 c2 c3 = w ∧ w ≤ n := by
  subst h0
  by_cases k0 : c0 < 128
  · rw [u8N_1 k0] at h; subst h; exact ⟨u8N_1 k0, hn⟩
  by_cases k1 : c0 < 192 ∨ 248 ≤ c0
  · rw [u8N_0 (by omega) hb0] at h; exact absurd h.symm hw
  by_cases k2 : c0 < 224
  · rw [u8N_2 (by omega) k2] at h
    split at h
    · subst h
      have := h1 (by omega); subst this
      rw [u8N_2 (by omega) k2, if_pos (by omega)]; omega
    · exact absurd h.symm hw
  by_cases k3 : c0 < 240
  · rw [u8N_3 (by omega) k3 rfl] at h
    split at h
    · subst h
      have := h1 (by omega); subst this
      have := h2 (by omega); subst this
      rw [u8N_3 (by omega) k3 rfl, if_pos (by omega)]; omega
    · exact absurd h.symm hw
  · rw [u8N_4 (by omega) (by omega) rfl] at h
    split at h
    · subst h
      have := h1 (by omega); subst this
      have := h2 (by omega); subst this
      have := h3 (by omega); subst this
      rw [u8N_4 (by omega) (by omega) rfl, if_pos (by omega)]; omega
    · exact absurd h.symm hw
theorem u8L_pre {L L' : List UInt8} (hne : L ≠ []) (hw : u8L L ≠ 0) (hl : u8L L ≤ L'.length) (hp : ∀ k, k < u8L L → L'.getD k 0 = L.getD k 0) : u8L L' = u8L L ∧ u8L L ≤ L.length := by
  have hn : 1 ≤ L.length := by cases L with
    | nil => exact absurd rfl hne
    | cons => simp
  exact u8N_pre (L.getD 0 0).toNat_lt (rfl : u8L L = u8L L) hw hl (by rw [hp 0 (by omega)]) (fun h => by rw [hp 1 h]) (fun h => by rw [hp 2 h]) (fun h => by rw [hp 3 h]) hn
theorem validD_app (m : List UInt8) (hm : validD m = true) : ∀ (n : Nat) (l : List UInt8), l.length ≤ n → validD l = true → validD (l ++ m) = true := by
  intro n
  induction n with
  | zero => intro l hl _; have : l = [] := List.eq_nil_of_length_eq_zero (by omega); subst this; exact hm
  | succ n ih =>
    intro l hl h
    by_cases hne : l = []
    · subst hne; exact hm
    rw [validD_u8 l hne] at h
    split at h
    · cases h
    · rename_i hw
      have hle := (u8L_pre hne hw (L' := l ++ List.replicate (u8L l) 0) (by simp) (fun k hk => by
        by_cases hkl : k < l.length
        · simp [List.getD_eq_getElem?_getD, List.getElem?_append_left hkl]
        · simp only [List.getD_eq_getElem?_getD]
          rw [List.getElem?_append_right (by omega), List.getElem?_eq_none (l := l) (by omega)]
          rw [List.getElem?_replicate]; split <;> rfl)).2
      have he := (u8L_pre hne hw (L' := l ++ m) (by simp; omega) (fun k hk => by
        simp [List.getD_eq_getElem?_getD, List.getElem?_append_left (show k < l.length by omega)])).1
      rw [validD_u8 (l ++ m) (by simp [hne]), he, if_neg hw, List.drop_append_of_le_length hle]
      exact ih _ (by rw [List.length_drop]; omega) h
theorem Utf.app {a b : ByteArray} (ha : Utf a) (hb : Utf b) : Utf (a ++ b) := by
  unfold Utf at *
  have : (a ++ b).data.toList = a.data.toList ++ b.data.toList := by simp
  rw [this]
  exact validD_app _ hb _ _ (Nat.le_refl _) ha
theorem u8L_bat (s : ByteArray) (i : Nat) : u8L (s.data.toList.drop i) = u8 s i := by
  have hg : ∀ k, (s.data.toList.drop i).getD k 0 = bat s (i + k) := fun k => by simp [bat, List.getD, List.getElem?_drop]
  unfold u8L u8
  rw [hg, hg, hg, hg, List.length_drop, Array.length_toList]; rfl
theorem Utf.ext {s : ByteArray} {i : Nat} (h : i < s.size) (hu : ¬ u8 s i = 0) : Utf (s.extract i (i + u8 s i)) := by
  have hne : s.data.toList.drop i ≠ [] := by
    intro e
    have := congrArg List.length e
    rw [List.length_drop, Array.length_toList] at this
    have h' : i < s.data.size := h
    simp at this; omega
  have hle := u8_le h
  have hsz : s.data.size = s.size := rfl
  have hlist : (s.extract i (i + u8 s i)).data.toList = (s.data.toList.drop i).take (u8 s i) := by
    simp [ByteArray.data_extract, List.extract_eq_take_drop]
  have hlen : ((s.data.toList.drop i).take (u8 s i)).length = u8 s i := by simp; omega
  unfold Utf
  rw [hlist]
  have he := (u8L_pre hne (by rw [u8L_bat]; exact hu) (L' := (s.data.toList.drop i).take (u8 s i)) (by rw [hlen, u8L_bat]; exact Nat.le_refl _) (fun k hk => by
    rw [u8L_bat] at hk
    simp only [List.getD_eq_getElem?_getD, List.getElem?_take, hk, if_true])).1
  rw [u8L_bat] at he
  rw [validD_u8 _ (fun e => by rw [e] at hlen; simp at hlen; omega), he, if_neg hu, List.drop_eq_nil_of_le (by omega)]
  rfl
theorem u8b_nat {n : Int} (h0 : 0 ≤ n) (h1 : n < 256) : (u8b n).toNat = n.toNat := by
  have := u8b_toNat h0 h1; omega
theorem Utf.char {v : Int} (h0 : 0 ≤ v) (h1 : v < 1114112) (h2 : ¬ (55296 ≤ v ∧ v < 57344)) : Utf (rchar v) := by
  unfold Utf rchar
  split
  · show validD [u8b v] = true
    rw [validD_cons _ _ (by rw [u8b_nat h0 (by omega)]; omega)]; rfl
  split
  · show validD [u8b (192 + v / 64), u8b (128 + v % 64)] = true
    have e : u8L [u8b (192 + v / 64), u8b (128 + v % 64)] = 2 := by
      show u8N 2 (u8b (192 + v / 64)).toNat (u8b (128 + v % 64)).toNat 0 0 = 2
      rw [u8b_nat (by omega) (by omega), u8b_nat (by omega) (by omega), u8N_2 (by omega) (by omega), if_pos (by omega)]
    rw [validD_u8 _ (by simp), e]; rfl
  split
  · show validD [u8b (224 + v / 4096), u8b (128 + v / 64 % 64), u8b (128 + v % 64)] = true
    have e : u8L [u8b (224 + v / 4096), u8b (128 + v / 64 % 64), u8b (128 + v % 64)] = 3 := by
      show u8N 3 (u8b (224 + v / 4096)).toNat (u8b (128 + v / 64 % 64)).toNat (u8b (128 + v % 64)).toNat 0 = 3
      rw [u8b_nat (by omega) (by omega), u8b_nat (by omega) (by omega), u8b_nat (by omega) (by omega), u8N_3 (by omega) (by omega) rfl, if_pos (by omega)]
    rw [validD_u8 _ (by simp), e]; rfl
  · show validD [u8b (240 + v / 262144), u8b (128 + v / 4096 % 64), u8b (128 + v / 64 % 64), u8b (128 + v % 64)] = true
    have e : u8L [u8b (240 + v / 262144), u8b (128 + v / 4096 % 64), u8b (128 + v / 64 % 64), u8b (128 + v % 64)] = 4 := by
      show u8N 4 (u8b (240 + v / 262144)).toNat (u8b (128 + v / 4096 % 64)).toNat (u8b (128 + v / 64 % 64)).toNat (u8b (128 + v % 64)).toNat = 4
      rw [u8b_nat (by omega) (by omega), u8b_nat (by omega) (by omega), u8b_nat (by omega) (by omega), u8b_nat (by omega) (by omega), u8N_4 (by omega) (by omega) rfl, if_pos (by omega)]
    rw [validD_u8 _ (by simp), e]; rfl
theorem esc_ok {c b : Nat} (h : esc c = some b) : b < 128 := by
  unfold esc at h
  rw [Option.map_eq_some_iff] at h
  obtain ⟨q, hq, rfl⟩ := h
  have := List.mem_of_find?_eq_some hq
  revert this
  have : ∀ q ∈ escL, q.2 < 128 := by decide
  exact this q
theorem Utf.asc {b : Nat} (h : b < 128) : Utf ⟨#[UInt8.ofNat b]⟩ := by
  unfold Utf
  show validD [UInt8.ofNat b] = true
  rw [validD_cons _ _ (by rw [UInt8.toNat_ofNat']; omega)]; rfl
def UOK (s : ByteArray) (a : Nat) (u : UR) : Prop := (u.bad = 0 ∧ 0 ≤ u.n ∧ (a : Int) + u.n ≤ s.size ∧ Utf u.s ∧ (u.s.size : Int) ≤ u.n) ∨ ((u.bad = 1 ∨ u.bad = 2) ∧ u.n = 0 ∧ u.s = e0)
theorem unqF_ok (s : ByteArray) (a : Nat) : ∀ (k i : Nat) (out : ByteArray), s.size - i ≤ k → a < i → Utf out → out.size ≤ i - a → UOK s a (unqF s a i out) := by
  intro k
  induction k with
  | zero => intro i out hk hi hu ho; rw [unqF_end (by omega)]; exact .inr ⟨.inl rfl, rfl, rfl⟩
  | succ k ih =>
    intro i out hk hi hu ho
    by_cases h : s.size ≤ i
    · rw [unqF_end h]; exact .inr ⟨.inl rfl, rfl, rfl⟩
    by_cases h1 : (bat s i).toNat = 34
    · rw [unqF_q (by omega) h1]; exact .inl ⟨rfl, by dsimp only; omega, by dsimp only; omega, hu, by dsimp only; omega⟩
    by_cases h2 : (bat s i).toNat < 32
    · rw [unqF_ctl (by omega) h2]; exact .inr ⟨.inl rfl, rfl, rfl⟩
    by_cases h3 : (bat s i).toNat = 92
    · by_cases h4 : i + 1 = s.size
      · rw [unqF_last h4 h3]; exact .inr ⟨.inl rfl, rfl, rfl⟩
      by_cases h5 : (bat s (i + 1)).toNat = 117
      · by_cases h6 : 0 ≤ (rhex s (i + 2)).2
        · rw [unqF_hb (by omega) h3 h5 h6]; exact .inr ⟨.inl rfl, rfl, rfl⟩
        have hx := rhex_ok s (i + 2)
        have hl := rlow_ok s (i + 6)
        by_cases h7 : 55296 ≤ (rhex s (i + 2)).1 ∧ (rhex s (i + 2)).1 < 56320 ∧ 0 ≤ rlow s (i + 6)
        · rw [unqF_pair (by omega) h3 h5 (by omega) h7]
          have hs := rchar_size (65536 + 1024 * ((rhex s (i + 2)).1 - 55296) + rlow s (i + 6) - 56320)
          exact ih _ _ (by omega) (by omega) (hu.app (Utf.char (by omega) (by omega) (by omega))) (by rw [ByteArray.size_append]; omega)
        by_cases h8 : 55296 ≤ (rhex s (i + 2)).1 ∧ (rhex s (i + 2)).1 < 57344
        · rw [unqF_sur (by omega) h3 h5 (by omega) h7 h8]; exact .inr ⟨.inr rfl, rfl, rfl⟩
        · rw [unqF_u (by omega) h3 h5 (by omega) h7 h8]
          have hs := rchar_size (rhex s (i + 2)).1
          exact ih _ _ (by omega) (by omega) (hu.app (Utf.char (by omega) (by omega) h8)) (by rw [ByteArray.size_append]; omega)
      · cases h6 : esc (bat s (i + 1)).toNat with
        | none => rw [unqF_eb (by omega) h3 h5 h6]; exact .inr ⟨.inl rfl, rfl, rfl⟩
        | some b =>
          rw [unqF_e (by omega) h3 h5 h6]
          have h1b : (ByteArray.mk #[UInt8.ofNat b]).size = 1 := rfl
          exact ih _ _ (by omega) (by omega) (hu.app (Utf.asc (esc_ok h6))) (by rw [ByteArray.size_append]; omega)
    · by_cases h4 : u8 s i = 0
      · rw [unqF_bad (by omega) h1 (by omega) h3 h4]; exact .inr ⟨.inr rfl, rfl, rfl⟩
      · rw [unqF_plain (by omega) h1 (by omega) h3 h4]
        exact ih _ _ (by omega) (by omega) (hu.app (Utf.ext (by omega) h4)) (by rw [ByteArray.size_append, ByteArray.size_extract]; omega)
theorem rUnq_ok (s : ByteArray) (a : Nat) : UOK s a (rUnq s (a : Int)) := by
  unfold rUnq
  split
  · exact .inr ⟨.inl rfl, rfl, rfl⟩
  split
  · exact .inr ⟨.inl rfl, rfl, rfl⟩
  · rw [Int.toNat_natCast]
    exact unqF_ok s a _ _ _ (Nat.le_refl _) (by omega) rfl (Nat.zero_le _)
end Lg
namespace Lg
open Go
structure RS where
  a : Nat
  deep : Int
  bad : Int
  spot : Int
abbrev rbox (s : ByteArray) (r : RS) : AO := .box [.str s, .int .i64 (r.a : Int), .int .i64 r.deep, .int .i64 r.bad, .int .i64 r.spot]
def rfail (r : RS) (a b : Int) : RS := ⟨r.a, r.deep, if r.bad = 0 then b else r.bad, if r.bad = 0 then a else r.spot⟩
def rblank (s : ByteArray) (r : RS) : RS := ⟨if r.bad = 0 then blk s r.a else r.a, r.deep, r.bad, r.spot⟩
def ropen (s : ByteArray) (r : RS) : RS :=
  ⟨if (if r.deep = 32 then (if r.bad = 0 then 3 else r.bad) else r.bad) = 0 then blk s (r.a + 1) else r.a + 1, r.deep + 1, if r.deep = 32 then (if r.bad = 0 then 3 else r.bad) else r.bad, if r.deep = 32 then (if r.bad = 0 then (r.a : Int) else r.spot) else r.spot⟩
def rinc (r : RS) : RS := ⟨r.a + 1, r.deep, r.bad, r.spot⟩
def wstep (s : ByteArray) (c : UInt8) (r : RS) : RS := if pkv s r.a r.bad = c.toNat then rinc r else rinc (rfail r r.a 1)
def wantF (s lit : ByteArray) (i : Nat) (r : RS) : RS := if i < lit.size ∧ r.bad = 0 then wantF s lit (i + 1) (wstep s (bat lit i) r) else r
termination_by lit.size - i
def rwant (s lit : ByteArray) (r : RS) : RS := wantF s lit 0 r
def rtext (s : ByteArray) (r : RS) : ByteArray × RS :=
  if r.bad = 0 then ((rUnq s r.a).s, ⟨r.a + (rUnq s r.a).n.toNat, r.deep, (rUnq s r.a).bad, if (rUnq s r.a).bad = 0 then r.spot else (rUnq s r.a).at_⟩) else (e0, r)
def rdec (r : RS) : RS := ⟨r.a, r.deep - 1, r.bad, r.spot⟩
section
variable (rv : RS → JV × RS) (s : ByteArray)
def rarrF : Nat → List JV → RS → List JV × RS
  | 0, l, r => (l, r)
  | k + 1, l, r => if r.bad = 0 ∧ (¬ pkv s r.a r.bad = 93 ∨ 0 < l.length) then
      (if pkv s (rv r).2.a (rv r).2.bad = 44 then rarrF k (l ++ [(rv r).1]) (rinc (rv r).2) else (l ++ [(rv r).1], (rv r).2))
    else (l, r)
def rb1 : ByteArray := ⟨#[93]⟩
def rb2 : ByteArray := ⟨#[125]⟩
def rb3 : ByteArray := ⟨#[58]⟩
def rarr (r : RS) : JV × RS := (.mk 4 false {} e0 (rarrF rv s (s.size + 2) [] (ropen s r)).1 [], rdec (rwant s rb1 (rarrF rv s (s.size + 2) [] (ropen s r)).2))
def rinsK (m : List (ByteArray × JV)) (key : ByteArray) : Nat := (m.takeWhile fun q => blt q.1 key).length
def rins (m : List (ByteArray × JV)) (key : ByteArray) (x : JV) : List (ByteArray × JV) := m.take (rinsK m key) ++ (key, x) :: m.drop (rinsK m key)
def mkO (m : List (ByteArray × JV)) : JV := .mk 5 false {} e0 [] m
def rk2 (m : List (ByteArray × JV)) (r : RS) : RS := if (jfind (mkO m) (rtext s (rblank s r)).1).isSome = true then rfail (rtext s (rblank s r)).2 (rblank s r).a 4 else (rtext s (rblank s r)).2
def rkey (m : List (ByteArray × JV)) (r : RS) : ByteArray × RS := ((rtext s (rblank s r)).1, rwant s rb3 (rblank s (rk2 s m r)))
def robjF : Nat → List (ByteArray × JV) → RS → List (ByteArray × JV) × RS
  | 0, m, r => (m, r)
  | k + 1, m, r => if r.bad = 0 ∧ (¬ pkv s r.a r.bad = 125 ∨ 0 < m.length) then
      (if pkv s (rv (rkey s m r).2).2.a (rv (rkey s m r).2).2.bad = 44 then robjF k (rins m (rkey s m r).1 (rv (rkey s m r).2).1) (rinc (rv (rkey s m r).2).2) else (rins m (rkey s m r).1 (rv (rkey s m r).2).1, (rv (rkey s m r).2).2))
    else (m, r)
def robj (r : RS) : JV × RS := (mkO (robjF rv s (s.size + 2) [] (ropen s r)).1, rdec (rwant s rb2 (robjF rv s (s.size + 2) [] (ropen s r)).2))
end
def lNull : ByteArray := ⟨#[110, 117, 108, 108]⟩
def lTrue : ByteArray := ⟨#[116, 114, 117, 101]⟩
def lFalse : ByteArray := ⟨#[102, 97, 108, 115, 101]⟩
noncomputable def rnumv (s : ByteArray) (r : RS) : JV × RS :=
  (.mk 2 false (rNum (s.extract r.a (rEnd s r.a).1)).1 e0 [] [],
   ⟨(rEnd s r.a).1, r.deep, (if (rNum (s.extract r.a (rEnd s r.a).1)).2 = 0 then (if (rEnd s r.a).2 = true then r else rfail r (rEnd s r.a).1 1) else rfail (if (rEnd s r.a).2 = true then r else rfail r (rEnd s r.a).1 1) r.a 5).bad,
    (if (rNum (s.extract r.a (rEnd s r.a).1)).2 = 0 then (if (rEnd s r.a).2 = true then r else rfail r (rEnd s r.a).1 1) else rfail (if (rEnd s r.a).2 = true then r else rfail r (rEnd s r.a).1 1) r.a 5).spot⟩)
noncomputable def rone (rv : RS → JV × RS) (s : ByteArray) (r : RS) : JV × RS :=
  if pkv s r.a r.bad = 123 then robj rv s r else
  if pkv s r.a r.bad = 91 then rarr rv s r else
  if pkv s r.a r.bad = 34 then (.mk 3 false {} (rtext s r).1 [] [], (rtext s r).2) else
  if pkv s r.a r.bad = 110 then (vz, rwant s lNull r) else
  if pkv s r.a r.bad = 116 then (.mk 1 true {} e0 [] [], rwant s lTrue r) else
  if pkv s r.a r.bad = 102 then (.mk 1 false {} e0 [] [], rwant s lFalse r) else
  if pkv s r.a r.bad = 45 ∨ (48 ≤ pkv s r.a r.bad ∧ pkv s r.a r.bad ≤ 57) then rnumv s r else (vz, rfail r r.a 1)
noncomputable def rval : Nat → ByteArray → RS → JV × RS
  | 0, s, r => (vz, r)
  | n + 1, s, r => ((rone (rval n s) s (rblank s r)).1, rblank s (rone (rval n s) s (rblank s r)).2)
noncomputable def rpar (s : ByteArray) : JV × RS := rval (s.size + 2) s ⟨0, 0, 0, 0⟩
noncomputable def rparE (s : ByteArray) : RS := if (rpar s).2.bad = 0 ∧ (rpar s).2.a < s.size then rfail (rpar s).2 (rpar s).2.a 1 else (rpar s).2
noncomputable def rParse (s : ByteArray) : JV × Int × Int :=
  if 20000 < s.size then (vz, 5, 20000) else if (rparE s).bad = 0 then ((rpar s).1, 0, 0) else (vz, (rparE s).bad, (rparE s).spot)

structure ROK (s : ByteArray) (r : RS) : Prop where
  a : r.a ≤ s.size + 1
  b : r.bad = 0 → r.a ≤ s.size
  d0 : 0 ≤ r.deep
  d1 : r.deep ≤ r.a
structure RTo (s : ByteArray) (r r' : RS) : Prop where
  a : r.a ≤ r'.a
  ok : ROK s r'
  b : r'.bad = 0 → r.bad = 0
theorem RTo.refl {s : ByteArray} {r : RS} (h : ROK s r) : RTo s r r := ⟨Nat.le_refl _, h, id⟩
theorem RTo.trans {s : ByteArray} {r r' r'' : RS} (h : RTo s r r') (k : RTo s r' r'') : RTo s r r'' := ⟨Nat.le_trans h.a k.a, k.ok, fun e => h.b (k.b e)⟩
theorem rfail_bad {r : RS} {a b : Int} (hb : b ≠ 0) : (rfail r a b).bad ≠ 0 := by
  unfold rfail; dsimp only; split <;> assumption
theorem rfail_to {s : ByteArray} {r : RS} (h : ROK s r) {a b : Int} (hb : b ≠ 0) : RTo s r (rfail r a b) := by
  have hbad := rfail_bad (r := r) (a := a) hb
  exact ⟨Nat.le_refl _, ⟨h.a, fun e => absurd e hbad, h.d0, h.d1⟩, fun e => absurd e hbad⟩
theorem rblank_to {s : ByteArray} {r : RS} (h : ROK s r) : RTo s r (rblank s r) := by
  have h1 := blk_le s r.a
  have h2 := h.a; have h3 := h.d1
  by_cases hb : r.bad = 0
  · have h4 := h.b hb
    refine ⟨?_, ⟨?_, ?_, h.d0, ?_⟩, fun _ => hb⟩ <;> simp only [rblank, if_pos hb] <;> omega
  · refine ⟨?_, ⟨?_, ?_, h.d0, ?_⟩, id⟩ <;> simp only [rblank, if_neg hb] <;> omega
theorem ropen_to {s : ByteArray} {r : RS} (h : ROK s r) (hb : r.bad = 0) (ha : r.a < s.size) : RTo s r (ropen s r) ∧ r.a + 1 ≤ (ropen s r).a ∧ (ropen s r).deep = r.deep + 1 := by
  have h1 := blk_le s (r.a + 1)
  have h2 := h.d1; have h3 := h.d0
  by_cases hd : r.deep = 32
  · have e : ropen s r = ⟨r.a + 1, r.deep + 1, 3, r.a⟩ := by simp [ropen, hd, hb]
    rw [e]
    exact ⟨⟨by dsimp only; omega, ⟨by dsimp only; omega, fun e => absurd e (show ¬ (3 : Int) = 0 by decide), by dsimp only; omega, by dsimp only; omega⟩, fun e => absurd e (show ¬ (3 : Int) = 0 by decide)⟩, Nat.le_refl _, rfl⟩
  · have e : ropen s r = ⟨blk s (r.a + 1), r.deep + 1, 0, r.spot⟩ := by simp [ropen, hd, hb]
    rw [e]
    exact ⟨⟨by dsimp only; omega, ⟨by dsimp only; omega, fun _ => by dsimp only; omega, by dsimp only; omega, by dsimp only; omega⟩, fun _ => hb⟩, by dsimp only; omega, rfl⟩
theorem rinc_to {s : ByteArray} {r : RS} (h : ROK s r) (ha : 0 ≤ pkv s r.a r.bad) : RTo s r (rinc r) := by
  have h1 := pk_yes ha
  have h2 := h.d1
  exact ⟨by dsimp only [rinc]; omega, ⟨by dsimp only [rinc]; omega, fun _ => by dsimp only [rinc]; omega, h.d0, by dsimp only [rinc]; omega⟩, id⟩
theorem wstep_to {s : ByteArray} {c : UInt8} {r : RS} (h : ROK s r) (hb : r.bad = 0) : RTo s r (wstep s c r) ∧ (wstep s c r).deep = r.deep := by
  have h2 := h.d1; have h3 := h.b hb
  unfold wstep
  split
  · rename_i hp; exact ⟨rinc_to h (by omega), rfl⟩
  · have hbad := rfail_bad (r := r) (a := (r.a : Int)) (b := 1) (by decide)
    exact ⟨⟨by dsimp only [rinc, rfail]; omega, ⟨by dsimp only [rinc, rfail]; omega, fun e => absurd e hbad, h.d0, by dsimp only [rinc, rfail]; omega⟩, fun _ => hb⟩, rfl⟩
theorem wantF_to {s lit : ByteArray} : ∀ (k i : Nat) (r : RS), lit.size - i ≤ k → ROK s r → RTo s r (wantF s lit i r) ∧ (wantF s lit i r).deep = r.deep := by
  intro k
  induction k with
  | zero => intro i r hk h; rw [wantF, if_neg (by omega)]; exact ⟨.refl h, rfl⟩
  | succ k ih =>
    intro i r hk h
    rw [wantF]
    split
    · rename_i hc
      have h1 := wstep_to (s := s) (c := bat lit i) h hc.2
      have h2 := ih (i + 1) _ (by omega) h1.1.ok
      exact ⟨h1.1.trans h2.1, h2.2.trans h1.2⟩
    · exact ⟨.refl h, rfl⟩
theorem rwant_to {s lit : ByteArray} {r : RS} (h : ROK s r) : RTo s r (rwant s lit r) ∧ (rwant s lit r).deep = r.deep := wantF_to _ 0 r (Nat.le_refl _) h
theorem rtext_to {s : ByteArray} {r : RS} (h : ROK s r) : RTo s r (rtext s r).2 ∧ (rtext s r).2.deep = r.deep ∧ Utf (rtext s r).1 ∧ r.a + (rtext s r).1.size ≤ (rtext s r).2.a := by
  have h2 := h.d1; have h4 := h.a
  unfold rtext
  split
  · rename_i hb
    have h3 := h.b hb
    rcases rUnq_ok s r.a with ⟨q1, q2, q3, q4, q5⟩ | ⟨q1, q2, q3⟩
    · exact ⟨⟨by dsimp only; omega, ⟨by dsimp only; omega, fun _ => by dsimp only; omega, h.d0, by dsimp only; omega⟩, fun _ => hb⟩, rfl, q4, by dsimp only; omega⟩
    · exact ⟨⟨by dsimp only; omega, ⟨by dsimp only; omega, fun e => by dsimp only at e; omega, h.d0, by dsimp only; omega⟩, fun _ => hb⟩, rfl, by dsimp only; rw [q3]; rfl, by dsimp only; rw [q3]; show r.a + 0 ≤ _; omega⟩
  · exact ⟨.refl h, rfl, rfl, Nat.le_refl _⟩
end Lg
namespace Lg
open Go
variable [GLay]
theorem bytesLess_trans : ∀ (a b c : List UInt8), Op.bytesLess a b = true → Op.bytesLess b c = true → Op.bytesLess a c = true
  | [], [], _, h, _ => by simp [Op.bytesLess] at h
  | [], _ :: _, [], _, h => by simp [Op.bytesLess] at h
  | [], _ :: _, _ :: _, _, _ => by simp [Op.bytesLess]
  | _ :: _, [], _, h, _ => by simp [Op.bytesLess] at h
  | _ :: _, _ :: _, [], _, h => by simp [Op.bytesLess] at h
  | x :: a, y :: b, z :: c, h, k => by
    simp only [Op.bytesLess] at h k ⊢
    have ih := bytesLess_trans a b c
    have e1 : ∀ u v : UInt8, (u < v) = (u.toNat < v.toNat) := fun u v => by rw [UInt8.lt_iff_toNat_lt]
    have e2 : ∀ u v : UInt8, (u = v) = (u.toNat = v.toNat) := fun u v => by rw [UInt8.toNat_inj]
    simp only [e1, beq_iff_eq, e2, Bool.if_true_left, Bool.or_eq_true, decide_eq_true_eq, Bool.and_eq_true, Bool.if_false_right] at h k ⊢
    rcases h with h | h <;> rcases k with k | k
    · left; omega
    · left; omega
    · left; omega
    · right; exact ⟨by omega, ih h.2 k.2⟩
theorem blt_trans {a b c : ByteArray} (h : blt a b = true) (k : blt b c = true) : blt a c = true := bytesLess_trans _ _ _ h k
theorem vz_may : jmay vz := (jmay_eq vz).2 ⟨⟨by decide, by decide, by decide, zmay, zutf⟩, fun j q hj => absurd hj (by simp [vz, JV.m]), fun i x hx => by simp [vz, JV.l] at hx⟩
theorem may_b (b : Bool) : jmay (.mk 1 b {} e0 [] []) := (jmay_eq _).2 ⟨⟨by simp [JV.kind], by simp [JV.kind], by cases b <;> decide, zmay, zutf⟩, fun j q hj => absurd hj (by simp [JV.m]), fun i x hx => by simp [JV.l] at hx⟩
theorem may_s {t : ByteArray} (h : Utf t) : jmay (.mk 3 false {} t [] []) := (jmay_eq _).2 ⟨⟨by simp [JV.kind], by simp [JV.kind], by simp [jbare, JV.kind, JV.b, JV.n, JV.s, JV.l, JV.m, JNum.z], zmay, h⟩, fun j q hj => absurd hj (by simp [JV.m]), fun i x hx => by simp [JV.l] at hx⟩
theorem may_n {n : JNum} (h : NumMay n) : jmay (.mk 2 false n e0 [] []) := (jmay_eq _).2 ⟨⟨by simp [JV.kind], by simp [JV.kind], by simp [jbare, JV.kind, JV.b, JV.n, JV.s, JV.l, JV.m, e0], h, zutf⟩, fun j q hj => absurd hj (by simp [JV.m]), fun i x hx => by simp [JV.l] at hx⟩
theorem may_l {l : List JV} (h : lmay l) : jmay (.mk 4 false {} e0 l []) := (jmay_eq _).2 ⟨⟨by simp [JV.kind], by simp [JV.kind], by simp [jbare, JV.kind, JV.b, JV.n, JV.s, JV.l, JV.m, JNum.z, e0], zmay, zutf⟩, fun j q hj => absurd hj (by simp [JV.m]), fun i x hx => (lmay_iff l).1 h i x hx⟩
def MOK (m : List (ByteArray × JV)) : Prop := (∀ q ∈ m, Utf q.1 ∧ jmay q.2) ∧ m.Pairwise fun p q => blt p.1 q.1 = true
theorem MOK.mok {m : List (ByteArray × JV)} (h : MOK m) : mok m m.length := fun j q _ hq => by
  have hm := h.1 q (List.mem_of_getElem? hq)
  refine ⟨⟨hm.1, fun q' hj hq' => ?_⟩, hm.2⟩
  obtain ⟨h1, rfl⟩ := List.getElem?_eq_some_iff.1 hq
  obtain ⟨h2, rfl⟩ := List.getElem?_eq_some_iff.1 hq'
  exact List.pairwise_iff_getElem.1 h.2 (j - 1) j h2 h1 (by omega)
theorem may_m {m : List (ByteArray × JV)} (h : MOK m) : jmay (mkO m) := (jmay_eq _).2 ⟨⟨by simp [mkO, JV.kind], by simp [mkO, JV.kind], by simp [mkO, jbare, JV.kind, JV.b, JV.n, JV.s, JV.l, JV.m, JNum.z, e0], zmay, zutf⟩, h.mok, fun i x hx => by simp [mkO, JV.l] at hx⟩
theorem rins_nil (key : ByteArray) (x : JV) : rins [] key x = [(key, x)] := rfl
theorem rins_cons (q : ByteArray × JV) (m : List (ByteArray × JV)) (key : ByteArray) (x : JV) : rins (q :: m) key x = if blt q.1 key = true then q :: rins m key x else (key, x) :: q :: m := by
  unfold rins rinsK
  by_cases h : blt q.1 key = true
  · simp [List.takeWhile_cons, h]
  · simp [List.takeWhile_cons, h]
theorem rins_mem {m : List (ByteArray × JV)} {key : ByteArray} {x : JV} : ∀ q ∈ rins m key x, q ∈ m ∨ q = (key, x) := by
  induction m with
  | nil => intro q hq; rw [rins_nil] at hq; exact .inr (List.mem_singleton.1 hq)
  | cons p m ih =>
    intro q hq
    rw [rins_cons] at hq
    split at hq
    · rcases List.mem_cons.1 hq with rfl | h
      · exact .inl (List.mem_cons_self ..)
      · exact (ih q h).imp (List.mem_cons_of_mem _) id
    · rcases List.mem_cons.1 hq with rfl | h
      · exact .inr rfl
      · exact .inl h
theorem rins_pw {m : List (ByteArray × JV)} {key : ByteArray} {x : JV} (h : m.Pairwise fun p q => blt p.1 q.1 = true) (hk : ∀ q ∈ m, ¬ q.1 = key) : (rins m key x).Pairwise fun p q => blt p.1 q.1 = true := by
  induction m with
  | nil => rw [rins_nil]; exact List.pairwise_singleton _ _
  | cons p m ih =>
    rw [rins_cons]
    obtain ⟨h1, h2⟩ := List.pairwise_cons.1 h
    split
    · rename_i hl
      refine List.pairwise_cons.2 ⟨fun q hq => ?_, ih h2 fun q hq => hk q (List.mem_cons_of_mem _ hq)⟩
      rcases rins_mem q hq with h3 | rfl
      · exact h1 q h3
      · exact hl
    · rename_i hl
      have hlt : blt key p.1 = true := bytesLess_total _ _ (by simpa [blt] using hl) fun e => hk p (List.mem_cons_self ..) (by
        have := ba_beq p.1 key
        rw [e] at this; simpa using this)
      refine List.pairwise_cons.2 ⟨fun q hq => ?_, h⟩
      rcases List.mem_cons.1 hq with rfl | h3
      · exact hlt
      · exact blt_trans hlt (h1 q h3)
theorem MOK.ins {m : List (ByteArray × JV)} {key : ByteArray} {x : JV} (h : MOK m) (h1 : Utf key) (h2 : jmay x) (hk : ∀ q ∈ m, ¬ q.1 = key) : MOK (rins m key x) :=
  ⟨fun q hq => by
    rcases rins_mem q hq with h3 | rfl
    · exact h.1 q h3
    · exact ⟨h1, h2⟩, rins_pw h.2 hk⟩
theorem msize_ins (m : List (ByteArray × JV)) (key : ByteArray) (x : JV) : msize (rins m key x) = msize m + jsize x := by
  induction m with
  | nil => rw [rins_nil]; simp [msize]
  | cons p m ih =>
    obtain ⟨k, v⟩ := p
    rw [rins_cons]
    split
    · simp only [msize, ih]; omega
    · simp only [msize]; omega
theorem mb_ins {m : List (ByteArray × JV)} {key : ByteArray} {x : JV} (h : mb m) (h1 : key.size ≤ 1000000) (h2 : jb x) : mb (rins m key x) := by
  induction m with
  | nil => rw [rins_nil]; exact ⟨h1, h2, trivial⟩
  | cons p m ih =>
    obtain ⟨k, v⟩ := p
    rw [rins_cons]
    split
    · exact ⟨h.1, h.2.1, ih h.2.2⟩
    · exact ⟨h1, h2, h⟩
theorem lsize_snoc (l : List JV) (x : JV) : lsize (l ++ [x]) = lsize l + jsize x := by
  induction l with
  | nil => simp [lsize]
  | cons a l ih => simp only [List.cons_append, lsize, ih]; omega
theorem lcells_snoc (l : List JV) (x : JV) : (lcells (l ++ [x])).flatten = (lcells l).flatten ++ vcells x := by
  rw [lcells_eq, lcells_eq]; simp
theorem lflat_len (l : List JV) : (lcells l).flatten.length = l.length * 8 := by
  induction l with
  | nil => simp [lcells]
  | cons a l ih => simp only [lcells, List.flatten_cons, List.length_append, ih, vlen, List.length_cons]; omega
theorem ltL_append (n : Nat) (a b : List AV) : AV.ltL n (a ++ b) ↔ AV.ltL n a ∧ AV.ltL n b := by
  induction a with
  | nil => simp [AV.ltL]
  | cons x a ih => simp only [List.cons_append, AV.ltL, ih, and_assoc]
theorem lflat_lt (n : Nat) (l : List JV) : AV.ltL n (lcells l).flatten := by
  induction l with
  | nil => simp [lcells, AV.ltL]
  | cons a l ih => simp only [lcells, List.flatten_cons, ltL_append]; exact ⟨vcells_lt n a, ih⟩
theorem lrow_len (l : List JV) : ∀ r ∈ lcells l, r.length = 8 := fun r hr => by
  rw [lcells_eq] at hr
  obtain ⟨v, _, rfl⟩ := List.mem_map.1 hr
  exact vlen v
theorem lb_snoc {l : List JV} {x : JV} (h : lb l) (hx : jb x) : lb (l ++ [x]) := by
  induction l with
  | nil => exact ⟨hx, trivial⟩
  | cons a l ih => exact ⟨h.1, ih h.2⟩
theorem lmay_snoc {l : List JV} {x : JV} (h : lmay l) (hx : jmay x) : lmay (l ++ [x]) := by
  induction l with
  | nil => exact ⟨hx, trivial⟩
  | cons a l ih => exact ⟨h.1, ih h.2⟩
theorem jfind_none {m : List (ByteArray × JV)} {key : ByteArray} (h : jfind (mkO m) key = none) : ∀ q ∈ m, ¬ q.1 = key := fun q hq e => by
  have h' : (m.find? fun q => decide (q.1 = key)) = none := by
    unfold jfind at h
    rw [if_pos (show (mkO m).kind = 5 from rfl)] at h
    simpa [mkO, JV.m] using h
  have := List.find?_eq_none.1 h' q hq
  simp [e] at this
structure VR (s : ByteArray) (r : RS) (x : JV × RS) : Prop where
  fwd : RTo s r x.2
  deep : x.2.deep = r.deep
  jb : jb x.1
  size : jsize x.1 ≤ (x.2.a : Int) - r.a + 1
  may : x.2.bad = 0 → jmay x.1
section
variable {rv : RS → JV × RS} {s : ByteArray} (hs : s.size ≤ 100000) (hrv : ∀ r, ROK s r → VR s r (rv r))
include hrv
theorem rarrF_ok : ∀ (k : Nat) (l : List JV) (r : RS), ROK s r → lb l → (r.bad = 0 → lmay l) →
    RTo s r (rarrF rv s k l r).2 ∧ (rarrF rv s k l r).2.deep = r.deep ∧ lb (rarrF rv s k l r).1 ∧ lsize (rarrF rv s k l r).1 ≤ lsize l + ((rarrF rv s k l r).2.a : Int) - r.a + 1 ∧ ((rarrF rv s k l r).2.bad = 0 → lmay (rarrF rv s k l r).1) := by
  intro k
  induction k with
  | zero => intro l r h h1 h2; exact ⟨.refl h, rfl, h1, by dsimp only [rarrF]; omega, h2⟩
  | succ k ih =>
    intro l r h h1 h2
    rw [rarrF]
    have hv := hrv r h
    split
    · split
      · rename_i hp
        have hi := rinc_to hv.fwd.ok (by omega)
        obtain ⟨q1, q2, q3, q4, q5⟩ := ih (l ++ [(rv r).1]) (rinc (rv r).2) hi.ok (lb_snoc h1 hv.jb) (fun e => lmay_snoc (h2 (hv.fwd.b e)) (hv.may e))
        refine ⟨hv.fwd.trans (hi.trans q1), q2.trans hv.deep, q3, ?_, q5⟩
        rw [lsize_snoc] at q4
        have := hv.size
        have h5 : (rinc (rv r).2).a = (rv r).2.a + 1 := rfl
        omega
      · refine ⟨hv.fwd, hv.deep, lb_snoc h1 hv.jb, ?_, fun e => lmay_snoc (h2 (hv.fwd.b e)) (hv.may e)⟩
        rw [lsize_snoc]; have := hv.size; dsimp only; omega
    · exact ⟨.refl h, rfl, h1, by dsimp only; omega, h2⟩
include hs
theorem rarr_ok {r : RS} (h : ROK s r) (hb : r.bad = 0) (ha : r.a < s.size) : VR s r (rarr rv s r) := by
  obtain ⟨o1, o2, o3⟩ := ropen_to h hb ha
  obtain ⟨q1, q2, q3, q4, q5⟩ := rarrF_ok hrv (s.size + 2) [] (ropen s r) o1.ok trivial (fun _ => trivial)
  obtain ⟨w1, w2⟩ := rwant_to (lit := rb1) q1.ok
  unfold rarr
  have hll := llen_le (rarrF rv s (s.size + 2) [] (ropen s r)).1
  have e0l : lsize [] = 0 := rfl
  have ha1 := w1.ok.a; have ha2 := w1.a
  have hd := h.d0; have hd1 := h.d1
  refine ⟨⟨?_, ⟨ha1, w1.ok.b, ?_, ?_⟩, fun e => o1.b (q1.b (w1.b e))⟩, ?_, ?_, ?_, fun e => may_l (q5 (w1.b e))⟩
  · have := q1.a; dsimp only [rdec]; omega
  · dsimp only [rdec]; omega
  · have := w1.ok.d1; dsimp only [rdec]; omega
  · dsimp only [rdec]; omega
  · rw [jb_eq]; simp only [JV.n, JV.s, JV.l, JV.m, mb, and_true]
    exact ⟨Nat.zero_le _, Nat.zero_le _, by omega, Nat.zero_le _, q3⟩
  · simp only [jsize, msize, rdec]; omega
omit hs in
theorem rkey_ok {m : List (ByteArray × JV)} {r : RS} (h : ROK s r) : RTo s r (rkey s m r).2 ∧ (rkey s m r).2.deep = r.deep ∧ (rkey s m r).1.size + r.a ≤ (rkey s m r).2.a ∧ Utf (rkey s m r).1 ∧ ((rkey s m r).2.bad = 0 → ∀ q ∈ m, ¬ q.1 = (rkey s m r).1) := by
  have b1 := rblank_to h
  obtain ⟨t1, t2, t3, t4⟩ := rtext_to b1.ok
  have hb1 := b1.a
  unfold rkey rk2
  by_cases hf : (jfind (mkO m) (rtext s (rblank s r)).1).isSome = true
  · simp only [if_pos hf]
    have f1 := rfail_to (a := (rblank s r).a) (b := 4) t1.ok (by decide)
    have b2 := rblank_to f1.ok
    obtain ⟨w1, w2⟩ := rwant_to (lit := rb3) b2.ok
    refine ⟨b1.trans (t1.trans (f1.trans (b2.trans w1))), w2.trans t2, ?_, t3, fun e => absurd (b2.b (w1.b e)) (rfail_bad (by decide))⟩
    have := w1.a; have := b2.a; have := f1.a; omega
  · simp only [if_neg hf]
    have b2 := rblank_to t1.ok
    obtain ⟨w1, w2⟩ := rwant_to (lit := rb3) b2.ok
    refine ⟨b1.trans (t1.trans (b2.trans w1)), w2.trans t2, ?_, t3, fun _ => jfind_none (by simpa using hf)⟩
    have := w1.a; have := b2.a; omega
omit hs hrv in
theorem rk2_ok {m : List (ByteArray × JV)} {r : RS} (h : ROK s r) : RTo s r (rk2 s m r) ∧ (rk2 s m r).deep = r.deep := by
  have b1 := rblank_to h
  obtain ⟨t1, t2, t3, t4⟩ := rtext_to b1.ok
  unfold rk2
  split
  · exact ⟨b1.trans (t1.trans (rfail_to t1.ok (by decide))), t2⟩
  · exact ⟨b1.trans t1, t2⟩
include hs
theorem robjF_ok : ∀ (k : Nat) (m : List (ByteArray × JV)) (r : RS), ROK s r → mb m → (r.bad = 0 → MOK m) →
    RTo s r (robjF rv s k m r).2 ∧ (robjF rv s k m r).2.deep = r.deep ∧ mb (robjF rv s k m r).1 ∧ msize (robjF rv s k m r).1 ≤ msize m + ((robjF rv s k m r).2.a : Int) - r.a + 1 ∧ ((robjF rv s k m r).2.bad = 0 → MOK (robjF rv s k m r).1) := by
  intro k
  induction k with
  | zero => intro m r h h1 h2; exact ⟨.refl h, rfl, h1, by dsimp only [robjF]; omega, h2⟩
  | succ k ih =>
    intro m r h h1 h2
    rw [robjF]
    obtain ⟨k1, k2, k3, k4, k5⟩ := rkey_ok hrv (m := m) h
    have hv := hrv _ k1.ok
    have hk1 := k1.a; have hk6 := k1.ok.a
    have hins : (rv (rkey s m r).2).2.bad = 0 → MOK (rins m (rkey s m r).1 (rv (rkey s m r).2).1) := fun e => (h2 (k1.b (hv.fwd.b e))).ins k4 (hv.may e) (k5 (hv.fwd.b e))
    split
    · split
      · rename_i hp
        have hi := rinc_to hv.fwd.ok (by omega)
        obtain ⟨q1, q2, q3, q4, q5⟩ := ih (rins m (rkey s m r).1 (rv (rkey s m r).2).1) (rinc (rv (rkey s m r).2).2) hi.ok (mb_ins h1 (by omega) hv.jb) hins
        refine ⟨k1.trans (hv.fwd.trans (hi.trans q1)), q2.trans (hv.deep.trans k2), q3, ?_, q5⟩
        rw [msize_ins] at q4
        have := hv.size
        have h5 : (rinc (rv (rkey s m r).2).2).a = (rv (rkey s m r).2).2.a + 1 := rfl
        omega
      · refine ⟨k1.trans hv.fwd, hv.deep.trans k2, mb_ins h1 (by omega) hv.jb, ?_, hins⟩
        rw [msize_ins]; have := hv.size; dsimp only; omega
    · exact ⟨.refl h, rfl, h1, by dsimp only; omega, h2⟩
theorem robj_ok {r : RS} (h : ROK s r) (hb : r.bad = 0) (ha : r.a < s.size) : VR s r (robj rv s r) := by
  obtain ⟨o1, o2, o3⟩ := ropen_to h hb ha
  obtain ⟨q1, q2, q3, q4, q5⟩ := robjF_ok hs hrv (s.size + 2) [] (ropen s r) o1.ok trivial (fun _ => ⟨fun q hq => by simp at hq, List.Pairwise.nil⟩)
  obtain ⟨w1, w2⟩ := rwant_to (lit := rb2) q1.ok
  unfold robj
  have hll := mlen_le (robjF rv s (s.size + 2) [] (ropen s r)).1
  have e0l : msize [] = 0 := rfl
  have ha1 := w1.ok.a; have ha2 := w1.a
  have hd := h.d0; have hd1 := h.d1
  refine ⟨⟨?_, ⟨ha1, w1.ok.b, ?_, ?_⟩, fun e => o1.b (q1.b (w1.b e))⟩, ?_, ?_, ?_, fun e => may_m (q5 (w1.b e))⟩
  · have := q1.a; dsimp only [rdec]; omega
  · dsimp only [rdec]; omega
  · have := w1.ok.d1; dsimp only [rdec]; omega
  · dsimp only [rdec]; omega
  · rw [jb_eq]; simp only [mkO, JV.n, JV.s, JV.l, JV.m, lb, true_and]
    exact ⟨Nat.zero_le _, Nat.zero_le _, Nat.zero_le _, by omega, q3⟩
  · simp only [mkO, jsize, lsize, rdec]; omega
theorem rnumv_ok {r : RS} (h : ROK s r) (hb : r.bad = 0) (ha : r.a < s.size) : VR s r (rnumv s r) := by
  have he := rEnd_le (s := s) (a := r.a) (by omega)
  have hm := rNum_may (s.extract r.a (rEnd s r.a).1)
  have h3 := h.d1; have h0 := h.d0
  unfold rnumv
  refine ⟨⟨he.1, ⟨by dsimp only; omega, fun _ => he.2, h0, by dsimp only; omega⟩, fun _ => hb⟩, rfl, ?_, ?_, fun _ => may_n hm⟩
  · exact jb_nil _ _ _ _ (by have := hm.size; omega) (Nat.zero_le _)
  · simp only [jsize_nil]; omega
theorem rone_ok {r : RS} (h : ROK s r) : VR s r (rone rv s r) := by
  have hz : ∀ {r' : RS} {v : JV}, RTo s r r' → r'.deep = r.deep → jsize v = 1 → jb v → jmay v → VR s r (v, r') := fun h1 h2 h3 h4 h5 => ⟨h1, h2, h4, by have := h1.a; dsimp only; omega, fun _ => h5⟩
  have h0 : jb vz := jb_nil _ _ _ _ (Nat.zero_le _) (Nat.zero_le _)
  unfold rone
  split
  · rename_i hp; have := pk_yes (s := s) (a := r.a) (bad := r.bad) (by omega); exact robj_ok hs hrv h this.1 this.2.1
  split
  · rename_i hp; have := pk_yes (s := s) (a := r.a) (bad := r.bad) (by omega); exact rarr_ok hs hrv h this.1 this.2.1
  split
  · obtain ⟨t1, t2, t3, t4⟩ := rtext_to h
    exact hz t1 t2 (jsize_nil _ _ _ _) (jb_nil _ _ _ _ (Nat.zero_le _) (by have := t1.ok.a; omega)) (may_s t3)
  split
  · exact hz (rwant_to h).1 (rwant_to h).2 (jsize_nil _ _ _ _) h0 vz_may
  split
  · exact hz (rwant_to h).1 (rwant_to h).2 (jsize_nil _ _ _ _) (jb_nil _ _ _ _ (Nat.zero_le _) (Nat.zero_le _)) (may_b true)
  split
  · exact hz (rwant_to h).1 (rwant_to h).2 (jsize_nil _ _ _ _) (jb_nil _ _ _ _ (Nat.zero_le _) (Nat.zero_le _)) (may_b false)
  split
  · rename_i hp; have := pk_yes (s := s) (a := r.a) (bad := r.bad) (by omega); exact rnumv_ok hs hrv h this.1 this.2.1
  · exact hz (rfail_to h (by decide)) rfl (jsize_nil _ _ _ _) h0 vz_may
end
theorem rval_ok {s : ByteArray} (hs : s.size ≤ 100000) : ∀ (n : Nat) (r : RS), ROK s r → VR s r (rval n s r) := by
  intro n
  induction n with
  | zero => intro r h; exact ⟨.refl h, rfl, jb_nil _ _ _ _ (Nat.zero_le _) (Nat.zero_le _), by simp only [rval, vz, jsize_nil]; omega, fun _ => vz_may⟩
  | succ n ih =>
    intro r h
    have b1 := rblank_to h
    have hv := rone_ok hs ih b1.ok
    have b2 := rblank_to hv.fwd.ok
    rw [rval]
    exact ⟨b1.trans (hv.fwd.trans b2), hv.deep, hv.jb, by have := hv.size; have := b1.a; have := b2.a; dsimp only; omega, fun e => hv.may (b2.b e)⟩
theorem rParse_ok (s : ByteArray) (h : (rParse s).2.1 = 0) : jmay (rParse s).1 ∧ jb (rParse s).1 ∧ jsize (rParse s).1 ≤ s.size + 2 ∧ s.size ≤ 20000 := by
  unfold rParse at h ⊢
  split at h
  · cases h
  · rename_i hs
    split at h
    · rename_i hb
      rw [if_neg hs, if_pos hb]
      have h0 : ROK s ⟨0, 0, 0, 0⟩ := ⟨Nat.zero_le _, fun _ => Nat.zero_le _, Int.le_refl _, Int.le_refl _⟩
      have hv : VR s ⟨0, 0, 0, 0⟩ (rpar s) := rval_ok (by omega) (s.size + 2) ⟨0, 0, 0, 0⟩ h0
      have hb2 : (rpar s).2.bad = 0 := by
        unfold rparE at hb
        split at hb
        · exact absurd hb (rfail_bad (by decide))
        · exact hb
      exact ⟨hv.may hb2, hv.jb, by have := hv.size; have := hv.fwd.ok.a; dsimp only at *; omega, by omega⟩
    · rename_i hb; exact absurd h hb
noncomputable def rValue (s : ByteArray) : JV × Int := if 2000 < s.size then (vz, 0) else if (rParse s).2.1 = 0 then ((rParse s).1, 1) else (vz, 0)
theorem rValue_ok (s : ByteArray) : (rValue s).2 = 0 ∧ (rValue s).1 = vz ∨ (rValue s).2 = 1 ∧ jmay (rValue s).1 ∧ jb (rValue s).1 ∧ jsize (rValue s).1 ≤ 2002 := by
  unfold rValue
  split
  · exact .inl ⟨rfl, rfl⟩
  split
  · rename_i h1 h2
    have := rParse_ok s h2
    exact .inr ⟨rfl, this.1, this.2.1, by have := this.2.2.1; dsimp only; omega⟩
  · exact .inl ⟨rfl, rfl⟩
end Lg
namespace Lg
open Go
variable [GLay]
def mrow (q : ByteArray × JV) : List AV := .str q.1 :: vcells q.2
theorem mcells_map (m : List (ByteArray × JV)) : mcells m = m.map mrow := mcells_eq m
theorem mrow_len (q : ByteArray × JV) : (mrow q).length = 9 := by simp [mrow, vlen]
theorem mrows_len (m : List (ByteArray × JV)) : ∀ r ∈ mcells m, r.length = 9 := fun r hr => by
  rw [mcells_map] at hr
  obtain ⟨v, _, rfl⟩ := List.mem_map.1 hr
  exact mrow_len v
theorem mflat_len (m : List (ByteArray × JV)) : (mcells m).flatten.length = m.length * 9 := by
  induction m with
  | nil => simp [mcells]
  | cons a m ih => obtain ⟨k, v⟩ := a; simp only [mcells, List.flatten_cons, List.length_append, ih, List.length_cons, vlen]; omega
theorem vones (v : JV) : ones (vcells v) = true := by rw [vcells_eq]; rfl
theorem mones (m : List (ByteArray × JV)) : ones (mcells m).flatten = true := by
  induction m with
  | nil => simp [mcells, ones]
  | cons a m ih =>
    obtain ⟨k, v⟩ := a
    simp only [mcells, List.flatten_cons, ones_append, ih, Bool.and_true, ones, vones]; rfl
theorem mflat_lt (n : Nat) (m : List (ByteArray × JV)) : AV.ltL n (mcells m).flatten := by
  induction m with
  | nil => simp [mcells, AV.ltL]
  | cons a m ih => obtain ⟨k, v⟩ := a; simp only [mcells, List.flatten_cons, ltL_append, AV.ltL, AV.lt, true_and]; exact ⟨vcells_lt n v, ih⟩
theorem mslice_lo' (m : List (ByteArray × JV)) (j : Nat) : ((mcells m).drop j).take ((mcells m).length - j) = mcells (m.drop j) := by
  rw [List.take_of_length_le (by simp), mcells_map, mcells_map, List.map_drop]
theorem mslice_hi (m : List (ByteArray × JV)) (j : Nat) : ((mcells m).drop (0 : Int).toNat).take (j - (0 : Int).toNat) = mcells (m.take j) := by
  show ((mcells m).drop 0).take (j - 0) = _
  rw [List.drop_zero, Nat.sub_zero, mcells_map, mcells_map, List.map_take]
theorem mflat_ins (m : List (ByteArray × JV)) (key : ByteArray) (v : JV) : (mcells (rins m key v)).flatten = (mcells (m.take (rinsK m key))).flatten ++ (mrow (key, v) ++ (mcells (m.drop (rinsK m key))).flatten) := by
  unfold rins
  rw [mcells_map, mcells_map, mcells_map]; simp
theorem rinsK_le (m : List (ByteArray × JV)) (key : ByteArray) : rinsK m key ≤ m.length := by
  unfold rinsK
  exact (List.takeWhile_sublist _).length_le
theorem rins_len (m : List (ByteArray × JV)) (key : ByteArray) (v : JV) : (rins m key v).length = m.length + 1 := by
  have := rinsK_le m key
  unfold rins; simp; omega
theorem rinsK_yes {m : List (ByteArray × JV)} {key : ByteArray} {j : Nat} {q : ByteArray × JV} (hq : m[j]? = some q) (h : blt q.1 key = true) : rinsK (m.drop j) key = 1 + rinsK (m.drop (j + 1)) key := by
  obtain ⟨hj, rfl⟩ := List.getElem?_eq_some_iff.1 hq
  rw [List.drop_eq_getElem_cons hj]
  unfold rinsK
  simp only [List.takeWhile_cons, h, if_true, List.length_cons]; omega
theorem rinsK_no {m : List (ByteArray × JV)} {key : ByteArray} {j : Nat} {q : ByteArray × JV} (hq : m[j]? = some q) (h : blt q.1 key = false) : rinsK (m.drop j) key = 0 := by
  obtain ⟨hj, rfl⟩ := List.getElem?_eq_some_iff.1 hq
  rw [List.drop_eq_getElem_cons hj]
  unfold rinsK
  simp only [List.takeWhile_cons, h, Bool.false_eq_true, if_false, List.length_nil]
theorem rinsK_end {m : List (ByteArray × JV)} {key : ByteArray} {j : Nat} (h : m.length ≤ j) : rinsK (m.drop j) key = 0 := by
  rw [List.drop_eq_nil_of_le h]; rfl
end Lg
namespace Lg
open Go
def rnumvC (s : ByteArray) (r : RS) : JV × RS :=
  (.mk 2 false (pNum (s.extract r.a (rEnd s r.a).1).data.toList).1 e0 [] [],
   ⟨(rEnd s r.a).1, r.deep, (if (pNum (s.extract r.a (rEnd s r.a).1).data.toList).2 = 0 then (if (rEnd s r.a).2 = true then r else rfail r (rEnd s r.a).1 1) else rfail (if (rEnd s r.a).2 = true then r else rfail r (rEnd s r.a).1 1) r.a 5).bad,
    (if (pNum (s.extract r.a (rEnd s r.a).1).data.toList).2 = 0 then (if (rEnd s r.a).2 = true then r else rfail r (rEnd s r.a).1 1) else rfail (if (rEnd s r.a).2 = true then r else rfail r (rEnd s r.a).1 1) r.a 5).spot⟩)
theorem rnumv_C {s : ByteArray} (hs : s.size ≤ 1000) (r : RS) : rnumv s r = rnumvC s r := by
  unfold rnumv rnumvC
  rw [rNum_pNum _ (by rw [ByteArray.size_extract]; omega)]
def roneC (rv : RS → JV × RS) (s : ByteArray) (r : RS) : JV × RS :=
  if pkv s r.a r.bad = 123 then robj rv s r else
  if pkv s r.a r.bad = 91 then rarr rv s r else
  if pkv s r.a r.bad = 34 then (.mk 3 false {} (rtext s r).1 [] [], (rtext s r).2) else
  if pkv s r.a r.bad = 110 then (vz, rwant s lNull r) else
  if pkv s r.a r.bad = 116 then (.mk 1 true {} e0 [] [], rwant s lTrue r) else
  if pkv s r.a r.bad = 102 then (.mk 1 false {} e0 [] [], rwant s lFalse r) else
  if pkv s r.a r.bad = 45 ∨ (48 ≤ pkv s r.a r.bad ∧ pkv s r.a r.bad ≤ 57) then rnumvC s r else (vz, rfail r r.a 1)
def rvalC : Nat → ByteArray → RS → JV × RS
  | 0, s, r => (vz, r)
  | n + 1, s, r => ((roneC (rvalC n s) s (rblank s r)).1, rblank s (roneC (rvalC n s) s (rblank s r)).2)
theorem rval_C {s : ByteArray} (hs : s.size ≤ 1000) : ∀ n, rval n s = rvalC n s
  | 0 => rfl
  | n + 1 => by
    funext r
    have ih := rval_C hs n
    unfold rval rvalC
    rw [ih]
    have e : ∀ r, rone (rvalC n s) s r = roneC (rvalC n s) s r := fun r => by unfold rone roneC; rw [rnumv_C hs]
    rw [e]
def rparC (s : ByteArray) : JV × RS := rvalC (s.size + 2) s ⟨0, 0, 0, 0⟩
def rparEC (s : ByteArray) : RS := if (rparC s).2.bad = 0 ∧ (rparC s).2.a < s.size then rfail (rparC s).2 (rparC s).2.a 1 else (rparC s).2
def rParseC (s : ByteArray) : JV × Int × Int :=
  if 20000 < s.size then (vz, 5, 20000) else if (rparEC s).bad = 0 then ((rparC s).1, 0, 0) else (vz, (rparEC s).bad, (rparEC s).spot)
theorem rParse_C {s : ByteArray} (hs : s.size ≤ 1000) : rParse s = rParseC s := by
  have e : rpar s = rparC s := by unfold rpar rparC; rw [rval_C hs]
  unfold rParse rParseC rparE rparEC; rw [e]
end Lg
namespace Lg
open Go
theorem ljw_ne {l : List JV} {i : Nat} (c : UInt8) (h : i < l.length) (h0 : i ≠ 0) : ljw c (l.take i) ≠ [] := by
  cases l with
  | nil => simp at h
  | cons a r => obtain ⟨i, rfl⟩ : ∃ j, i = j + 1 := ⟨i - 1, by omega⟩; simp [ljw]
theorem mjw_ne {l : List (ByteArray × JV)} {i : Nat} (c : UInt8) (h : i < l.length) (h0 : i ≠ 0) : mjw c (l.take i) ≠ [] := by
  cases l with
  | nil => simp at h
  | cons a r => obtain ⟨i, rfl⟩ : ∃ j, i = j + 1 := ⟨i - 1, by omega⟩; obtain ⟨k, y⟩ := a; simp [mjw]
theorem tail_app {a b : BL} (h : a ≠ []) : (a ++ b).tail = a.tail ++ b := by cases a with
  | nil => exact absurd rfl h
  | cons => rfl
theorem ljw_tail {l : List JV} {i : Nat} {x : JV} (h : l[i]? = some x) : (ljw 44 (l.take (i + 1))).tail = (if i = 0 then [] else (ljw 44 (l.take i)).tail ++ [44]) ++ jtx x := by
  have hi := (List.getElem?_eq_some_iff.1 h).1
  rw [ljw_take 44 h]
  split
  · rename_i h0; subst h0; simp [ljw]
  · rename_i h0; rw [tail_app (ljw_ne 44 hi h0)]; simp
theorem mjw_tail {l : List (ByteArray × JV)} {i : Nat} {x : ByteArray × JV} (h : l[i]? = some x) : (mjw 44 (l.take (i + 1))).tail = (if i = 0 then [] else (mjw 44 (l.take i)).tail ++ [44]) ++ (quoteL x.1.data.toList ++ 58 :: jtx x.2) := by
  have hi := (List.getElem?_eq_some_iff.1 h).1
  rw [mjw_take 44 h]
  split
  · rename_i h0; subst h0; simp [mjw]
  · rename_i h0; rw [tail_app (mjw_ne 44 hi h0)]; simp
theorem jtx_4 {v : JV} (h : v.kind = 4) : jtx v = 91 :: ((ljw 44 v.l).tail ++ [93]) := by
  rw [jtx_eq, if_neg (by omega), if_neg (by omega), if_neg (by omega), if_pos h, ljw_head]
  split
  · rename_i h0; rw [List.length_eq_zero_iff.1 h0]; rfl
  · rfl
theorem jtx_5 {v : JV} (h : v.kind = 5) : jtx v = 123 :: ((mjw 44 v.m).tail ++ [125]) := by
  rw [jtx_eq, if_neg (by omega), if_neg (by omega), if_neg (by omega), if_neg (by omega), if_pos h, mjw_head]
  split
  · rename_i h0; rw [List.length_eq_zero_iff.1 h0]; rfl
  · rfl
theorem vz_jb : jb vz ∧ jkb vz := by
  constructor
  · exact ⟨Nat.zero_le _, Nat.zero_le _, Nat.zero_le _, Nat.zero_le _, trivial, trivial⟩
  · exact ⟨by decide, by decide, ⟨by decide, by decide⟩, trivial, trivial⟩
end Lg
namespace Lg
open Go Go.RowKit
variable [GLay]
variable {P : Program} {σ l : List AO} {e : Env} {o : Oper} {p : Nat} {x : AO}
theorem ba_eqq (a b : ByteArray) : (a == b) = decide (a = b) := by
  obtain ⟨a⟩ := a
  obtain ⟨b⟩ := b
  show (a == b) = _
  by_cases h : a = b
  · subst h; simp
  · have : ¬ (ByteArray.mk a = ByteArray.mk b) := fun e => h (by injection e)
    simp [h, this]
instance : LawfulBEq ByteArray where
  eq_of_beq {a b} h := by rw [ba_eqq] at h; exact of_decide_eq_true h
  rfl {a} := by rw [ba_eqq]; exact decide_eq_true rfl
section
variable {T K E : TypeId} {a b c : Operand} {m : List (ByteArray × AV)} {k : ByteArray} {z : Value}
end
end Lg
namespace Lg
open Go
theorem ltLL_str (m : Nat) (l : List ByteArray) : AV.ltLL m (l.map fun x => [AV.str x]) := by
  induction l with
  | nil => simp [AV.ltLL]
  | cons x l ih => simp [AV.ltLL, AV.ltL, AV.lt]; simpa using ih
end Lg
namespace Lg
open Go Go.RowKit
section
variable [GLay]
variable {P : Program} {N : Nat} {σ l : List AO} {e : Env} {Q : QA} {o : Oper}
theorem AWp_slotLe {c : Code} (t : Nat) {v w : AV} (hl : lookO e.l t = some v) (hle : AVle v w) (k : AWp P N c (e.put (some t) w) σ Q) (ht : t < N) : AWp P N c e σ Q := fun s0 s a hs g x he => by
  subst hs
  have hv := he.tmps t
  rw [show e.look t = v from lookO_eq hl] at hv
  exact k s0 s a rfl g x (by
    have h1 := he.put (some t) (hle _ _ hv) (fun d hd => by cases hd; exact ht)
    have h2 : a.put (some t) (a.eval (.tmp t)) = a := put_self (by rw [he.size]; exact ht)
    rwa [h2] at h1)
theorem AWp_ghostT {c : Code} (t sz : Nat) (hl : lookO e.l t = some .nils) (k : AWp P N c (e.put (some t) (.arr σ.length 0 sz 0 0)) (σ ++ [AO.arr sz 0 []]) Q) (ht : t < N) : AWp P N c e σ Q := fun s0 s a hs g x he => by
  subst hs
  obtain ⟨s1, e1, e2, g1, x1⟩ := g.ghost sz
  have hv := (he.mono g x1).tmps t
  rw [show e.look t = .nils from lookO_eq hl] at hv
  have hv0 := hv.inv_nils
  have hv' : V s1 (.arr s.σ.length 0 sz 0 0) (a.eval (.tmp t)) := by
    rw [hv0]; exact .arr _ _ _ _ _ _ rfl (.mk (cs := []) (by rw [e1]; simp) ⟨rfl, .inl ⟨none, rfl, rfl⟩⟩)
  have := k s0 s1 a e1 g1 (x.trans x1) (by
    have h1 := (he.mono g x1).put (some t) hv' (fun d hd => by cases hd; exact ht)
    have h2 : a.put (some t) (a.eval (.tmp t)) = a := put_self (by rw [he.size]; exact ht)
    rwa [h2] at h1)
  rwa [e2] at this
theorem AWp_ghostTO {c : Code} (t sz n : Nat) (hn : l.length = n) (hl : lookO e.l t = some .nils) (k : AWp P N c (e.put (some t) (.arr (σ.length + n) 0 sz 0 0)) (σ ++ (l ++ [AO.arr sz 0 []])) Q) (ht : t < N) : AWp P N c e (σ ++ l) Q :=
  AWp_ghostT t sz hl (by rw [List.length_append, hn, List.append_assoc]; exact k) ht
theorem op_eqSlR {T T' E : TypeId} {x : Operand} {f : Bool} {sz : Nat} {es : List (List AV)} (ho : o.op = .binOp .eql T x (.const (.slice none 0 0)) T') (hu : P.underlying T = some (.slice E)) (hx : opO e x = some (.sl f sz es)) :
    AOpR P σ e o (fun v σ' => σ' = σ ∧ ∃ b, v = .bool b ∧ (b = true → es = [])) (fun _ _ => False) := fun s a hs g hv K Q hk hq => by
  have h1 := opO_eq hx ▸ hv x (by simp [ho, Op.operands])
  obtain ⟨ad, len, cap, hc, hn⟩ : ∃ ad len cap, a.eval x = .slice ad len cap ∧ (ad = none → es = []) := by
    rcases h1.inv_sl with ⟨ad, h, he⟩ | ⟨b, off, cap, vs, h, _⟩
    · exact ⟨ad, 0, 0, h, fun _ => he⟩
    · exact ⟨_, _, _, h, fun h => by cases h⟩
  have he : ∀ d, (Go.Op.equalIn (d + 1) T (.slice ad len cap) (.slice none 0 0)).run P s.w = .ok ad.isNone s.w := fun d => by cases ad <;> simp [Go.Op.equalIn, run_underlying hu]
  have he' : (Go.Op.equal T (.slice ad len cap) (.slice none 0 0)).run P s.w = .ok ad.isNone s.w := he 9999
  have hb : (binOp .eql T (.slice ad len cap) (.slice none 0 0)).run P s.w = .ok (.bool ad.isNone) s.w := by
    simp only [binOp]; simp [he']
  have hg : (eqGuard .eql T x (.const (.slice none 0 0)) (.slice ad len cap) (.slice none 0 0)).run P s.w = .ok () s.w := by
    simp [eqGuard]
  have hrun : (execOp a.eval o).run P s.w = .ok (.value (.bool ad.isNone)) s.w := by
    have hc2 : a.eval (.const (.slice none 0 0)) = .slice none 0 0 := rfl
    simp [execOp, ho, hc, hc2, hb, hg]
  exact wp_value hrun (hk (.bool ad.isNone) _ s ⟨hs, _, rfl, fun h => hn (by simpa using h)⟩ g (Ext.refl s) (.bool _))
end
end Lg
namespace Lg
open Go Go.RowKit
section
variable [GLay] {P : Program} {N : Nat} {σ l : List AO} {e : Env} {Q : QA} {o : Oper}
theorem op_indexAddrA {T E : TypeId} {x y : Operand} {sz p gg len : Nat} {k : IntKind} {n : Int} {cs : List AV} (ho : o.op = .indexAddr T x y) (hu : P.underlying T = some (.slice E))
    (hsz : ∀ w, (Go.sizeOf E).run P w = Result.ok sz w) (hx : opO e x = some (.arr p gg sz 0 len)) (hy : opO e y = some (.int k n)) (h0 : 0 ≤ n) (hlt : n < len) (hσ : σ[p]? = some (.arr sz gg cs)) : AOp P σ e o (.pel p gg (n.toNat * sz)) σ :=
  .of_run fun s a hs g hv => by
    subst hs
    have h1 := opO_eq hx ▸ hv x (by simp [ho, Op.operands])
    have h2 := (opO_eq hy ▸ hv y (by simp [ho, Op.operands])).inv_int
    rcases h1.inv_arr hσ with ⟨_, ⟨ad, h3, h4⟩ | ⟨cap, h3, h4, h5⟩⟩
    · omega
    · refine ⟨_, by simp only [execOp, ho, h3, h2, Sem.run_bind]; rw [run_indexAt_slice (cap := cap) hu hsz h0 hlt]; rfl, ?_⟩
      refine .pel _ _ _ _ rfl ?_
      unfold ArrAt
      rw [hσ]
      exact ⟨Nat.le_refl _, fun _ => by simp⟩
theorem op_indexAddrAO {T E : TypeId} {x y : Operand} {sz j gg len : Nat} {k : IntKind} {n : Int} {cs : List AV} (ho : o.op = .indexAddr T x y) (hu : P.underlying T = some (.slice E))
    (hsz : ∀ w, (Go.sizeOf E).run P w = Result.ok sz w) (hx : opO e x = some (.arr (σ.length + j) gg sz 0 len)) (hy : opO e y = some (.int k n)) (h0 : 0 ≤ n) (hlt : n < len) (hl : l[j]? = some (.arr sz gg cs)) : AOp P (σ ++ l) e o (.pel (σ.length + j) gg (n.toNat * sz)) (σ ++ l) :=
  op_indexAddrA ho hu hsz hx hy h0 hlt (by rw [get_own]; exact hl)
theorem AWp_freezeAO {c : Code} (t k gg sz n : Nat) (es : List (List AV)) (hl : lookO e.l t = some (.arr (σ.length + k) gg sz 0 n)) (hk : l[k]? = some (.arr sz gg es.flatten)) (hel : ∀ r ∈ es, r.length = sz) (hn : es.length = n) (hsz : sz ≠ 0) (h : AWp P N c (e.put (some t) (.sl false sz es)) (σ ++ l.set k .dead) Q) (ht : t < N) : AWp P N c e (σ ++ l) Q := by
  have hf : es.flatten.length = n * sz := by rw [flatten_len hel, hn]
  exact AWp_freezeArr t (σ.length + k) gg sz 0 n hl (by rw [get_own]; exact hk) es (by rw [Nat.zero_mul, List.drop_zero, ← hf, List.take_length]) hel hn hsz (by rw [hf, Nat.zero_add]; exact Nat.le_refl _) (by rw [set_own]; exact h) ht
end
def srow (l : List BL) : List (List AV) := l.map fun x => [AV.str (ba x)]
theorem srow_len (l : List BL) : (srow l).length = l.length := by simp [srow]
theorem srow_get {l : List BL} {i : Nat} {x : BL} (h : l[i]? = some x) : (srow l)[i]? = some [AV.str (ba x)] := by simp [srow, h]
theorem srow_el (l : List BL) : ∀ r ∈ srow l, r.length = 1 := by
  intro r hr; simp [srow] at hr; obtain ⟨x, _, rfl⟩ := hr; rfl
theorem srow_flat (l : List BL) : (srow l).flatten = l.map fun x => AV.str (ba x) := by
  induction l with
  | nil => rfl
  | cons a r ih => show [AV.str (ba a)] ++ (srow r).flatten = _; rw [ih]; rfl
@[simp] theorem srow_lt (m : Nat) (l : List BL) : AV.ltLL m (srow l) := by
  induction l with
  | nil => simp [srow, AV.ltLL]
  | cons a r ih => simpa [srow, AV.ltLL, AV.ltL, AV.lt] using ih
@[simp] theorem smap_lt (m : Nat) (l : List BL) : AV.ltL m (l.map fun x => AV.str (ba x)) := by
  induction l with
  | nil => simp [AV.ltL]
  | cons a r ih => simpa [AV.ltL, AV.lt] using ih
def tbad (s : BL) (i : Nat) : Bool := decide (s[i]? = some 126) && !(decide (s[i + 1]? = some 48) || decide (s[i + 1]? = some 49))
def pE (s : BL) : Option Nat := if s = [] then none else if ¬ s[0]? = some 47 then some 0 else (List.range s.length).find? (tbad s)
def pN (s : BL) : List BL := if s = [] then [] else if (pE s).isSome then [] else (pcs 47 (s.drop 1)).map pune
theorem tbad_no {s : BL} (h : ∀ i, i < s.length → tbad s i = false) : okP s := fun i hi => by
  have := h i (List.getElem?_eq_some_iff.1 hi).1
  unfold tbad at this
  rw [decide_eq_true hi, Bool.true_and] at this
  by_cases h2 : s[i + 1]? = some 48
  · exact .inl h2
  · simp [h2] at this; exact .inr this
theorem pE_none {s : BL} (h0 : ¬ s = []) (h1 : s[0]? = some 47) (h : ∀ i, i < s.length → tbad s i = false) : pE s = none := by
  unfold pE; rw [if_neg h0, if_neg (by simp [h1])]
  exact List.find?_eq_none.2 fun i hi => by simp [h i (List.mem_range.1 hi)]
theorem pE_at {s : BL} (h0 : ¬ s = []) (h1 : s[0]? = some 47) {i : Nat} (hi : i < s.length) (h : tbad s i = true) (hb : ∀ j, j < i → tbad s j = false) : pE s = some i := by
  unfold pE; rw [if_neg h0, if_neg (by simp [h1])]
  exact List.find?_range_eq_some.2 ⟨h, List.mem_range.2 hi, fun j hj => by simp [hb j hj]⟩
theorem pE_ok {s : BL} (h0 : ¬ s = []) (h : pE s = none) : s[0]? = some 47 ∧ okP s := by
  unfold pE at h; rw [if_neg h0] at h
  split at h
  · cases h
  · rename_i h1
    refine ⟨by simpa using h1, tbad_no fun i hi => ?_⟩
    have := List.find?_eq_none.1 h i (List.mem_range.2 hi)
    simpa using this
end Lg
namespace Lg
open Go
theorem get_is {s : BL} {i : Nat} {c : UInt8} (hi : i < s.length) : s[i]? = some c ↔ ((bat (ba s) i).toNat : Int) = c.toNat := by
  rw [bat_ba, List.getElem?_eq_getElem hi, List.getD_eq_getElem?_getD, List.getElem?_eq_getElem hi]
  simp only [Option.getD_some, Option.some.injEq]
  constructor
  · intro h; rw [h]
  · intro h; exact UInt8.toNat_inj.1 (by omega)
theorem g126 {s : BL} {i : Nat} (hi : i < s.length) : s[i]? = some 126 ↔ ((bat (ba s) i).toNat : Int) = 126 := get_is (c := 126) hi
theorem g48 {s : BL} {i : Nat} (hi : i < s.length) : s[i]? = some 48 ↔ ((bat (ba s) i).toNat : Int) = 48 := get_is (c := 48) hi
theorem g49 {s : BL} {i : Nat} (hi : i < s.length) : s[i]? = some 49 ↔ ((bat (ba s) i).toNat : Int) = 49 := get_is (c := 49) hi
theorem g47 {s : BL} {i : Nat} (hi : i < s.length) : s[i]? = some 47 ↔ ((bat (ba s) i).toNat : Int) = 47 := get_is (c := 47) hi
theorem tbad_t {s : BL} {i : Nat} (hi : i < s.length) (h : ((bat (ba s) i).toNat : Int) = 126) (h2 : i + 1 = s.length ∨ (¬ ((bat (ba s) (i + 1)).toNat : Int) = 48 ∧ ¬ ((bat (ba s) (i + 1)).toNat : Int) = 49)) : tbad s i = true := by
  unfold tbad
  rw [decide_eq_true ((g126 hi).2 h), Bool.true_and]
  by_cases hl : i + 1 < s.length
  · obtain ⟨h3, h4⟩ := h2.resolve_left (by omega)
    rw [decide_eq_false (fun e => h3 ((g48 hl).1 e)), decide_eq_false (fun e => h4 ((g49 hl).1 e))]; rfl
  · rw [List.getElem?_eq_none (by omega)]; rfl
end Lg
namespace Lg
open Go Go.RowKit
variable [GLay] {P : Program} {N : Nat} {σ l : List AO} {e : Env} {Q : QA} {o : Oper}
theorem spl_set (v : AV) : ∀ (i : Nat) (cs : List AV), i < cs.length → spl i cs [v] = some (cs.set i v)
  | 0, [], h => by simp at h
  | 0, c :: cs, _ => by simp [spl, putAt]
  | i + 1, [], h => by simp at h
  | i + 1, c :: cs, h => by simp [spl, spl_set v i cs (by simpa using h)]
theorem ldv_el {j g sz off i : Nat} {cs : List AV} {v : AV} (hl : l[j]? = some (.arr sz g cs)) (hv : cs[i]? = some v) (ho : off = i) : ldv (σ ++ l) 1 (.pel (σ.length + j) g off) = some [v] := by
  subst ho
  simp only [ldv, get_own, hl, if_true]
  have hi := (List.getElem?_eq_some_iff.1 hv).1
  rw [List.drop_eq_getElem_cons hi, (List.getElem?_eq_some_iff.1 hv).2]
  rfl
theorem op_storeEl {T : TypeId} {x y : Operand} {j g sz off i : Nat} {cs : List AV} {b : ByteArray} (ho : o.op = .store T x y) (hz : ∀ w, (Go.sizeOf T).run P w = Result.ok 1 w) (hy : opO e y = some (.str b)) (hx : opO e x = some (.pel (σ.length + j) g off)) (hoff : off = i)
    (hl : l[j]? = some (.arr sz g cs)) (hi : i < cs.length) : AOp P (σ ++ l) e o .any (σ ++ l.set j (.arr sz g (cs.set i (.str b)))) := by
  subst hoff
  have e1 := opO_eq hy
  have := op_store (P := P) (σ := σ ++ l) (e := e) (p := σ.length + j) (O := .arr sz g (cs.set off (.str b))) ho hz (by rw [e1]; rfl) (by rw [e1]; rfl) (by
    rw [e1, opO_eq hx]
    show stv (σ ++ l) [.str b] (.pel (σ.length + j) g off) = _
    simp only [stv, get_own, hl, if_true, spl_set _ _ _ hi, Option.map_some]) (by decide)
  rwa [set_own] at this
end Lg
namespace Lg
open Go
theorem pcs_len (c : UInt8) : ∀ l : BL, (pcs c l).length ≤ l.length + 1
  | [] => by simp [pcs]
  | b :: l => by
    have ih := pcs_len c l
    unfold pcs
    split
    · simp only [List.length_cons]; omega
    · split
      · simp
      · rename_i p r h; rw [h] at ih; simp only [List.length_cons] at ih ⊢; omega
end Lg
namespace Lg
open Go
end Lg
namespace Lg
open Go
theorem pune_len (l : BL) (h : okP l) : (pune l).length ≤ l.length := by
  refine okP_ind (M := fun l => (pune l).length ≤ l.length) (Nat.le_refl _) ?_ ?_ ?_ l.length l (Nat.le_refl _) h
  · intro r _ ih; show (126 :: pune r).length ≤ _; simp only [List.length_cons]; omega
  · intro r _ ih; show (47 :: pune r).length ≤ _; simp only [List.length_cons]; omega
  · intro b r hb _ ih; rw [une_c hb]; simp only [List.length_cons]; omega
theorem pN_len {s : BL} (h : pE s = none) : (pN s).length ≤ s.length + 1 ∧ ∀ x ∈ pN s, x.length ≤ s.length := by
  by_cases h0 : s = []
  · subst h0; exact ⟨Nat.zero_le _, fun x hx => by simp [pN] at hx⟩
  · obtain ⟨h1, h2⟩ := pE_ok h0 h
    have ht : okP (s.drop 1) := by cases s with | nil => exact absurd rfl h0 | cons b r => exact okP_tl h2
    have hl := pcs_len 47 (s.drop 1)
    have hd : (s.drop 1).length ≤ s.length := by rw [List.length_drop]; omega
    unfold pN; rw [if_neg h0, h]
    refine ⟨by simp only [Option.isSome_none, Bool.false_eq_true, if_false, List.length_map]; omega, fun x hx => ?_⟩
    simp only [Option.isSome_none, Bool.false_eq_true, if_false, List.mem_map] at hx
    obtain ⟨p, hp, rfl⟩ := hx
    obtain ⟨a, b, c⟩ := pcs_ok _ (s.drop 1) (Nat.le_refl _) ht p hp
    have := pune_len p a
    omega
variable [GLay] {P : Program} {σ : List AO}
end Lg
namespace Lg
open Go
theorem pcs_split (c : UInt8) : ∀ l : BL, ∃ ps p, pcs c l = ps ++ [p]
  | [] => ⟨[], [], rfl⟩
  | b :: l => by
    obtain ⟨ps, p, h⟩ := pcs_split c l
    unfold pcs
    split
    · exact ⟨[] :: ps, p, by rw [h]; rfl⟩
    · rw [h]
      cases ps with
      | nil => exact ⟨[], b :: p, rfl⟩
      | cons q r => exact ⟨(b :: q) :: r, p, rfl⟩
theorem pcs_snoc_c (c : UInt8) : ∀ l : BL, pcs c (l ++ [c]) = pcs c l ++ [[]]
  | [] => by simp [pcs]
  | b :: l => by
    rw [List.cons_append, pcs, pcs, pcs_snoc_c c l]
    split
    · rfl
    · obtain ⟨ps, p, h⟩ := pcs_split c l
      rw [h]
      cases ps with
      | nil => rfl
      | cons q r => rfl
theorem pcs_snoc {b c : UInt8} (hb : ¬ b = c) : ∀ {l : BL} {ps : List BL} {p : BL}, pcs c l = ps ++ [p] → pcs c (l ++ [b]) = ps ++ [p ++ [b]]
  | [], ps, p, h => by
    have : ps = [] ∧ p = [] := by
      rw [pcs] at h
      cases ps with
      | nil => simp at h; exact ⟨rfl, h⟩
      | cons q r => simp at h
    obtain ⟨rfl, rfl⟩ := this
    simp [pcs, hb]
  | a :: l, ps, p, h => by
    obtain ⟨qs, q, hq⟩ := pcs_split c l
    have ih := pcs_snoc hb hq
    rw [List.cons_append, pcs, ih]
    rw [pcs, hq] at h
    split at h
    · rename_i e
      rw [if_pos e]
      have h2 : ([] :: qs) ++ [q] = ps ++ [p] := h
      obtain ⟨h3, h4⟩ := List.append_inj' h2 rfl
      subst h3; simp at h4; subst h4; rfl
    · rename_i e
      rw [if_neg e]
      cases qs with
      | nil =>
        have h2 : [] ++ [a :: q] = ps ++ [p] := h
        obtain ⟨h3, h4⟩ := List.append_inj' h2 rfl
        subst h3; simp at h4; subst h4; rfl
      | cons r rs =>
        have h2 : ((a :: r) :: rs) ++ [q] = ps ++ [p] := h
        obtain ⟨h3, h4⟩ := List.append_inj' h2 rfl
        subst h3; simp at h4; subst h4; rfl
theorem pune_app (m : BL) : ∀ (n : Nat) (l : BL), l.length ≤ n → okP l → pune (l ++ m) = pune l ++ pune m :=
  okP_ind (M := fun l => pune (l ++ m) = pune l ++ pune m) rfl
    (fun r _ ih => by simp only [List.cons_append, pune, ih]) (fun r _ ih => by simp only [List.cons_append, pune, ih])
    (fun b r hb _ ih => by rw [List.cons_append, une_c hb, une_c hb, ih]; rfl)
def nms (u : BL) : List BL := (pcs 47 u).map pune
theorem nms_split (u : BL) : ∃ ps p, nms u = ps ++ [p] := by
  obtain ⟨ps, p, h⟩ := pcs_split 47 u
  exact ⟨ps.map pune, pune p, by simp [nms, h]⟩
theorem nms_c (u : BL) : nms (u ++ [47]) = nms u ++ [[]] := by
  unfold nms; rw [pcs_snoc_c]; simp [pune]
theorem nms_b {u : BL} {ps : List BL} {p : BL} {b : UInt8} (h : nms u = ps ++ [p]) (hu : okP u) (h7 : ¬ b = 47) (h126 : ¬ b = 126) : nms (u ++ [b]) = ps ++ [p ++ [b]] := by
  obtain ⟨qs, q, hq⟩ := pcs_split 47 u
  have hok := pcs_ok u.length u (Nat.le_refl _) hu q (by rw [hq]; simp)
  unfold nms at h ⊢
  rw [pcs_snoc h7 hq]
  rw [hq, List.map_append] at h
  obtain ⟨h1, h2⟩ := List.append_inj' h rfl
  simp at h2; subst h1; subst h2
  rw [List.map_append, List.map_cons, List.map_nil, pune_app [b] _ q (Nat.le_refl _) hok.1]
  rw [une_c h126]; rfl
theorem nms_e {u : BL} {ps : List BL} {p : BL} {b : UInt8} (h : nms u = ps ++ [p]) (hu : okP u) (hb : b = 48 ∨ b = 49) : nms (u ++ [126, b]) = ps ++ [p ++ [if b = 49 then 47 else 126]] := by
  obtain ⟨qs, q, hq⟩ := pcs_split 47 u
  have hok := pcs_ok u.length u (Nat.le_refl _) hu q (by rw [hq]; simp)
  have h1 := pcs_snoc (b := 126) (c := 47) (by decide) hq
  have h2 := pcs_snoc (b := b) (c := 47) (by rcases hb with rfl | rfl <;> decide) h1
  rw [show u ++ [126, b] = u ++ [126] ++ [b] by simp]
  unfold nms at h ⊢
  rw [h2]
  rw [hq, List.map_append] at h
  obtain ⟨h3, h4⟩ := List.append_inj' h rfl
  simp at h4; subst h3; subst h4
  rw [List.map_append, List.map_cons, List.map_nil, show q ++ [126] ++ [b] = q ++ [126, b] by simp, pune_app [126, b] _ q (Nat.le_refl _) hok.1]
  rcases hb with rfl | rfl <;> rfl
theorem okP_snoc {u : BL} {b : UInt8} (h : okP u) (hb : ¬ b = 126) : okP (u ++ [b]) := fun i hi => by
  rcases Nat.lt_trichotomy i u.length with h1 | h1 | h1
  · rw [List.getElem?_append_left h1] at hi
    have := h i hi
    have h2 : i + 1 < u.length := by
      rcases this with h | h <;> exact (List.getElem?_eq_some_iff.1 h).1
    rwa [List.getElem?_append_left h2]
  · subst h1; simp at hi; exact absurd hi hb
  · rw [List.getElem?_append_right (by omega)] at hi
    have : i - u.length = (i - u.length - 1) + 1 := by omega
    rw [this] at hi; simp at hi
theorem okP_snoc2 {u : BL} {b : UInt8} (h : okP u) (hb : b = 48 ∨ b = 49) : okP (u ++ [126, b]) := fun i hi => by
  rcases Nat.lt_trichotomy i u.length with h1 | h1 | h1
  · rw [List.getElem?_append_left h1] at hi
    have := h i hi
    have h2 : i + 1 < u.length := by
      rcases this with h | h <;> exact (List.getElem?_eq_some_iff.1 h).1
    rwa [List.getElem?_append_left h2]
  · subst h1
    rw [List.getElem?_append_right (by omega), Nat.add_sub_cancel_left]
    rcases hb with rfl | rfl <;> simp
  · rw [List.getElem?_append_right (by omega)] at hi
    obtain ⟨k, hk⟩ : ∃ k, i - u.length = k + 1 := ⟨i - u.length - 1, by omega⟩
    rw [hk] at hi
    cases k with
    | zero => simp at hi; rcases hb with rfl | rfl <;> cases hi
    | succ k => simp at hi
theorem take_b {s : BL} {i : Nat} {b : UInt8} (h : s[i]? = some b) (hi : 1 ≤ i) : (s.take (i + 1)).drop 1 = (s.take i).drop 1 ++ [b] := by
  rw [List.take_add_one, h]
  have hl := (List.getElem?_eq_some_iff.1 h).1
  rw [List.drop_append_of_le_length (by rw [List.length_take]; omega)]; rfl
theorem take_2 {s : BL} {i : Nat} {a b : UInt8} (h : s[i]? = some a) (h2 : s[i + 1]? = some b) (hi : 1 ≤ i) : (s.take (i + 1 + 1)).drop 1 = (s.take i).drop 1 ++ [a, b] := by
  rw [take_b h2 (by omega), take_b h hi]; simp
structure PAt (s : BL) (i : Nat) (L : List BL) : Prop where
  le : i ≤ s.length
  z : i = 0 → L = []
  ok : okP ((s.take i).drop 1)
  nm : 1 ≤ i → L = nms ((s.take i).drop 1)
  bad : ∀ j, j < i → tbad s j = false
theorem PAt.zero (s : BL) : PAt s 0 [] := ⟨Nat.zero_le _, fun _ => rfl, okP_nil, fun h => absurd h (by omega), fun j h => absurd h (by omega)⟩
theorem tb_no {s : BL} {i : Nat} {b : UInt8} (h : s[i]? = some b) (hb : ¬ b = 126) : tbad s i = false := by
  unfold tbad; rw [decide_eq_false (by rw [h]; simpa using hb)]; rfl
theorem PAt.slash {s : BL} {i : Nat} {L : List BL} (p : PAt s i L) (h : s[i]? = some 47) : PAt s (i + 1) (L ++ [[]]) where
  le := (List.getElem?_eq_some_iff.1 h).1
  z := fun e => absurd e (by omega)
  ok := by
    by_cases h0 : i = 0
    · subst h0; rw [List.drop_eq_nil_of_le (by simp [List.length_take]; omega)]; exact okP_nil
    · rw [take_b h (by omega)]; exact okP_snoc p.ok (by decide)
  nm := fun _ => by
    by_cases h0 : i = 0
    · subst h0; rw [p.z rfl, List.drop_eq_nil_of_le (by simp [List.length_take]; omega)]; rfl
    · rw [take_b h (by omega), nms_c, ← p.nm (by omega)]
  bad := fun j hj => by
    by_cases e : j = i
    · subst e; exact tb_no h (by decide)
    · exact p.bad j (by omega)
theorem PAt.byte {s : BL} {i : Nat} {L ps : List BL} {q : BL} {b : UInt8} (p : PAt s i L) (hi : 1 ≤ i) (hL : L = ps ++ [q]) (h : s[i]? = some b) (h7 : ¬ b = 47) (h126 : ¬ b = 126) : PAt s (i + 1) (ps ++ [q ++ [b]]) where
  le := (List.getElem?_eq_some_iff.1 h).1
  z := fun e => absurd e (by omega)
  ok := by rw [take_b h hi]; exact okP_snoc p.ok h126
  nm := fun _ => by rw [take_b h hi]; exact (nms_b ((p.nm hi).symm.trans hL) p.ok h7 h126).symm
  bad := fun j hj => by
    by_cases e : j = i
    · subst e; exact tb_no h h126
    · exact p.bad j (by omega)
theorem PAt.esc {s : BL} {i : Nat} {L ps : List BL} {q : BL} {b : UInt8} (p : PAt s i L) (hi : 1 ≤ i) (hL : L = ps ++ [q]) (h : s[i]? = some 126) (h2 : s[i + 1]? = some b) (hb : b = 48 ∨ b = 49) : PAt s (i + 1 + 1) (ps ++ [q ++ [if b = 49 then 47 else 126]]) where
  le := (List.getElem?_eq_some_iff.1 h2).1
  z := fun e => absurd e (by omega)
  ok := by rw [take_2 h h2 hi]; exact okP_snoc2 p.ok hb
  nm := fun _ => by rw [take_2 h h2 hi]; exact (nms_e ((p.nm hi).symm.trans hL) p.ok hb).symm
  bad := fun j hj => by
    by_cases e : j = i
    · subst e; unfold tbad; rw [h2]; rcases hb with rfl | rfl <;> simp
    · by_cases e2 : j = i + 1
      · subst e2; exact tb_no h2 (by rcases hb with rfl | rfl <;> decide)
      · exact p.bad j (by omega)
theorem PAt.done {s : BL} {L : List BL} (p : PAt s s.length L) (h0 : ¬ s = []) (h1 : s[0]? = some 47) : pE s = none ∧ pN s = L := by
  have hl : 1 ≤ s.length := List.length_pos_iff.2 h0
  have hE : pE s = none := pE_none h0 h1 p.bad
  refine ⟨hE, ?_⟩
  rw [p.nm hl]
  unfold pN; rw [if_neg h0, hE, List.take_length]; rfl
theorem PAt.last {s : BL} {i : Nat} {L : List BL} (p : PAt s i L) (hi : 1 ≤ i) : ∃ ps q, L = ps ++ [q] := by
  obtain ⟨ps, q, h⟩ := nms_split ((s.take i).drop 1)
  exact ⟨ps, q, (p.nm hi).trans h⟩
theorem PAt.len {s : BL} {i : Nat} {L : List BL} (p : PAt s i L) : L.length ≤ i + 1 := by
  by_cases h0 : i = 0
  · rw [p.z h0]; simp
  · rw [p.nm (by omega)]; unfold nms; rw [List.length_map]
    have := pcs_len 47 ((s.take i).drop 1)
    rw [List.length_drop, List.length_take] at this; omega
theorem PAt.el {s : BL} {i : Nat} {L : List BL} (p : PAt s i L) : ∀ x ∈ L, x.length ≤ i := by
  intro x hx
  by_cases h0 : i = 0
  · rw [p.z h0] at hx; cases hx
  · rw [p.nm (by omega)] at hx
    unfold nms at hx
    obtain ⟨y, hy, rfl⟩ := List.mem_map.1 hx
    have h1 := pcs_ok _ _ (Nat.le_refl _) p.ok y hy
    have := pune_len y h1.1
    have h2 := h1.2.2
    rw [List.length_drop, List.length_take] at h2; omega
end Lg
namespace Lg
open Go Go.RowKit
variable [GLay]
def imap (m : List (Int × AV)) : List (AV × AV) := m.map fun q => (.int .i64 q.1, q.2)
def iget : List (Int × AV) → Int → Option (Nat × AV)
  | [], _ => none
  | (x, v) :: r, k => if k = x then some (0, v) else (iget r k).map fun z => (z.1 + 1, z.2)
theorem iget_none {m : List (Int × AV)} {k : Int} (h : ∀ q ∈ m, ¬ q.1 = k) : iget m k = none := by
  induction m with
  | nil => rfl
  | cons q r ih => obtain ⟨x, v⟩ := q; rw [iget, if_neg (fun e => h (x, v) (by simp) e.symm), ih (fun q hq => h q (by simp [hq]))]; rfl
variable {P : Program} {N : Nat} {σ : List AO} {e : Env} {o : Oper} {p : Nat}
section
variable {T K E : TypeId} {a b c : Operand} {m : List (Int × AV)} {k : Int} {z : Value}
end
end Lg
namespace Lg
open Go Go.RowKit
variable [GLay]
variable {P : Program} {N : Nat} {e : Env} {σ l : List AO} {Q : QA} {ops : Array Oper} {o : Oper}
theorem AWp_freezeInO {c : Code} (kq i kp gg sz len : Nat) {bs cs : List AV} (hq : l[kq]? = some (.box bs)) (hi : bs[i]? = some (.arr (σ.length + kp) gg sz 0 len)) (hσ : l[kp]? = some (.arr sz gg cs)) (es : List (List AV)) (hes : es.flatten = cs)
    (hel : ∀ r ∈ es, r.length = sz) (hlen : es.length = len) (hsz : sz ≠ 0) (k : AWp P N c e (σ ++ (l.set kp .dead).set kq (.box (bs.set i (.sl false sz es)))) Q) : AWp P N c e (σ ++ l) Q := by
  have hcl : cs.length = len * sz := by rw [← hes, flatten_len hel, hlen]
  refine AWp_freezeIn (σ.length + kq) i (σ.length + kp) gg sz 0 len (by rw [get_ownT rfl]; exact hq) hi (by rw [get_ownT rfl]; exact hσ) es ?_ hel hlen hsz ?_ (by rw [set_ownT rfl, set_ownT rfl]; exact k)
  · rw [Nat.zero_mul, List.drop_zero, ← hcl, List.take_length]; exact hes
  · rw [Nat.zero_add, hcl]; exact Nat.le_refl _
theorem AWp_freezeBoxO {c : Code} (t k : Nat) {cs : List AV} (hl : lookO e.l t = some (.ptr (σ.length + k) 0)) (hk : l[k]? = some (.box cs)) (h : AWp P N c (e.put (some t) (.pp cs)) (σ ++ l.set k .gone) Q) (ht : t < N) : AWp P N c e (σ ++ l) Q :=
  AWp_freeze t (σ.length + k) 0 hl (by rw [get_own]; exact hk) (by rw [set_own]; exact h) ht
theorem ResQ_K {n0 : Nat} {ts : List Nat} {el : List (Nat × AV)} {v : AV} {R : Out → List AO → Prop} (m : Nat) (hm : n0 ≤ m) (h : resA ts ⟨[], el⟩ = v) (hc : closed m σ) (hv : v.lt m) (hR : R (.ret v) (σ.take m)) : ResQ n0 ts R .ret ⟨[], el⟩ σ :=
  ⟨rfl, m, hm, hc, by rw [h]; exact hv, by rw [h]; exact hR⟩
theorem imap_lt (n : Nat) (m : List (Int × AV)) (h : ∀ q ∈ m, q.2.lt n) : AV.ltL n (mflat (imap m)) := by
  induction m with
  | nil => trivial
  | cons a r ih =>
    obtain ⟨k, v⟩ := a
    exact ⟨trivial, h (k, v) (by simp), ih (fun q hq => h q (by simp [hq]))⟩
end Lg
namespace Lg
open Go
structure JOp where
  op : Int
  pa : List BL
  fr : List BL
  v : JV
def ocells (o : JOp) : List AV := .int .i64 o.op :: .sl false 1 (srow o.pa) :: .sl false 1 (srow o.fr) :: vcells o.v
def orows (l : List JOp) : List (List AV) := l.map ocells
theorem ocells_eq (o : JOp) : ocells o = [.int .i64 o.op, .sl false 1 (srow o.pa), .sl false 1 (srow o.fr), .int .i64 o.v.kind, .bool o.v.b, .bool o.v.n.neg, .str o.v.n.digits, .int .i64 o.v.n.exp, .str o.v.s, .sl false 8 (lcells o.v.l), .sl false 9 (mcells o.v.m)] := by
  rw [ocells, vcells_eq]
theorem ocells_len (o : JOp) : (ocells o).length = 11 := by rw [ocells_eq]; rfl
theorem orows_len (l : List JOp) : (orows l).length = l.length := by simp [orows]
theorem orows_get {l : List JOp} {i : Nat} {x : JOp} (h : l[i]? = some x) : (orows l)[i]? = some (ocells x) := by simp [orows, h]
theorem orows_el (l : List JOp) : ∀ r ∈ orows l, r.length = 11 := by
  intro r hr; simp [orows] at hr; obtain ⟨x, _, rfl⟩ := hr; exact ocells_len x
theorem oflat_len [GLay] (l : List JOp) : (orows l).flatten.length = l.length * 11 := by rw [flatten_len (orows_el l), orows_len]
theorem orows_snoc (l : List JOp) (x : JOp) : (orows (l ++ [x])).flatten = (orows l).flatten ++ ocells x := by simp [orows]
section
variable [GLay]
@[simp] theorem ocells_lt (n : Nat) (o : JOp) : AV.ltL n (ocells o) := by
  rw [ocells]; exact ⟨trivial, srow_lt n _, srow_lt n _, vcells_lt n _⟩
@[simp] theorem orows_lt (n : Nat) (l : List JOp) : AV.ltLL n (orows l) := by
  rw [AV.ltLL_iff]; intro e he; simp [orows] at he; obtain ⟨x, _, rfl⟩ := he; exact ocells_lt n x
@[simp] theorem oflat_lt (n : Nat) (l : List JOp) : AV.ltL n (orows l).flatten := by
  rw [AV.ltL_iff]; intro a ha
  obtain ⟨e, he, h⟩ := List.mem_flatten.1 ha
  exact (AV.ltL_iff _ _).1 ((AV.ltLL_iff _ _).1 (orows_lt n l) e he) a h
end
def bOp : ByteArray := ⟨#[111, 112]⟩
def bPath : ByteArray := ⟨#[112, 97, 116, 104]⟩
def bFrom : ByteArray := ⟨#[102, 114, 111, 109]⟩
def bValue : ByteArray := ⟨#[118, 97, 108, 117, 101]⟩
def opL : List (ByteArray × Int) := [(⟨#[97, 100, 100]⟩, 1), (⟨#[114, 101, 109, 111, 118, 101]⟩, 2), (⟨#[114, 101, 112, 108, 97, 99, 101]⟩, 3), (⟨#[109, 111, 118, 101]⟩, 4), (⟨#[99, 111, 112, 121]⟩, 5), (⟨#[116, 101, 115, 116]⟩, 6)]
def opn (s : ByteArray) : Int := ((opL.find? fun q => decide (s = q.1)).map (·.2)).getD 0
def jfD (v : JV) (key : ByteArray) : JV := (jfind v key).getD vz
def jfB (v : JV) (key : ByteArray) : Bool := (jfind v key).isSome
def jptN (v : JV) (key : ByteArray) : List BL := if jfB v key = true ∧ (jfD v key).kind = 3 then pN (jfD v key).s.data.toList else []
def jptB (v : JV) (key : ByteArray) : Bool := jfB v key && decide ((jfD v key).kind = 3) && (pE (jfD v key).s.data.toList).isNone
def jopn (v : JV) : Int := if jfB v bOp = true ∧ (jfD v bOp).kind = 3 then opn (jfD v bOp).s else 0
def jop (v : JV) : Option JOp :=
  if jopn v = 0 then none else
  if jptB v bPath = false then none else
  if jopn v = 4 ∨ jopn v = 5 then (if jptB v bFrom = true then some ⟨jopn v, jptN v bPath, jptN v bFrom, vz⟩ else none) else
  if jopn v = 2 then some ⟨2, jptN v bPath, [], vz⟩ else
  if jfB v bValue = true then some ⟨jopn v, jptN v bPath, [], jfD v bValue⟩ else none
def jops : List JV → Option (List JOp)
  | [] => some []
  | x :: r => match jop x with
    | none => none
    | some o => (jops r).map (o :: ·)
theorem jops_snoc {l : List JV} {os : List JOp} {x : JV} (h : jops l = some os) : jops (l ++ [x]) = (jop x).map fun o => os ++ [o] := by
  induction l generalizing os with
  | nil => simp [jops] at h; subst h; simp only [List.nil_append, jops]; cases jop x <;> simp
  | cons a r ih =>
    rw [List.cons_append, jops]
    rw [jops] at h
    cases ha : jop a with
    | none => rw [ha] at h; cases h
    | some o =>
      rw [ha] at h
      simp only [Option.map_eq_some_iff] at h
      obtain ⟨os', h1, rfl⟩ := h
      rw [ih h1]
      cases jop x <;> simp
theorem jops_len {l : List JV} {os : List JOp} (h : jops l = some os) : os.length = l.length := by
  induction l generalizing os with
  | nil => simp [jops] at h; subst h; rfl
  | cons a r ih =>
    rw [jops] at h
    cases ha : jop a with
    | none => rw [ha] at h; cases h
    | some o =>
      rw [ha] at h
      simp only [Option.map_eq_some_iff] at h
      obtain ⟨os', h1, rfl⟩ := h
      simp [ih h1]
theorem jops_get {l : List JV} {os : List JOp} (h : jops l = some os) {i : Nat} {x : JV} (hx : l[i]? = some x) : ∃ o, jop x = some o ∧ os[i]? = some o := by
  induction l generalizing os i with
  | nil => simp at hx
  | cons a r ih =>
    rw [jops] at h
    cases ha : jop a with
    | none => rw [ha] at h; cases h
    | some o =>
      rw [ha] at h
      simp only [Option.map_eq_some_iff] at h
      obtain ⟨os', h1, rfl⟩ := h
      cases i with
      | zero => simp at hx; subst hx; exact ⟨o, ha, rfl⟩
      | succ i => simpa using ih h1 (by simpa using hx)
theorem jops_none {l : List JV} {i : Nat} {x : JV} (hx : l[i]? = some x) (h : jop x = none) : jops l = none := by
  induction l generalizing i with
  | nil => simp at hx
  | cons a r ih =>
    rw [jops]
    cases i with
    | zero => simp at hx; subst hx; rw [h]
    | succ i =>
      rw [ih (by simpa using hx)]
      cases jop a <;> rfl
def jbadI (l : List JV) : Nat := (l.takeWhile fun x => (jop x).isSome).length
def jrdC (v : JV) : Int := if ¬ v.kind = 4 then 1 else if 100 < v.l.length then 5 else if (jops v.l).isNone then 1 else 0
def jrdA (v : JV) : Int := if ¬ v.kind = 4 then 0 else if 100 < v.l.length then 100 else if (jops v.l).isNone then (jbadI v.l : Int) else 0
def jrd (v : JV) : List JOp := if ¬ v.kind = 4 then [] else if 100 < v.l.length then [] else (jops v.l).getD []
theorem jbad_at {l : List JV} {i : Nat} {x : JV} {os : List JOp} (h : jops (l.take i) = some os) (hx : l[i]? = some x) (hn : jop x = none) : jbadI l = i := by
  have hi := (List.getElem?_eq_some_iff.1 hx).1
  have e : l = l.take i ++ (x :: l.drop (i + 1)) := by
    have h0 : l.drop i = x :: l.drop (i + 1) := by
      rw [List.drop_eq_getElem_cons hi]; congr 1
      have := List.getElem?_eq_getElem hi
      rw [hx] at this; exact (Option.some.inj this).symm
    rw [← h0, List.take_append_drop]
  unfold jbadI
  conv => lhs; rw [e]
  rw [List.takeWhile_append_of_pos (fun a ha => ?_), List.takeWhile_cons_of_neg (by simp [hn])]
  · simp; omega
  · obtain ⟨j, hj⟩ := List.getElem?_of_mem ha
    obtain ⟨o, ho, _⟩ := jops_get h hj
    simp [ho]
theorem jrd_ok {v : JV} {os : List JOp} (h4 : v.kind = 4) (hl : v.l.length ≤ 100) (h : jops v.l = some os) : jrd v = os ∧ jrdC v = 0 ∧ jrdA v = 0 := by
  unfold jrd jrdC jrdA
  have h1 : ¬ 100 < v.l.length := by omega
  simp [h4, h1, h]
theorem jrd_bad {v : JV} {i : Nat} {x : JV} {os : List JOp} (h4 : v.kind = 4) (hl : v.l.length ≤ 100) (h : jops (v.l.take i) = some os) (hx : v.l[i]? = some x) (hn : jop x = none) : jrd v = [] ∧ jrdC v = 1 ∧ jrdA v = i := by
  have h0 := jops_none hx hn
  unfold jrd jrdC jrdA
  have h1 : ¬ 100 < v.l.length := by omega
  simp [h4, h1, h0, jbad_at h hx hn]
section
variable [GLay]
def OpR (v : JV) (σ : List AO) : Out → List AO → Prop := fun o σ' => σ' = σ ∧ ∃ r x b, o = .ret (.tup [.agg r, .bool b]) ∧ AVleL r (ocells x) ∧ (b = true → jop v = some x) ∧ (b = false → jop v = none)
def OpS (v : JV) (σ : List AO) : Out → List AO → Prop := fun o σ' => σ' = σ ∧ ∃ x b, o = .ret (.tup [.agg (ocells x), .bool b]) ∧ (b = true → jop v = some x) ∧ (b = false → jop v = none)
theorem OpR.strong {P : Program} {f : FuncId} {args : List AV} {v : JV} {σ : List AO} (h : ACalls P f args σ (OpR v σ)) : ACalls P f args σ (OpS v σ) :=
  h.weak (fun w σ' hr => by
    obtain ⟨rfl, r, x, b, h1, h2, h3, h4⟩ := hr
    injection h1 with h1
    subst h1
    exact ⟨_, AVle.tup (r := [.agg (ocells x), .bool b]) ⟨AVle.agg h2, AVle.refl _, trivial⟩, rfl, x, b, rfl, h3, h4⟩) (fun w σ' hr => by obtain ⟨_, r, x, b, h1, _⟩ := hr; cases h1)
theorem oz : AVleL [.int .i64 0, .nils, .nils, .int .i64 0, .bool false, .bool false, .str ⟨#[]⟩, .int .i64 0, .str ⟨#[]⟩, .nils, .nils] (ocells ⟨0, [], [], vz⟩) := by
  rw [ocells_eq]
  exact ⟨AVle.refl _, AVle.nils false 1, AVle.nils false 1, AVle.refl _, AVle.refl _, AVle.refl _, AVle.refl _, AVle.refl _, AVle.refl _, nilL, nilM, trivial⟩
end
end Lg
namespace Lg
open Go
def pEi (s : BL) : Int := match pE s with
  | none => -1
  | some i => (i : Int)
theorem pEi_n {s : BL} (h : pE s = none) : pEi s = -1 := by unfold pEi; rw [h]
theorem pEi_s {s : BL} {i : Nat} (h : pE s = some i) : pEi s = i := by unfold pEi; rw [h]
theorem pN_bad {s : BL} {i : Nat} (h0 : ¬ s = []) (h : pE s = some i) : pN s = [] := by unfold pN; rw [if_neg h0, h]; rfl
theorem sflat_len (L : List BL) : (srow L).flatten.length = L.length := by rw [srow_flat, List.length_map]
theorem srow_snoc (L : List BL) (x : BL) : (srow (L ++ [x])).flatten = (srow L).flatten ++ [.str (ba x)] := by rw [srow_flat, srow_flat, List.map_append]; rfl
theorem srow_last (ps : List BL) (q : BL) : (srow (ps ++ [q])).flatten[(ps ++ [q]).length - 1]? = some (.str (ba q)) := by
  rw [srow_snoc, List.length_append]
  rw [List.getElem?_append_right (by rw [sflat_len]; simp), sflat_len]
  simp
theorem srow_setl (ps : List BL) (q r : BL) : (srow (ps ++ [q])).flatten.set ((ps ++ [q]).length - 1) (.str (ba r)) = (srow (ps ++ [r])).flatten := by
  rw [srow_snoc, srow_snoc, List.length_append]
  rw [List.set_append_right _ _ (by rw [sflat_len]; simp), sflat_len]
  simp
end Lg
namespace Lg
open Go Go.RowKit
variable [GLay] {P : Program} {N : Nat} {σ l : List AO} {e : Env} {Q : QA} {o : Oper}
end Lg
namespace Lg
open Go
end Lg
namespace Lg
open Go
mutual
def seenV : JV → Int → List (Int × AV)
  | .mk k b n s l m, id => seenL l (id + 1) ++ seenM m (id + 1 + lsize l) ++ [(id, .agg (vcells (.mk k b n s l m)))]
def seenL : List JV → Int → List (Int × AV)
  | [], _ => []
  | x :: r, id => seenV x id ++ seenL r (id + jsize x)
def seenM : List (ByteArray × JV) → Int → List (Int × AV)
  | [], _ => []
  | (_, x) :: r, id => seenV x id ++ seenM r (id + jsize x)
end
mutual
theorem seenV_key : ∀ (v : JV) (id : Int), ∀ q ∈ seenV v id, id ≤ q.1 ∧ q.1 < id + jsize v
  | .mk k b n s l m, id => fun q hq => by
    have hl := lsize_nn l
    have hm := msize_nn m
    rw [seenV] at hq
    rw [jsize]
    rcases List.mem_append.1 hq with hq | hq
    · rcases List.mem_append.1 hq with hq | hq
      · have := seenL_key l _ q hq; omega
      · have := seenM_key m _ q hq; omega
    · rw [List.mem_singleton] at hq; subst hq; simp only; omega
theorem seenL_key : ∀ (l : List JV) (id : Int), ∀ q ∈ seenL l id, id ≤ q.1 ∧ q.1 < id + lsize l
  | [], id => fun q hq => by simp [seenL] at hq
  | x :: r, id => fun q hq => by
    have hr := lsize_nn r
    have hx := jsize_pos x
    rw [seenL] at hq
    rw [lsize]
    rcases List.mem_append.1 hq with hq | hq
    · have := seenV_key x _ q hq; omega
    · have := seenL_key r _ q hq; omega
theorem seenM_key : ∀ (m : List (ByteArray × JV)) (id : Int), ∀ q ∈ seenM m id, id ≤ q.1 ∧ q.1 < id + msize m
  | [], id => fun q hq => by simp [seenM] at hq
  | (a, x) :: r, id => fun q hq => by
    have hr := msize_nn r
    have hx := jsize_pos x
    rw [seenM] at hq
    rw [msize]
    rcases List.mem_append.1 hq with hq | hq
    · have := seenV_key x _ q hq; omega
    · have := seenM_key r _ q hq; omega
end
section
variable [GLay]
mutual
theorem seenV_lt (n : Nat) : ∀ (v : JV) (id : Int), ∀ q ∈ seenV v id, q.2.lt n
  | .mk k b nn s l m, id => fun q hq => by
    rw [seenV] at hq
    rcases List.mem_append.1 hq with hq | hq
    · rcases List.mem_append.1 hq with hq | hq
      · exact seenL_lt n l _ q hq
      · exact seenM_lt n m _ q hq
    · rw [List.mem_singleton] at hq; subst hq; simp [AV.lt]
theorem seenL_lt (n : Nat) : ∀ (l : List JV) (id : Int), ∀ q ∈ seenL l id, q.2.lt n
  | [], id => fun q hq => by simp [seenL] at hq
  | x :: r, id => fun q hq => by
    rw [seenL] at hq
    rcases List.mem_append.1 hq with hq | hq
    · exact seenV_lt n x _ q hq
    · exact seenL_lt n r _ q hq
theorem seenM_lt (n : Nat) : ∀ (m : List (ByteArray × JV)) (id : Int), ∀ q ∈ seenM m id, q.2.lt n
  | [], id => fun q hq => by simp [seenM] at hq
  | (a, x) :: r, id => fun q hq => by
    rw [seenM] at hq
    rcases List.mem_append.1 hq with hq | hq
    · exact seenV_lt n x _ q hq
    · exact seenM_lt n r _ q hq
end
end
end Lg
namespace Lg
open Go
theorem ldep_snoc (l : List JV) (x : JV) : ldep (l ++ [x]) = max (ldep l) (jdepth x) := by
  induction l with
  | nil => simp only [List.nil_append, ldep]
  | cons a r ih => simp only [List.cons_append, ldep, ih]; omega
theorem mdep_ins [GLay] (m : List (ByteArray × JV)) (key : ByteArray) (x : JV) : mdep (rins m key x) = max (mdep m) (jdepth x) := by
  induction m with
  | nil => rw [rins_nil]; simp only [mdep]
  | cons p m ih =>
    obtain ⟨k, v⟩ := p
    rw [rins_cons]
    split
    · simp only [mdep, ih]; omega
    · simp only [mdep]
def DD (r : RS) (x : JV × RS) : Prop := r.deep ≤ 32 → x.2.bad = 0 → jdepth x.1 + r.deep ≤ 32
section
variable [GLay]
variable {rv : RS → JV × RS} {s : ByteArray} (hs : s.size ≤ 100000) (hrv : ∀ r, ROK s r → VR s r (rv r)) (hd : ∀ r, ROK s r → DD r (rv r))
include hrv hd
theorem rarrF_dep : ∀ (k : Nat) (l : List JV) (r : RS), ROK s r → r.deep ≤ 32 → (r.bad = 0 → ldep l + r.deep ≤ 32) → (rarrF rv s k l r).2.bad = 0 → ldep (rarrF rv s k l r).1 + r.deep ≤ 32 := by
  intro k
  induction k with
  | zero => intro l r h h1 h2 h3; exact h2 h3
  | succ k ih =>
    intro l r h h1 h2 h3
    rw [rarrF] at h3 ⊢
    have hv := hrv r h
    split at h3
    · rename_i hc
      rw [if_pos hc]
      split at h3
      · rename_i hp
        rw [if_pos hp]
        have hi := rinc_to hv.fwd.ok (by omega)
        have e : (rinc (rv r).2).deep = r.deep := hv.deep
        have := ih (l ++ [(rv r).1]) (rinc (rv r).2) hi.ok (by omega) (fun e2 => by
          rw [ldep_snoc]
          have := hd r h h1 e2
          have := h2 (hv.fwd.b e2)
          omega) h3
        omega
      · rename_i hp
        rw [if_neg hp, ldep_snoc]
        have := hd r h h1 h3
        have := h2 (hv.fwd.b h3)
        omega
    · rename_i hc
      rw [if_neg hc]; exact h2 h3
omit hd in
theorem ropen_dep {r : RS} (hb : r.bad = 0) (h : (ropen s r).bad = 0) (h1 : r.deep ≤ 32) : r.deep + 1 ≤ 32 := by
  by_cases e : r.deep = 32
  · simp [ropen, e, hb] at h
  · omega
include hs
theorem rarr_dep {r : RS} (h : ROK s r) (hb : r.bad = 0) (ha : r.a < s.size) : DD r (rarr rv s r) := fun h1 h2 => by
  obtain ⟨o1, o2, o3⟩ := ropen_to h hb ha
  obtain ⟨q1, q2, q3, q4, q5⟩ := rarrF_ok hrv (s.size + 2) [] (ropen s r) o1.ok trivial (fun _ => trivial)
  obtain ⟨w1, w2⟩ := rwant_to (lit := rb1) q1.ok
  have h3 : (rarrF rv s (s.size + 2) [] (ropen s r)).2.bad = 0 := w1.b h2
  have h4 := ropen_dep hrv hb (q1.b h3) h1
  have h5 := rarrF_dep hrv hd (s.size + 2) [] (ropen s r) o1.ok (by omega) (fun _ => by simp only [ldep]; omega) h3
  unfold rarr
  show jdepth (.mk 4 false {} e0 _ []) + _ ≤ _
  rw [jdepth, if_pos (.inl rfl), mdep]
  have := ldep_nn (rarrF rv s (s.size + 2) [] (ropen s r)).1
  omega
theorem robjF_dep : ∀ (k : Nat) (m : List (ByteArray × JV)) (r : RS), ROK s r → r.deep ≤ 32 → (r.bad = 0 → mdep m + r.deep ≤ 32) → (robjF rv s k m r).2.bad = 0 → mdep (robjF rv s k m r).1 + r.deep ≤ 32 := by
  intro k
  induction k with
  | zero => intro m r h h1 h2 h3; exact h2 h3
  | succ k ih =>
    intro m r h h1 h2 h3
    rw [robjF] at h3 ⊢
    obtain ⟨k1, k2, k3, k4, k5⟩ := rkey_ok hrv (m := m) h
    have hv := hrv _ k1.ok
    split at h3
    · rename_i hc
      rw [if_pos hc]
      split at h3
      · rename_i hp
        rw [if_pos hp]
        have hi := rinc_to hv.fwd.ok (by omega)
        have e : (rinc (rv (rkey s m r).2).2).deep = r.deep := hv.deep.trans k2
        have := ih (rins m (rkey s m r).1 (rv (rkey s m r).2).1) (rinc (rv (rkey s m r).2).2) hi.ok (by omega) (fun e2 => by
          rw [mdep_ins]
          have := hd _ k1.ok (by omega) e2
          have := h2 (k1.b (hv.fwd.b e2))
          omega) h3
        omega
      · rename_i hp
        rw [if_neg hp, mdep_ins]
        have := hd _ k1.ok (by omega) h3
        have := h2 (k1.b (hv.fwd.b h3))
        omega
    · rename_i hc
      rw [if_neg hc]; exact h2 h3
theorem robj_dep {r : RS} (h : ROK s r) (hb : r.bad = 0) (ha : r.a < s.size) : DD r (robj rv s r) := fun h1 h2 => by
  obtain ⟨o1, o2, o3⟩ := ropen_to h hb ha
  obtain ⟨q1, q2, q3, q4, q5⟩ := robjF_ok hs hrv (s.size + 2) [] (ropen s r) o1.ok trivial (fun _ => ⟨fun q hq => by simp at hq, List.Pairwise.nil⟩)
  obtain ⟨w1, w2⟩ := rwant_to (lit := rb2) q1.ok
  have h3 : (robjF rv s (s.size + 2) [] (ropen s r)).2.bad = 0 := w1.b h2
  have h4 := ropen_dep hrv hb (q1.b h3) h1
  have h5 := robjF_dep hs hrv hd (s.size + 2) [] (ropen s r) o1.ok (by omega) (fun _ => by simp only [mdep]; omega) h3
  unfold robj
  show jdepth (.mk 5 false {} e0 [] _) + _ ≤ _
  rw [jdepth, if_pos (.inr rfl), ldep]
  have := mdep_nn (robjF rv s (s.size + 2) [] (ropen s r)).1
  omega
theorem rone_dep {r : RS} (h : ROK s r) : DD r (rone rv s r) := by
  have hz : ∀ {k : Int} {b : Bool} {n : JNum} {t : ByteArray} {r' : RS}, ¬ (k = 4 ∨ k = 5) → DD r (.mk k b n t [] [], r') := fun {k b n t r'} hk h1 _ => by
    show jdepth (.mk k b n t [] []) + _ ≤ _
    rw [jdepth, if_neg hk]; omega
  unfold rone
  split
  · rename_i hp; have := pk_yes (s := s) (a := r.a) (bad := r.bad) (by omega); exact robj_dep hs hrv hd h this.1 this.2.1
  split
  · rename_i hp; have := pk_yes (s := s) (a := r.a) (bad := r.bad) (by omega); exact rarr_dep hs hrv hd h this.1 this.2.1
  split
  · exact hz (by decide)
  split
  · exact hz (by decide)
  split
  · exact hz (by decide)
  split
  · exact hz (by decide)
  split
  · exact hz (by decide)
  · exact hz (by decide)
end
section
variable [GLay]
theorem rval_dep {s : ByteArray} (hs : s.size ≤ 100000) : ∀ (n : Nat) (r : RS), ROK s r → DD r (rval n s r) := by
  intro n
  induction n with
  | zero => intro r h h1 h2; show jdepth (.mk 0 false {} ⟨#[]⟩ [] []) + _ ≤ _; rw [jdepth, if_neg (by decide)]; omega
  | succ n ih =>
    intro r h h1 h2
    have b1 := rblank_to h
    have hv := rone_ok hs (rval_ok hs n) b1.ok
    have b2 := rblank_to hv.fwd.ok
    rw [rval] at h2 ⊢
    exact rone_dep hs (rval_ok hs n) ih b1.ok h1 (b2.b h2)
theorem rParse_dep (s : ByteArray) (h : (rParse s).2.1 = 0) : jdepth (rParse s).1 ≤ 32 := by
  unfold rParse at h ⊢
  split at h
  · cases h
  · rename_i hs
    split at h
    · rename_i hb
      rw [if_neg hs, if_pos hb]
      have h0 : ROK s ⟨0, 0, 0, 0⟩ := ⟨Nat.zero_le _, fun _ => Nat.zero_le _, Int.le_refl _, Int.le_refl _⟩
      have hb2 : (rpar s).2.bad = 0 := by
        unfold rparE at hb
        split at hb
        · exact absurd hb (rfail_bad (by decide))
        · exact hb
      have := rval_dep (by omega) (s.size + 2) ⟨0, 0, 0, 0⟩ h0 (by decide) hb2
      have e : (rval (s.size + 2) s ⟨0, 0, 0, 0⟩) = rpar s := rfl
      rw [e] at this; dsimp only at this ⊢; omega
    · rename_i hb; exact absurd h hb
theorem rValue_dep (s : ByteArray) (h : (rValue s).2 ≠ 0) : jdepth (rValue s).1 ≤ 32 := by
  unfold rValue at h ⊢
  split
  · rename_i h1; rw [if_pos h1] at h; exact absurd rfl h
  rename_i h1
  rw [if_neg h1] at h
  split
  · rename_i h2; exact rParse_dep s h2
  · rename_i h2; rw [if_neg h2] at h; exact absurd rfl h
end
theorem flat_lt {n : Nat} {es : List (List AV)} (h : AV.ltLL n es) : AV.ltL n es.flatten := by
  rw [AV.ltL_iff]; intro a ha
  obtain ⟨e, he, h2⟩ := List.mem_flatten.1 ha
  exact (AV.ltL_iff _ _).1 ((AV.ltLL_iff _ _).1 h e he) a h2
section
variable [GLay]
theorem may_nol {v : JV} (h : jmay v) (hk : ¬ v.kind = 4) : v.l = [] := by
  have hb := ((jmay_eq v).1 h).1.2.2.1
  unfold jbare at hb
  simp only [hk, Bool.and_eq_true, Bool.or_eq_true, decide_eq_true_eq, or_false] at hb
  exact List.length_eq_zero_iff.1 hb.2.1
theorem may_nom {v : JV} (h : jmay v) (hk : ¬ v.kind = 5) : v.m = [] := by
  have hb := ((jmay_eq v).1 h).1.2.2.1
  unfold jbare at hb
  simp only [hk, Bool.and_eq_true, Bool.or_eq_true, decide_eq_true_eq, or_false] at hb
  exact List.length_eq_zero_iff.1 hb.2.2
theorem may_get {v : JV} (h : jmay v) {i : Nat} {x : JV} (hx : v.l[i]? = some x) : jmay x := ((jmay_eq v).1 h).2.2 i x hx
theorem may_mget {v : JV} (h : jmay v) {i : Nat} {q : ByteArray × JV} (hq : v.m[i]? = some q) : jmay q.2 :=
  (((jmay_eq v).1 h).2.1 i q (List.getElem?_eq_some_iff.1 hq).1 hq).2
end
end Lg
namespace Lg
open Go
theorem opn_mem {s : ByteArray} {c : Int} (h : opn s = c) (hc : c ≠ 0) : (s, c) ∈ opL := by
  unfold opn at h
  cases hf : opL.find? fun q => decide (s = q.1) with
  | none => rw [hf] at h; exact absurd h.symm hc
  | some q =>
    rw [hf] at h
    have hm := List.mem_of_find?_eq_some hf
    have hq := List.find?_some hf
    simp only [decide_eq_true_eq] at hq
    simp only [Option.map_some, Option.getD_some] at h
    obtain ⟨a, b⟩ := q
    simp only at hq h
    subst hq; subst h
    exact hm
theorem opn_range (s : ByteArray) : 0 ≤ opn s ∧ opn s ≤ 6 := by
  by_cases h : opn s = 0
  · omega
  · have hm := opn_mem rfl h
    have : ∀ q ∈ opL, 0 ≤ q.2 ∧ q.2 ≤ 6 := by decide +kernel
    exact this _ hm
def opNm : List ByteArray := [⟨#[]⟩, ⟨#[97, 100, 100]⟩, ⟨#[114, 101, 109, 111, 118, 101]⟩, ⟨#[114, 101, 112, 108, 97, 99, 101]⟩, ⟨#[109, 111, 118, 101]⟩, ⟨#[99, 111, 112, 121]⟩, ⟨#[116, 101, 115, 116]⟩]
theorem opn_nm : ∀ i : Fin 6, opn (opNm[i.val + 1]'(by have := i.isLt; show _ < 7; omega)) = (i.val + 1 : Nat) := by decide +kernel
theorem opn_at {i : Nat} {t : ByteArray} (h : opNm[i]? = some t) (h1 : 1 ≤ i) (s : ByteArray) : s = t ↔ opn s = (i : Int) := by
  have h7 := (List.getElem?_eq_some_iff.1 h)
  obtain ⟨hi, ht⟩ := h7
  have hi7 : i < 7 := hi
  have e := opn_nm ⟨i - 1, by omega⟩
  have hio : i - 1 + 1 = i := by omega
  simp only [hio] at e
  rw [ht] at e
  constructor
  · rintro rfl; exact e
  · intro hs
    have m1 := opn_mem hs (by omega)
    have m2 := opn_mem e (by omega)
    have inj : ∀ a ∈ opL, ∀ b ∈ opL, a.2 = b.2 → a.1 = b.1 := by decide +kernel
    exact inj _ m1 _ m2 rfl
def opc (v : JV) (i : Nat) : Int := if jfB v bOp = true ∧ (jfD v bOp).kind = 3 ∧ opn (jfD v bOp).s < i then opn (jfD v bOp).s else 0
theorem opc_1 (v : JV) : opc v 1 = 0 := by
  have := opn_range (jfD v bOp).s
  unfold opc
  by_cases h : jfB v bOp = true ∧ (jfD v bOp).kind = 3 ∧ opn (jfD v bOp).s < ((1 : Nat) : Int)
  · rw [if_pos h]
    have h1 : opn (jfD v bOp).s < 1 := h.2.2
    have h2 := this.1
    omega
  · rw [if_neg h]
theorem opc_7 (v : JV) : opc v 7 = jopn v := by
  have := opn_range (jfD v bOp).s
  unfold opc jopn
  by_cases h : jfB v bOp = true ∧ (jfD v bOp).kind = 3
  · have h7 : opn (jfD v bOp).s < ((7 : Nat) : Int) := Int.lt_of_le_of_lt this.2 (by decide)
    rw [if_pos h, if_pos ⟨h.1, h.2, h7⟩]
  · rw [if_neg h, if_neg (fun x => h ⟨x.1, x.2.1⟩)]
theorem opc_no {v : JV} (h : jfB v bOp = false) (i : Nat) : opc v i = jopn v := by
  unfold opc jopn; rw [if_neg (by simp [h]), if_neg (by simp [h])]
theorem opc_hit {v : JV} {i : Nat} {t : ByteArray} (hb : jfB v bOp = true) (hk : (jfD v bOp).kind = 3) (ht : opNm[i]? = some t) (h1 : 1 ≤ i) (h : (jfD v bOp).s = t) : opc v (i + 1) = (i : Int) := by
  have := (opn_at ht h1 _).1 h
  have h7 : opn (jfD v bOp).s < ((i + 1 : Nat) : Int) := by omega
  unfold opc; rw [if_pos ⟨hb, hk, h7⟩, this]
theorem opc_miss {v : JV} {i : Nat} {t : ByteArray} (ht : opNm[i]? = some t) (h1 : 1 ≤ i) (h : ¬ (jfD v bOp).s = t) : opc v (i + 1) = opc v i := by
  have hne : ¬ opn (jfD v bOp).s = (i : Int) := fun e => h ((opn_at ht h1 _).2 e)
  unfold opc
  by_cases hc : jfB v bOp = true ∧ (jfD v bOp).kind = 3 ∧ opn (jfD v bOp).s < i
  · have h9 := hc.2.2
    have h7 : opn (jfD v bOp).s < ((i + 1 : Nat) : Int) := by omega
    rw [if_pos hc, if_pos ⟨hc.1, hc.2.1, h7⟩]
  · have h7 : ¬ (jfB v bOp = true ∧ (jfD v bOp).kind = 3 ∧ opn (jfD v bOp).s < ((i + 1 : Nat) : Int)) := fun x => hc ⟨x.1, x.2.1, by have h8 := x.2.2; omega⟩
    rw [if_neg hc, if_neg h7]
theorem opc_k {v : JV} {i : Nat} (hk : ¬ (jfD v bOp).kind = 3) : opc v (i + 1) = opc v i := by
  unfold opc; rw [if_neg (fun x => hk x.2.1), if_neg (fun x => hk x.2.1)]
theorem jopn_range (v : JV) : 0 ≤ jopn v ∧ jopn v ≤ 6 := by
  unfold jopn; split
  · exact opn_range _
  · omega
theorem jop_n1 {v : JV} (h : jopn v = 0) : jop v = none := by unfold jop; rw [if_pos h]
theorem jop_n2 {v : JV} (h : jptB v bPath = false) : jop v = none := by unfold jop; rw [h]; simp
theorem jop_fr {v : JV} (hp : jptB v bPath = true) (h : jopn v = 4 ∨ jopn v = 5) : jop v = if jptB v bFrom = true then some ⟨jopn v, jptN v bPath, jptN v bFrom, vz⟩ else none := by
  unfold jop; rw [if_neg (by omega), if_neg (by simp [hp]), if_pos h]
theorem jop_rm {v : JV} (hp : jptB v bPath = true) (h : jopn v = 2) : jop v = some ⟨2, jptN v bPath, [], vz⟩ := by
  unfold jop; rw [if_neg (by omega), if_neg (by simp [hp]), if_neg (by omega), if_pos h]
theorem jop_vl {v : JV} (hp : jptB v bPath = true) (h0 : ¬ jopn v = 0) (h4 : ¬ (jopn v = 4 ∨ jopn v = 5)) (h2 : ¬ jopn v = 2) : jop v = if jfB v bValue = true then some ⟨jopn v, jptN v bPath, [], jfD v bValue⟩ else none := by
  unfold jop; rw [if_neg h0, if_neg (by simp [hp]), if_neg h4, if_neg h2]
theorem pEi_lt (s : BL) : decide (pEi s < 0) = (pE s).isNone := by
  unfold pEi
  cases pE s with
  | none => rfl
  | some i => simp
theorem jpt_yes {v : JV} {key : ByteArray} (h1 : jfB v key = true) (h2 : (jfD v key).kind = 3) : jptN v key = pN (jfD v key).s.data.toList ∧ jptB v key = (pE (jfD v key).s.data.toList).isNone := by
  unfold jptN jptB; rw [if_pos ⟨h1, h2⟩, h1, h2]; simp
theorem jpt_no {v : JV} {key : ByteArray} (h : jfB v key = false ∨ ¬ (jfD v key).kind = 3) : jptN v key = [] ∧ jptB v key = false := by
  unfold jptN jptB
  rcases h with h | h
  · rw [if_neg (by simp [h]), h]; simp
  · rw [if_neg (by simp [h]), decide_eq_false h]; simp
section
variable [GLay]
theorem jfD_jb {v : JV} {key : ByteArray} (h : jb v) : jb (jfD v key) := by
  unfold jfD
  cases hf : jfind v key with
  | none => exact jb_nil _ _ _ _ (Nat.zero_le _) (Nat.zero_le _)
  | some x =>
    unfold jfind at hf
    split at hf
    · rw [Option.map_eq_some_iff] at hf
      obtain ⟨q, hq, rfl⟩ := hf
      obtain ⟨j, hj⟩ := List.getElem?_of_mem (List.mem_of_find?_eq_some hq)
      exact (mb_get ((jb_eq v).1 h).2.2.2.2.2 hj).2
    · cases hf
theorem jfD_size {v : JV} {key : ByteArray} {n : Int} (hs : jsize v ≤ n) (hn : 1 ≤ n) : jsize (jfD v key) ≤ n := by
  unfold jfD
  cases hf : jfind v key with
  | none => simp only [Option.getD_none, vz, jsize_nil]; omega
  | some x =>
    unfold jfind at hf
    split at hf
    · rw [Option.map_eq_some_iff] at hf
      obtain ⟨q, hq, rfl⟩ := hf
      obtain ⟨j, hj⟩ := List.getElem?_of_mem (List.mem_of_find?_eq_some hq)
      have h1 := msize_mem hj
      have h2 := jsize_eq v
      have h3 := lsize_nn v.l
      simp only [Option.getD_some]; omega
    · cases hf
structure OB (o : JOp) : Prop where
  jb : jb o.v
  pa : o.pa.length ≤ 2000000
  fr : o.fr.length ≤ 2000000
theorem jptN_len {v : JV} {key : ByteArray} (h : jb v) (hb : jptB v key = true) : (jptN v key).length ≤ 2000000 := by
  by_cases h1 : jfB v key = true
  · by_cases h2 : (jfD v key).kind = 3
    · obtain ⟨e1, e2⟩ := jpt_yes h1 h2
      rw [e1]
      rw [e2] at hb
      have h3 : pE (jfD v key).s.data.toList = none := by
        cases hp : pE (jfD v key).s.data.toList with
        | none => rfl
        | some i => rw [hp] at hb; cases hb
      have h4 := (pN_len h3).1
      have h5 := ((jb_eq _).1 (jfD_jb (key := key) h)).2.1
      have h6 : (jfD v key).s.data.toList.length = (jfD v key).s.size := Array.length_toList ..
      omega
    · rw [(jpt_no (.inr h2)).1]; exact Nat.zero_le _
  · rw [(jpt_no (.inl (by simpa using h1))).1]; exact Nat.zero_le _
end
end Lg
namespace Lg
open Go
theorem jrd_k4 {v : JV} (h : ¬ v.kind = 4) : jrd v = [] ∧ jrdC v = 1 ∧ jrdA v = 0 := by unfold jrd jrdC jrdA; rw [if_pos h, if_pos h, if_pos h]; exact ⟨rfl, rfl, rfl⟩
theorem jrd_many {v : JV} (h : v.kind = 4) (hl : 100 < v.l.length) : jrd v = [] ∧ jrdC v = 5 ∧ jrdA v = 100 := by unfold jrd jrdC jrdA; simp [h, hl]
end Lg
namespace Lg
open Go
theorem valL_nat : ∀ (l : BL) (v : Nat), aD l → Lib.decFrom v l = some (valL v l).toNat ∧ 0 ≤ valL v l ∧ valL v l < ((v : Int) + 1) * 10 ^ l.length
  | [], v, _ => ⟨by simp [Lib.decFrom, valL], by simp [valL], by simp [valL]; omega⟩
  | b :: l, v, h => by
    obtain ⟨hb, hl⟩ := aD_cons h
    have hd : Lib.digitVal b = some (b.toNat - 48) := by unfold Lib.digitVal; rw [if_pos hb]
    have hv : valL v (b :: l) = valL ((v * 10 + (b.toNat - 48) : Nat) : Int) l := by
      show valL (10 * (v : Int) + (b.toNat : Int) - 48) l = _
      congr 1; omega
    obtain ⟨h1, h2, h3⟩ := valL_nat l (v * 10 + (b.toNat - 48)) hl
    rw [hv]
    refine ⟨?_, h2, ?_⟩
    · simp only [Lib.decFrom, hd]; exact h1
    · refine Int.lt_of_lt_of_le h3 ?_
      rw [List.length_cons, Int.pow_succ, Int.mul_comm (10 ^ l.length) 10, ← Int.mul_assoc]
      exact Int.mul_le_mul_of_nonneg_right (by omega) (Int.pow_nonneg (by omega))
end Lg
namespace Lg
open Go
end Lg
namespace Lg
open Go
structure JOk (n : JNum) (d : BL) : Prop where
  dig : n.digits = ba d
  ne : d ≠ []
  ad : aD d
  hd : d.head? ≠ some 48
  lst : d.getLast? ≠ some 48
  len : d.length ≤ 60
  lo : -1000 ≤ n.exp
  hi : n.exp ≤ 1000
def JMay (n : JNum) : Prop := n = {} ∨ ∃ d, JOk n d
theorem JOk.nil {n : JNum} {d : BL} (h : JOk n d) : ¬ n.digits = ⟨#[]⟩ := fun e => h.ne (ba_nil.1 (h.dig ▸ e))
theorem JOk.size {n : JNum} {d : BL} (h : JOk n d) : n.digits.size = d.length := by rw [h.dig, ba_size]
theorem JMay.bnd {n : JNum} (h : JMay n) : n.digits.size ≤ 1000000 ∧ -1000000 ≤ n.exp ∧ n.exp ≤ 1000000 := by
  rcases h with rfl | ⟨d, h⟩
  · exact ⟨by decide, by decide, by decide⟩
  · have := h.size; have := h.len; have := h.lo; have := h.hi
    omega
end Lg
namespace Lg
open Go
theorem valL_snoc (l : BL) (c : UInt8) (v : Int) : valL v (l ++ [c]) = 10 * valL v l + (c.toNat : Int) - 48 := by
  unfold valL; rw [List.foldl_append]; rfl
end Lg
namespace Lg
open Go
def jixB (nm : BL) : Prop := nm = [] ∨ ¬ runl (ba nm) 0 = nm.length ∨ (1 < nm.length ∧ (bat (ba nm) 0).toNat = 48) ∨ 18 < nm.length
instance (nm : BL) : Decidable (jixB nm) := by unfold jixB; infer_instance
def jidx (nm : BL) (n : Nat) (e : Bool) : Option Nat :=
  if e = true ∧ nm = [45] then some n else
  if jixB nm then none else
  if valL 0 nm < n ∨ (valL 0 nm = n ∧ e = true) then some (valL 0 nm).toNat else none
def jixN (nm : BL) (n : Nat) (e : Bool) : Int := (jidx nm n e).elim 0 (fun k => (k : Int))
def jixO (nm : BL) (n : Nat) (e : Bool) : Bool := (jidx nm n e).isSome
theorem jix_minus {nm : BL} {n : Nat} {e : Bool} (h1 : e = true) (h2 : nm = [45]) : jixN nm n e = n ∧ jixO nm n e = true := by
  unfold jixN jixO jidx; rw [if_pos ⟨h1, h2⟩]; exact ⟨rfl, rfl⟩
theorem jix_bad {nm : BL} {n : Nat} {e : Bool} (h : ¬ (e = true ∧ nm = [45])) (hb : jixB nm) : jixN nm n e = 0 ∧ jixO nm n e = false := by
  unfold jixN jixO jidx; rw [if_neg h, if_pos hb]; exact ⟨rfl, rfl⟩
theorem jix_val {nm : BL} {n : Nat} {e : Bool} (h : ¬ (e = true ∧ nm = [45])) (hb : ¬ jixB nm) (h0 : 0 ≤ valL 0 nm) (hv : valL 0 nm < n ∨ (valL 0 nm = n ∧ e = true)) : jixN nm n e = valL 0 nm ∧ jixO nm n e = true := by
  unfold jixN jixO jidx; rw [if_neg h, if_neg hb, if_pos hv]; exact ⟨Int.toNat_of_nonneg h0, rfl⟩
theorem jix_big {nm : BL} {n : Nat} {e : Bool} (h : ¬ (e = true ∧ nm = [45])) (hb : ¬ jixB nm) (hv : ¬ (valL 0 nm < n ∨ (valL 0 nm = n ∧ e = true))) : jixN nm n e = 0 ∧ jixO nm n e = false := by
  unfold jixN jixO jidx; rw [if_neg h, if_neg hb, if_neg hv]; exact ⟨rfl, rfl⟩
theorem jixB_aD {nm : BL} (h : ¬ jixB nm) : aD nm ∧ 0 < nm.length ∧ nm.length ≤ 18 := by
  unfold jixB at h
  have h1 : runl (ba nm) 0 = nm.length := Classical.byContradiction fun x => h (.inr (.inl x))
  rw [runl_ba] at h1
  refine ⟨aD_of_len h1, ?_, Nat.le_of_not_lt fun x => h (.inr (.inr (.inr x)))⟩
  have h2 : nm ≠ [] := fun x => h (.inl x)
  exact List.length_pos_iff.2 h2
theorem valL_bd {l : BL} (h : aD l) : 0 ≤ valL 0 l ∧ valL 0 l < 10 ^ l.length := by
  have := valL_nat l 0 h
  exact ⟨this.2.1, by have h2 := this.2.2; simpa using h2⟩
theorem jidx_le {nm : BL} {n k : Nat} {e : Bool} (h : jidx nm n e = some k) : k ≤ n ∧ (e = false → k < n) := by
  unfold jidx at h
  split at h
  · rename_i h1; cases h; exact ⟨Nat.le_refl _, fun h => by rw [h1.1] at h; cases h⟩
  · split at h
    · cases h
    · rename_i hb0
      have h0 := (valL_bd (jixB_aD hb0).1).1
      split at h
      · rename_i h1
        cases h
        rcases h1 with h1 | ⟨h1, h2⟩
        · exact ⟨by omega, fun _ => by omega⟩
        · exact ⟨by omega, fun h => by rw [h2] at h; cases h⟩
      · cases h
theorem valL_take {l : BL} (h : aD l) (h18 : l.length ≤ 18) {i : Nat} (hi : i < l.length) : 0 ≤ valL 0 (l.take i) ∧ valL 0 (l.take i) < 100000000000000000 := by
  have ha : aD (l.take i) := fun b hb => h b (List.mem_of_mem_take hb)
  have h1 := valL_bd ha
  refine ⟨h1.1, Int.lt_of_lt_of_le h1.2 ?_⟩
  have h2 : (l.take i).length ≤ 17 := by rw [List.length_take]; omega
  have h3 : (10 : Nat) ^ (l.take i).length ≤ 10 ^ 17 := Nat.pow_le_pow_right (by decide) h2
  have h4 : ((10 : Nat) ^ (l.take i).length : Int) ≤ ((10 ^ 17 : Nat) : Int) := by exact_mod_cast h3
  exact h4
theorem valL_step {l : BL} {i : Nat} {c : UInt8} (h : l[i]? = some c) : valL 0 (l.take (i + 1)) = 10 * valL 0 (l.take i) + (c.toNat : Int) - 48 := by
  rw [ltake_succ h, valL_snoc]
def eIns (last : Bool) (op : Int) (k : Nat) (x : JV) (i : Nat) : List JV := if i = k ∧ last = true ∧ op ≠ 2 then [x] else []
def eOld (last : Bool) (op : Int) (k : Nat) (y : JV) (l : List JV) (i : Nat) : List JV := match l[i]? with
  | none => []
  | some a => if i = k then (if last = true then (if op = 1 then [a] else []) else [y]) else [a]
def eA (last : Bool) (op : Int) (k : Nat) (x y : JV) (l : List JV) : Nat → List JV
  | 0 => []
  | i + 1 => eA last op k x y l i ++ eIns last op k x i ++ eOld last op k y l i
def eMi (last : Bool) (op : Int) (key k : ByteArray) (put : Bool) : Bool := last && decide (op ≠ 2) && !put && !blt k key
def eM (last : Bool) (op : Int) (key : ByteArray) (x : JV) (f : JV → JV) : List (ByteArray × JV) → Bool → List (ByteArray × JV)
  | [], put => if (last && decide (op ≠ 2) && !put) = true then [(key, x)] else []
  | q :: r, put => (if eMi last op key q.1 put = true then [(key, x)] else []) ++ ((if q.1 = key then (if last = true then [] else [(q.1, f q.2)]) else [q]) ++ eM last op key x f r (put || eMi last op key q.1 put))
def eBad (last : Bool) (key : ByteArray) (g : JV → Int) (m : List (ByteArray × JV)) : Int := if last = true then 0 else ((m.find? fun q => decide (q.1 = key) && decide (g q.2 ≠ 0)).map fun q => g q.2).getD 0
def jed (op : Int) (x : JV) : List BL → JV → JV × Int
  | [], v => if op = 2 then (vz, 7) else (x, 0)
  | nm :: r, v =>
    if v.kind = 4 then
      if jixO nm v.l.length (decide (op = 1) && r.isEmpty) = true then
        if r.isEmpty = false ∧ (jed op x r (v.l.getD (jixN nm v.l.length (decide (op = 1) && r.isEmpty)).toNat vz)).2 ≠ 0 then (vz, (jed op x r (v.l.getD (jixN nm v.l.length (decide (op = 1) && r.isEmpty)).toNat vz)).2)
        else (.mk v.kind v.b v.n v.s (eA r.isEmpty op (jixN nm v.l.length (decide (op = 1) && r.isEmpty)).toNat x (jed op x r (v.l.getD (jixN nm v.l.length (decide (op = 1) && r.isEmpty)).toNat vz)).1 v.l (v.l.length + 1)) [], 0)
      else (vz, 6)
    else if v.kind ≠ 5 ∨ (jfB v (ba nm) = false ∧ (op ≠ 1 ∨ r.isEmpty = false)) then (vz, 6)
    else if eBad r.isEmpty (ba nm) (fun y => (jed op x r y).2) v.m ≠ 0 then (vz, eBad r.isEmpty (ba nm) (fun y => (jed op x r y).2) v.m)
    else (.mk v.kind v.b v.n v.s [] (eM r.isEmpty op (ba nm) x (fun y => (jed op x r y).1) v.m false), 0)
theorem eIns_y {last : Bool} {op : Int} {k : Nat} {x : JV} {i : Nat} (h : i = k ∧ last = true ∧ op ≠ 2) : eIns last op k x i = [x] := if_pos h
theorem eIns_n {last : Bool} {op : Int} {k : Nat} {x : JV} {i : Nat} (h : ¬ (i = k ∧ last = true ∧ op ≠ 2)) : eIns last op k x i = [] := if_neg h
end Lg
namespace Lg
open Go
def dgs : BL := [48, 49, 50, 51, 52, 53, 54, 55, 56, 57]
theorem dgs_isD (b : UInt8) : dgs.contains b = isD b := by
  revert b
  have h : ∀ n : Fin 256, dgs.contains (UInt8.ofNat n.val) = isD (UInt8.ofNat n.val) := by decide +kernel
  intro b
  have := h ⟨b.toNat, b.toNat_lt⟩
  simpa using this
theorem dwp_nil {p : UInt8 → Bool} {l : BL} : l.dropWhile p = [] ↔ ∀ b ∈ l, p b = true := by
  induction l with
  | nil => simp
  | cons a r ih =>
    rw [List.dropWhile_cons]
    cases h : p a with
    | true => simp [h, ih]
    | false => simp [h]
theorem trim_nil (l : BL) : Lib.trimS l dgs = [] ↔ aD l := by
  unfold Lib.trimS Lib.trimLeftS Lib.trimRightS aD
  rw [dwp_nil]
  constructor
  · intro h b hb
    rw [← dgs_isD]
    by_cases hx : b ∈ (l.reverse.dropWhile (dgs.contains ·)).reverse
    · exact h b hx
    · have hr : b ∈ l.reverse := List.mem_reverse.2 hb
      rw [← List.takeWhile_append_dropWhile (p := (dgs.contains ·)) (l := l.reverse)] at hr
      rcases List.mem_append.1 hr with h1 | h1
      · exact List.all_eq_true.1 (List.all_takeWhile (p := (dgs.contains ·)) (l := l.reverse)) b h1
      · exact absurd (List.mem_reverse.2 h1) hx
  · intro h b hb
    rw [dgs_isD]
    exact h b (List.mem_reverse.1 ((List.dropWhile_sublist _).mem (List.mem_reverse.1 hb)))
theorem aD_run {l : BL} : aD l ↔ runl (ba l) 0 = l.length := by
  rw [runl_ba]
  constructor
  · intro h
    congr 1
    induction l with
    | nil => rfl
    | cons a r ih =>
      rw [List.takeWhile_cons, if_pos (h a (List.mem_cons_self ..)), ih (fun b hb => h b (List.mem_cons_of_mem _ hb))]
  · exact aD_of_len
theorem atoi_dig {l : BL} (h : aD l) (h0 : 0 < l.length) : Lib.atoi l = some (valL 0 l) := by
  cases l with
  | nil => simp at h0
  | cons b r =>
    have hb := (isD_iff b).1 (h b (List.mem_cons_self ..))
    have n1 : ¬ (b == 45) = true := fun e => by have := eq_of_beq e; subst this; revert hb; decide
    have n2 : ¬ (b == 43) = true := fun e => by have := eq_of_beq e; subst this; revert hb; decide
    obtain ⟨h1, h2, _⟩ := valL_nat (b :: r) 0 h
    have e2 : Lib.atoi (b :: r) = (Lib.decNat (b :: r)).map fun (m : Nat) => (m : Int) := by rw [Lib.atoi, if_neg n1, if_neg n2]
    have e3 : Lib.decNat (b :: r) = Lib.decFrom 0 (b :: r) := rfl
    have e : valL ((0 : Nat) : Int) (b :: r) = valL 0 (b :: r) := rfl
    rw [e] at h1 h2
    rw [e2, e3, h1]
    simp only [Option.map_some, Option.some.injEq]
    omega
end Lg
namespace Lg
open Go
def jeK (op : Int) (nm : BL) (last : Bool) (v : JV) : Int := jixN nm v.l.length (decide (op = 1) && last)
def jeO (op : Int) (nm : BL) (last : Bool) (v : JV) : Bool := jixO nm v.l.length (decide (op = 1) && last)
variable {op : Int} {x v : JV} {nm : BL} {r : List BL}
theorem jed_nil2 : jed 2 x [] v = (vz, 7) := rfl
theorem jed_nil (h : ¬ op = 2) : jed op x [] v = (x, 0) := by rw [jed, if_neg h]
variable {last : Bool} {k : Nat}
theorem jedA_no (hl : r.isEmpty = last) (h4 : v.kind = 4) (ho : jeO op nm last v = false) : jed op x (nm :: r) v = (vz, 6) := by
  subst hl
  rw [jed, if_pos h4, if_neg]; show ¬ jeO op nm r.isEmpty v = true; simp [ho]
theorem jedA_bad (hl : r.isEmpty = last) (h4 : v.kind = 4) (hk : jeK op nm last v = k) (ho : jeO op nm last v = true) (hr : last = false) {a : JV} (ha : v.l[k]? = some a) (hb : ¬ (jed op x r a).2 = 0) : jed op x (nm :: r) v = (vz, (jed op x r a).2) := by
  have e1 : (jixN nm v.l.length (decide (op = 1) && r.isEmpty)).toNat = k := by subst hl; show (jeK op nm r.isEmpty v).toNat = k; rw [hk]; rfl
  have e2 : v.l.getD k vz = a := by rw [List.getD_eq_getElem?_getD, ha]; rfl
  rw [jed, if_pos h4, if_pos (by subst hl; exact ho), e1, e2, if_pos ⟨by rw [hl, hr], hb⟩]
theorem jedA_ok (hl : r.isEmpty = last) (h4 : v.kind = 4) (hk : jeK op nm last v = k) (ho : jeO op nm last v = true) (hb : last = false → (jed op x r (v.l.getD k vz)).2 = 0) :
    jed op x (nm :: r) v = (.mk v.kind v.b v.n v.s (eA last op k x (jed op x r (v.l.getD k vz)).1 v.l (v.l.length + 1)) [], 0) := by
  have e1 : (jixN nm v.l.length (decide (op = 1) && r.isEmpty)).toNat = k := by subst hl; show (jeK op nm r.isEmpty v).toNat = k; rw [hk]; rfl
  rw [jed, if_pos h4, if_pos (by subst hl; exact ho), e1, if_neg, hl]
  rintro ⟨h1, h2⟩; exact h2 (hb (by rw [← hl]; exact h1))
theorem jedM_no (hl : r.isEmpty = last) (h4 : ¬ v.kind = 4) (h : ¬ v.kind = 5 ∨ (jfB v (ba nm) = false ∧ (¬ op = 1 ∨ last = false))) : jed op x (nm :: r) v = (vz, 6) := by
  subst hl; rw [jed, if_neg h4, if_pos h]
theorem eBad_at {key : ByteArray} {g : JV → Int} {m : List (ByteArray × JV)} {i : Nat} {q : ByteArray × JV} (hq : m[i]? = some q) (h : ∀ p ∈ m.take i, p.1 = key → g p.2 = 0) (hk : q.1 = key) (hb : ¬ g q.2 = 0) : eBad false key g m = g q.2 := by
  have hi := (List.getElem?_eq_some_iff.1 hq).1
  have e : m = m.take i ++ (q :: m.drop (i + 1)) := by
    have h0 : m.drop i = q :: m.drop (i + 1) := by
      rw [List.drop_eq_getElem_cons hi]; congr 1
      have := List.getElem?_eq_getElem hi
      rw [hq] at this; exact (Option.some.inj this).symm
    rw [← h0, List.take_append_drop]
  have hn : (m.take i).find? (fun q => decide (q.1 = key) && decide (g q.2 ≠ 0)) = none := by
    rw [List.find?_eq_none]; intro p hp; simp only [Bool.and_eq_true, decide_eq_true_eq, not_and]
    intro h1 h2; exact h2 (h p hp h1)
  unfold eBad
  rw [if_neg (by simp), e, List.find?_append, hn, Option.none_or, List.find?_cons_of_pos (by simp [hk, hb])]
  rfl
theorem eBad_none {key : ByteArray} {g : JV → Int} {m : List (ByteArray × JV)} (h : ∀ p ∈ m, p.1 = key → g p.2 = 0) (last : Bool) : eBad last key g m = 0 := by
  unfold eBad
  split
  · rfl
  · have hn : m.find? (fun q => decide (q.1 = key) && decide (g q.2 ≠ 0)) = none := by
      rw [List.find?_eq_none]; intro p hp; simp only [Bool.and_eq_true, decide_eq_true_eq, not_and]
      intro h1 h2; exact h2 (h p hp h1)
    rw [hn]; rfl
theorem jedM_bad (hl : r.isEmpty = last) (h4 : ¬ v.kind = 4) (h5 : v.kind = 5) (h : jfB v (ba nm) = true ∨ (op = 1 ∧ last = true)) {b : Int} (hb : eBad last (ba nm) (fun y => (jed op x r y).2) v.m = b) (hb0 : ¬ b = 0) : jed op x (nm :: r) v = (vz, b) := by
  subst hl; subst hb
  rw [jed, if_neg h4, if_neg (by simp only [h5, ne_eq, not_true, false_or]; rintro ⟨h1, h2⟩; rcases h with h | ⟨h, h'⟩; · rw [h1] at h; cases h
                                 · rcases h2 with h2 | h2; · exact h2 h
                                   · rw [h'] at h2; cases h2), if_pos hb0]
theorem jedM_ok (hl : r.isEmpty = last) (h4 : ¬ v.kind = 4) (h5 : v.kind = 5) (h : jfB v (ba nm) = true ∨ (op = 1 ∧ last = true)) (hb : eBad last (ba nm) (fun y => (jed op x r y).2) v.m = 0) :
    jed op x (nm :: r) v = (.mk v.kind v.b v.n v.s [] (eM last op (ba nm) x (fun y => (jed op x r y).1) v.m false), 0) := by
  subst hl
  rw [jed, if_neg h4, if_neg (by simp only [h5, ne_eq, not_true, false_or]; rintro ⟨h1, h2⟩; rcases h with h | ⟨h, h'⟩; · rw [h1] at h; cases h
                                 · rcases h2 with h2 | h2; · exact h2 h
                                   · rw [h'] at h2; cases h2), if_neg (by simp [hb])]
section
variable {y a : JV} {l : List JV} {i : Nat}
theorem eOld_end (h : l[i]? = none) : eOld last op k y l i = [] := by unfold eOld; rw [h]
theorem eOld_ne (h : l[i]? = some a) (hk : ¬ i = k) : eOld last op k y l i = [a] := by unfold eOld; rw [h]; simp only; rw [if_neg hk]
theorem eOld_ed (h : l[i]? = some a) (hk : i = k) (hl : last = false) : eOld last op k y l i = [y] := by unfold eOld; rw [h]; simp only; rw [if_pos hk, if_neg (by simp [hl])]
theorem eOld_keep (h : l[i]? = some a) (hl : last = true) (ho : op = 1) : eOld last op k y l i = [a] := by unfold eOld; rw [h]; simp only; split <;> simp [hl, ho]
theorem eOld_del (hk : i = k) (hl : last = true) (ho : ¬ op = 1) : eOld last op k y l i = [] := by unfold eOld; split <;> simp [hk, hl, ho]
end
theorem srow_tail (nm : BL) (r : List BL) : ((srow (nm :: r)).drop 1).take ((srow (nm :: r)).length - 1) = srow r := by
  simp only [srow, List.map_cons, List.drop_succ_cons, List.drop_zero, List.length_cons, Nat.add_sub_cancel]; rw [List.take_of_length_le (Nat.le_refl _)]
end Lg
namespace Lg
end Lg
namespace Lg
open Go
abbrev BJ := ByteArray × JV
variable {last : Bool} {op : Int} {key : ByteArray} {x : JV} {f : JV → JV} {m : List BJ} {i : Nat} {put : Bool} {q : BJ}
end Lg
namespace Lg
end Lg
namespace Lg
open Go
section
variable [GLay]
end
end Lg
namespace Lg
open Go
theorem vcells_ones [GLay] (v : JV) : ones (vcells v) = true := by rw [vcells_eq]; rfl
theorem lflat_ones [GLay] (l : List JV) : ones (lcells l).flatten = true := by
  rw [ones_iff]; intro a ha
  obtain ⟨e, he, h⟩ := List.mem_flatten.1 ha
  rw [lcells_eq] at he
  obtain ⟨x, _, rfl⟩ := List.mem_map.1 he
  exact (ones_iff _).1 (vcells_ones x) a h
end Lg
namespace Lg
open Go
def trE (nm : BL) : ByteArray := ⟨(Lib.trimS nm dgs).toArray⟩
theorem trE_iff {nm : BL} : trE nm = ⟨#[]⟩ ↔ runl (ba nm) 0 = nm.length := by
  rw [← aD_run, ← trim_nil]
  constructor
  · intro h
    have h1 : (trE nm).data.toList = [] := by rw [h]
    have h2 : (trE nm).data.toList = Lib.trimS nm dgs := by simp [trE]
    rw [← h2]; exact h1
  · intro h; unfold trE; rw [h]
def jget : List BL → JV → JV × Bool
  | [], v => (v, true)
  | nm :: r, v => if v.kind = 4 then (if jixO nm v.l.length false = true then jget r (v.l.getD (jixN nm v.l.length false).toNat vz) else (vz, false)) else
    if jfB v (ba nm) = true then jget r (jfD v (ba nm)) else (vz, false)
theorem jget_no4 {nm : BL} {r : List BL} {v : JV} (h4 : v.kind = 4) (h : jixO nm v.l.length false = false) : jget (nm :: r) v = (vz, false) := by rw [jget, if_pos h4, if_neg (by simp [h])]
theorem jget_4 {nm : BL} {r : List BL} {v a : JV} {k : Nat} (h4 : v.kind = 4) (h : jixO nm v.l.length false = true) (hk : jixN nm v.l.length false = k) (ha : v.l[k]? = some a) : jget (nm :: r) v = jget r a := by
  have e : v.l.getD (jixN nm v.l.length false).toNat vz = a := by rw [hk, Int.toNat_natCast, List.getD_eq_getElem?_getD, ha]; rfl
  rw [jget, if_pos h4, if_pos h, e]
theorem jget_no5 {nm : BL} {r : List BL} {v : JV} (h4 : ¬ v.kind = 4) (h : jfB v (ba nm) = false) : jget (nm :: r) v = (vz, false) := by rw [jget, if_neg h4, if_neg (by simp [h])]
theorem jget_5 {nm : BL} {r : List BL} {v : JV} (h4 : ¬ v.kind = 4) (h : jfB v (ba nm) = true) : jget (nm :: r) v = jget r (jfD v (ba nm)) := by rw [jget, if_neg h4, if_pos h]
theorem jix_nat {nm : BL} {n : Nat} (h : jixO nm n false = true) : ∃ k : Nat, jixN nm n false = k ∧ k < n := by
  unfold jixO jixN at *
  cases h1 : jidx nm n false with
  | none => rw [h1] at h; cases h
  | some k => exact ⟨k, rfl, (jidx_le h1).2 rfl⟩
theorem jget_jb [GLay] : ∀ (l : List BL) {v : JV}, jb v → jb (jget l v).1
  | [], v, h => h
  | nm :: r, v, h => by
    have hz : jb vz := jb_nil _ _ _ _ (Nat.zero_le _) (Nat.zero_le _)
    by_cases h4 : v.kind = 4
    · by_cases ho : jixO nm v.l.length false = true
      · obtain ⟨k, hk, hlt⟩ := jix_nat ho
        rw [jget_4 h4 ho hk (List.getElem?_eq_getElem hlt)]
        exact jget_jb r (lb_get ((jb_eq v).1 h).2.2.2.2.1 (List.getElem?_eq_getElem hlt))
      · rw [jget_no4 h4 (by simpa using ho)]; exact hz
    · by_cases ho : jfB v (ba nm) = true
      · rw [jget_5 h4 ho]; exact jget_jb r (jfD_jb h)
      · rw [jget_no5 h4 (by simpa using ho)]; exact hz
theorem jget_size [GLay] : ∀ (l : List BL) {v : JV} {n : Int}, jsize v ≤ n → 1 ≤ n → jsize (jget l v).1 ≤ n
  | [], v, n, h, _ => h
  | nm :: r, v, n, h, h1 => by
    have hz : jsize vz ≤ n := by have : jsize vz = 1 := jsize_nil _ _ _ _; omega
    by_cases h4 : v.kind = 4
    · by_cases ho : jixO nm v.l.length false = true
      · obtain ⟨k, hk, hlt⟩ := jix_nat ho
        rw [jget_4 h4 ho hk (List.getElem?_eq_getElem hlt)]
        have := lsize_mem (List.getElem?_eq_getElem hlt)
        have := jsize_eq v
        have := msize_nn v.m
        exact jget_size r (by omega) h1
      · rw [jget_no4 h4 (by simpa using ho)]; exact hz
    · by_cases ho : jfB v (ba nm) = true
      · rw [jget_5 h4 ho]; exact jget_size r (jfD_size h h1) h1
      · rw [jget_no5 h4 (by simpa using ho)]; exact hz
end Lg
set_option maxRecDepth 20000
set_option maxHeartbeats 4000000
namespace Lg
open Go Go.Proofs Go.RowKit
variable [GLay] 
end Lg
namespace Lg
open Go Go.RowKit
variable [GLay]
variable {P : Program} {N : Nat} {e : Env} {σ l : List AO} {Q : QA} {o : Oper}
theorem AVle.capA (p g sz off len cap : Nat) : AVle (.arrC p g sz off len cap) (.arr p g sz off len) := fun s v h => by
  cases h with
  | arrC _ _ _ _ _ _ _ h1 h =>
    refine .arr p g sz off len v h1 ?_
    unfold ArrAt at h ⊢
    cases hσ : s.σ[p]? with
    | none => rw [hσ] at h; exact h.elim
    | some x =>
      rw [hσ] at h
      cases x with
      | arr sz' g0 cs => exact ⟨h.1, fun e => ⟨(h.2 e).1, .inr ⟨cap, (h.2 e).2⟩⟩⟩
      | dead => trivial
      | _ => exact h.elim
theorem PW.anys {s : CS} (vs : List Value) : PW s (List.replicate vs.length .any) vs :=
  ⟨by simp, fun i c v h1 h2 => by
    rw [List.getElem?_replicate] at h1
    split at h1
    · cases h1; exact .any v
    · cases h1⟩
theorem PW.anysN {s : CS} {n : Nat} {vs : List Value} (h : vs.length = n) : PW s (List.replicate n .any) vs := h ▸ PW.anys vs
theorem splice_list {α : Type} {vs news : List α} {base i L : Nat} (h1 : i + news.length ≤ L) (h2 : base + L ≤ vs.length) :
    ((vs.take (base + i) ++ news ++ vs.drop (base + i + news.length)).drop base).take L = (((vs.drop base).take L).take i ++ news ++ ((vs.drop base).take L).drop (i + news.length)) := by
  apply List.ext_getElem?
  intro j
  simp only [List.getElem?_take, List.getElem?_drop, List.getElem?_append, List.length_append, List.length_take, List.length_drop]
  by_cases c0 : j < L
  · simp only [c0, if_true]
    by_cases c1 : j < i
    · simp only [show base + j < min (base + i) vs.length + news.length by omega, show base + j < min (base + i) vs.length by omega, show base + j < base + i by omega, show j < min i (min L (vs.length - base)) + news.length by omega,
        show j < min i (min L (vs.length - base)) by omega, c1, if_true]
    · by_cases c2 : j < i + news.length
      · simp only [show base + j < min (base + i) vs.length + news.length by omega, show ¬ base + j < min (base + i) vs.length by omega, show j < min i (min L (vs.length - base)) + news.length by omega,
          show ¬ j < min i (min L (vs.length - base)) by omega, if_true, if_false]
        congr 1; omega
      · simp only [show ¬ base + j < min (base + i) vs.length + news.length by omega, show ¬ j < min i (min L (vs.length - base)) + news.length by omega, if_false]
        rw [if_pos (by omega)]
        congr 1; omega
  · simp only [c0, if_false]
    rw [if_neg (by omega), if_neg (by omega)]
theorem PW.splice {s : CS} {cs ds : List AV} {us ws : List Value} (h : PW s cs us) (k : PW s ds ws) (i : Nat) : PW s (cs.take i ++ ds ++ cs.drop (i + ds.length)) (us.take i ++ ws ++ us.drop (i + ws.length)) := by
  rw [k.1]
  exact ((h.take i).append k).append (h.drop _)
theorem AWp_reveal {c : Code} (t p g sz n : Nat) {cs : List AV} (hl : lookO e.l t = some (.arr p g sz 0 n)) (hσ : σ[p]? = some (.arr sz g cs)) (hcs : cs.length = n * sz) (hn : n ≠ 0) (hsz : sz ≠ 0) (ht : t < N)
    (k : ∀ cap, n ≤ cap → AWp P N c (e.put (some t) (.arrC p (g + 1) sz 0 n cap)) (σ.set p (.arr sz (g + 1) (cs ++ List.replicate ((cap - n) * sz) .any))) Q) : AWp P N c e σ Q := fun s0 s a hs gd x he => by
  subst hs
  have hplt : p < s.σ.length := (List.getElem?_eq_some_iff.1 hσ).1
  have hv := he.tmps t
  rw [show e.look t = .arr p g sz 0 n from lookO_eq hl] at hv
  obtain ⟨_, ⟨A, hA, h0⟩ | ⟨cap, hA, hlc, hfit⟩⟩ := hv.inv_arr hσ
  · exact absurd h0 hn
  · rw [Nat.zero_add] at hfit
    have hlive : s.live p := by
      unfold CS.live; rw [hσ]
      show (s.μ p).tot ≠ 0
      have : 0 < cap * sz := Nat.mul_pos (by omega) (Nat.pos_of_ne_zero hsz)
      omega
    obtain ⟨_, vs, T, hb, ht0, h7, h8, hpv⟩ := gd.rep hσ hlive
    have hcn : n * sz + (cap - n) * sz = cap * sz := by rw [← Nat.add_mul]; congr 1; omega
    obtain ⟨s', e1, e2, g', x', hμ⟩ := gd.renew hσ (g' := g + 1) (by omega) (cs' := cs ++ List.replicate ((cap - n) * sz) .any) (s.μ p) (w' := s.w) (Nat.le_refl _) rfl rfl rfl (fun b _ _ => rfl)
      (.inr ⟨.inl ⟨rfl, hlive⟩, vs, T, hb, ht0, h7, by rw [List.length_append, List.length_replicate, hcs]; omega, by
        have h9 := hpv.append (PW.anysN (s := s) (n := (cap - n) * sz) (vs := ((vs.drop (s.μ p).base).drop cs.length).take ((cap - n) * sz)) (by simp; omega))
        rw [List.length_append, List.length_replicate, List.take_add]
        exact h9⟩)
    have hv' : V s' (.arrC p (g + 1) sz 0 n cap) (a.eval (.tmp t)) := by
      rw [hA]
      refine .arrC _ _ _ _ _ _ _ rfl (.mk (cs := cs ++ List.replicate ((cap - n) * sz) .any) (by rw [e1]; simp [hplt]) ⟨rfl, by rw [hμ], hlc, by rw [hμ, Nat.zero_add]; exact hfit⟩)
    have := k cap hlc s0 s' a e1 g' (x.trans x') (by
      have h1 := (he.mono gd x').put (some t) hv' (fun d hd => by cases hd; exact ht)
      rwa [put_self (by rw [he.size]; exact ht)] at h1)
    rwa [e2] at this
theorem op_capC {T E : TypeId} {x : Operand} {p g sz off len cap : Nat} {cs : List AV} {c : Array TypeId} (ho : o.op = .call { callee := .builtin .cap, args := #[x], argTypes := c }) (hc : c[0]? = some T) (hu : P.underlying T = some (.slice E))
    (hx : opO e x = some (.arrC p g sz off len cap)) (hσ : σ[p]? = some (.arr sz g cs)) : AOp P σ e o (.int .i64 cap) σ :=
  .of_run fun s a hs _ hv => by
    subst hs
    have h1 := (opO_eq hx ▸ hv x (by simp [ho, Op.operands, Call.operands])).inv_arrC hσ
    refine ⟨.int .i64 cap, ?_, .int _ _⟩
    simp [execOp, ho, resolve, invoke, builtin, h1.2.1, Builtin.cap_, hc, run_underlying hu, goInt]
theorem op_sliceC {T E : TypeId} {x : Operand} {lo hi : Option Operand} {sz p g off len cap : Nat} {cs : List AV} (l h : Int) (ho : o.op = .slice T x lo hi none) (hu : P.underlying T = some (.slice E))
    (hsz : ∀ w, (Go.sizeOf E).run P w = Result.ok sz w) (hx : opO e x = some (.arrC p g sz off len cap)) (hσ : σ[p]? = some (.arr sz g cs))
    (hl : bnd e 0 l lo) (hh : bnd e (len : Nat) h hi) (h0 : 0 ≤ l) (h1 : l ≤ h) (h2 : h ≤ cap) (h3 : l < cap) :
    AOp P σ e o (.arrC p g sz (off + l.toNat) (h.toNat - l.toNat) (cap - l.toNat)) σ :=
  .of_run fun s a hs _ hv => by
    subst hs
    have hxv := (opO_eq hx ▸ hv x (by simp [ho, Op.operands])).inv_arrC hσ
    have hl' := hl.ev (s := s) (a := a) (fun y hy => hv y (by subst hy; simp [ho, Op.operands]))
    have hh' := hh.ev (s := s) (a := a) (fun y hy => hv y (by subst hy; simp [ho, Op.operands]))
    obtain ⟨_, h5, h6, h7⟩ := hxv
    refine ⟨_, by simp only [execOp, ho, h5, Sem.run_bind, Option.map_none]; rw [run_slice_slice (cap := cap) hu hsz hl' hh' h0 h1 h2]; rfl, ?_⟩
    rw [if_neg (by omega)]
    refine .arrC p g sz _ _ _ _ rfl ?_
    unfold ArrAt; rw [hσ]
    refine ⟨Nat.le_refl _, fun _ => ⟨rfl, ?_, by omega, ?_⟩⟩
    · simp only [Option.map_some, add_none]; rw [Nat.add_mul, Nat.add_assoc]
    · rw [show off + l.toNat + (cap - l.toNat) = off + cap by omega]; exact h7
theorem run_copy {w : World} {t u ty E : TypeId} {sz m n dLen cap b off : Nat} {x : Value} {news cur : List Value} {T : TypeId} (ht : P.underlying t = some (.slice E)) (hsz : ∀ w, (Go.sizeOf E).run P w = Result.ok sz w) (hm : (Builtin.lenOf x).run P w = .ok m w) (hn : min m dLen = n)
    (hf : (Builtin.firstCells sz n x).run P w = .ok news.toArray w) (hb : w.heap[b]? = some (.cells cur.toArray T (0, 0))) (hfit : off + news.length ≤ cur.length) (h1 : ∀ v ∈ news, v.oneCell' = true) :
    (Builtin.copy_ #[t, u] ty #[.slice (some ⟨b, off, none⟩) dLen cap, x]).run P w = .ok (.int .i64 n) (w.setRow b (cur.take off ++ news ++ cur.drop (off + news.length)).toArray) := by
  have hst := run_storeCells_at P b off T news 0 cur.toArray w hb (by simpa using hfit) h1
  simp only [Nat.add_zero] at hst
  subst hn
  have e : Nat.min m dLen = min m dLen := rfl
  simp [Builtin.copy_, run_underlying ht, hsz, hm, e, hf, goInt, hst]
def SrcN (P : Program) (σ : List AO) (y : AV) (sz m n : Nat) (ds : List AV) : Prop :=
  ∀ (s : CS) (c : Value), s.σ = σ → Good s → V s y c → ∃ vs : List Value, PW s ds vs ∧ (Builtin.lenOf c).run P s.w = .ok m s.w ∧ (Builtin.firstCells sz n c).run P s.w = .ok vs.toArray s.w
theorem src_all {y : AV} {sz m : Nat} {ds : List AV} (h : srcv σ y = some (ds, m)) (hz : szv y sz) : SrcN P σ y sz m m ds := fun s c hs g hv => by
  subst hs
  obtain ⟨vs, h1, h2, h3⟩ := hv.src g h hz
  exact ⟨vs, h1, h2, h3 s.w rfl⟩
theorem src_arr {p g sz off len n : Nat} {cs : List AV} (hσ : σ[p]? = some (.arr sz g cs)) (hn : n ≤ len) (hfit : (off + len) * sz ≤ cs.length) : SrcN P σ (.arr p g sz off len) sz len n ((cs.drop (off * sz)).take (n * sz)) := fun s c hs gd hv => by
  subst hs
  have hfl : off * sz + len * sz ≤ cs.length := by rw [← Nat.add_mul]; exact hfit
  have hnl : n * sz ≤ len * sz := Nat.mul_le_mul_right _ hn
  have tk_some : ∀ (k : Nat) (ds : List AV), k ≤ ds.length → tk k ds = some (ds.take k) := by
    intro k
    induction k with
    | zero => intro ds _; simp [tk]
    | succ k ih =>
      intro ds h
      cases ds with
      | nil => simp at h
      | cons d ds => simp only [tk, ih ds (by simpa using h), Option.map_some, List.take_succ_cons]
  have hs1 : srcv s.σ (.arr p g sz off len) = some ((cs.drop (off * sz)).take (len * sz), len) := by
    simp only [srcv, hσ, if_true, tk_some _ _ (show len * sz ≤ (cs.drop (off * sz)).length by rw [List.length_drop]; omega), Option.map_some]
  have hs2 : srcv s.σ (.arr p g sz off n) = some ((cs.drop (off * sz)).take (n * sz), n) := by
    simp only [srcv, hσ, if_true, tk_some _ _ (show n * sz ≤ (cs.drop (off * sz)).length by rw [List.length_drop]; omega), Option.map_some]
  obtain ⟨vs1, _, hl1, _⟩ := V.src (P := P) gd hv hs1 (show szv _ sz from rfl)
  obtain ⟨_, ⟨A, hA, h0⟩ | ⟨cap, hA, hlc, hft⟩⟩ := hv.inv_arr hσ
  · subst h0
    have : n = 0 := by omega
    subst this
    obtain ⟨vs, h1, _, h3⟩ := V.src (P := P) gd hv hs1 (show szv _ sz from rfl)
    exact ⟨vs, h1, hl1, h3 s.w rfl⟩
  · have hv2 : V s (.arr p g sz off n) (.slice (some ⟨(s.μ p).b, (s.μ p).base + off * sz, none⟩) n cap) := by
      refine .arr _ _ _ _ _ _ rfl ?_
      unfold ArrAt; rw [hσ]
      exact ⟨Nat.le_refl _, fun _ => ⟨rfl, .inr ⟨cap, rfl, by omega, hft⟩⟩⟩
    obtain ⟨vs, h1, _, h3⟩ := V.src (P := P) gd hv2 hs2 (show szv _ sz from rfl)
    refine ⟨vs, h1, hl1, ?_⟩
    have h4 := h3 s.w rfl
    rw [hA]
    have e : ∀ q : Nat, Builtin.firstCells sz n (.slice (some ⟨(s.μ p).b, (s.μ p).base + off * sz, none⟩) q cap) = Builtin.firstCells sz n (.slice (some ⟨(s.μ p).b, (s.μ p).base + off * sz, none⟩) n cap) := fun q => rfl
    rw [e]; exact h4
theorem op_copyN {x y : Operand} {t u E : TypeId} {sz m n p g off len : Nat} {cs ds : List AV} {yv : AV} (ho : o.op = .call { callee := .builtin .copy, args := #[x, y], argTypes := #[t, u] }) (ht : P.underlying t = some (.slice E)) (hsz : ∀ w, (Go.sizeOf E).run P w = Result.ok sz w)
    (hx : opO e x = some (.arr p g sz off len)) (hσ : σ[p]? = some (.arr sz g cs)) (hlen : 0 < len) (hsz0 : sz ≠ 0) (hfit : (off + len) * sz ≤ cs.length) (hy : opO e y = some yv) (hsrc : SrcN P σ yv sz m n ds) (hn : min m len = n) (hds : ds.length = n * sz) (h1 : ∀ a ∈ ds, a.one = true ∨ a = .any)
    (hone : ∀ (s : CS) vs, PW s ds vs → Good s → s.σ = σ → (∃ c, V s yv c ∧ (Builtin.firstCells sz n c).run P s.w = .ok (List.toArray vs) s.w) → ∀ v ∈ vs, v.oneCell' = true) :
    AOp P σ e o (.int .i64 n) (σ.set p (.arr sz g (cs.take (off * sz) ++ ds ++ cs.drop (off * sz + ds.length)))) := by
  intro s a hs gd hv K Q hk _
  subst hs
  have hxv := (opO_eq hx ▸ hv x (by simp [ho, Op.operands, Call.operands])).inv_arr hσ
  have hyv := opO_eq hy ▸ hv y (by simp [ho, Op.operands, Call.operands])
  obtain ⟨_, ⟨A, hA, h0⟩ | ⟨cap, hA, hlc, hft⟩⟩ := hxv
  · omega
  · have hlive : s.live p := by
      unfold CS.live; rw [hσ]
      show (s.μ p).tot ≠ 0
      have : 0 < (off + cap) * sz := Nat.mul_pos (by omega) (Nat.pos_of_ne_zero hsz0)
      omega
    obtain ⟨_, vs, T, hb, ht0, h7, h8, hpv⟩ := gd.rep hσ hlive
    obtain ⟨ws, hp, hl, hf⟩ := hsrc s _ rfl gd hyv
    have hwl : ws.length = ds.length := hp.1
    have hnl : n * sz ≤ len * sz := Nat.mul_le_mul_right _ (by omega)
    have hfl : off * sz + len * sz ≤ cs.length := by rw [← Nat.add_mul]; exact hfit
    have hrun := run_copy (ty := o.type) (u := u) (dLen := len) (cap := cap) (b := (s.μ p).b) (off := (s.μ p).base + off * sz) (x := a.eval y) (news := ws) (cur := vs) (T := T) ht hsz hl hn hf hb (by omega) (hone s ws hp gd rfl ⟨_, hyv, hf⟩)
    have hsp := splice_list (vs := vs) (news := ws) (base := (s.μ p).base) (i := off * sz) (L := cs.length) (by omega) (by omega)
    have hps := hpv.splice hp (off * sz)
    have hcl : (cs.take (off * sz) ++ ds ++ cs.drop (off * sz + ds.length)).length = cs.length := by
      simp only [List.length_append, List.length_take, List.length_drop]; omega
    obtain ⟨s', e1, e2, g', x', hμ, hok⟩ := gd.setObj hσ hlive (o' := .arr sz g (cs.take (off * sz) ++ ds ++ cs.drop (off * sz + ds.length))) (.arr _ _ _ _ _ (Nat.le_refl _) fun _ => hcl.symm) rfl
      (vs := vs.take ((s.μ p).base + off * sz) ++ ws ++ vs.drop ((s.μ p).base + off * sz + ws.length)) ⟨ht0, by simp only [List.length_append, List.length_take, List.length_drop]; omega, by rw [hcl]; exact h8, by rw [hcl, hsp]; exact hps⟩
    refine wp_value (w' := s'.w) (cv := .int .i64 n) ?_ (hk _ _ s' ⟨rfl, e1⟩ g' x' (.int _ _))
    rw [e2]
    simp only [execOp, ho, resolve, invoke, builtin, Sem.run_bind, Sem.run_pure, Result.andThen_ok, List.map_toArray, List.map_cons, List.map_nil, hA]
    rw [hrun]; rfl
end Lg
