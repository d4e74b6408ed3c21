import Derived.Test.YtehjmhgedbfddaaDoorLg20
import Derived.Laws.IdiomStrings
import Derived.Laws.BytesArg
set_option linter.unusedVariables false
set_option linter.unusedSimpArgs false
set_option linter.unusedSectionVars false
namespace Lg
open Go Go.RowKit
variable [GLay]
variable {P : Program} {N : Nat} {σ : List AO} {e : Env} {Q : QA} {ops : Array Oper} {o : Oper}

/-! ### Bytes and strings -/
def bcells (b : ByteArray) : List AV := b.data.toList.map fun u => .int .u8 u.toNat
theorem bcells_nil {b : ByteArray} (h : bcells b = []) : b = ByteArray.empty := by
  cases b; rename_i d
  have h1 : d.toList = [] := by simpa [bcells] using h
  have h2 : d = #[] := Array.ext' (by rw [h1])
  subst h2; rfl
theorem bcells_length (b : ByteArray) : (bcells b).length = b.data.toList.length := by simp [bcells]
theorem op_bytesStr {S T E : TypeId} {x : Operand} {m : Nat} {b : ByteArray} (ho : o.op = .convert S T x) (hs : P.underlying S = some (.slice E)) (he : P.underlying E = some (.int .u8)) (hd : P.underlying T = some .string)
    (hx : srcv σ (opv e x) = some (bcells b, m)) (hsz : szv (opv e x) 1) (hns : isStr (opv e x) = false) : AOp P σ e o (.str b) σ :=
  .of_run fun s a hσ g hv => by
    subst hσ
    have h1 := hv x (by simp [ho, Op.operands])
    obtain ⟨vs, hp, hl, hf⟩ := V.src (P := P) g h1 hx hsz
    have hvs : vs = b.data.toList.map fun u => Value.int .u8 u.toNat := by
      apply List.ext_getElem?
      intro i
      by_cases hi : i < b.data.toList.length
      · have hi' : i < vs.length := by rw [hp.1]; simpa [bcells] using hi
        have h2 := hp.2 i (.int .u8 (b.data.toList[i]).toNat) vs[i] (by simp [bcells, List.getElem?_eq_getElem hi]) (List.getElem?_eq_getElem hi')
        rw [List.getElem?_eq_getElem hi', List.getElem?_map, List.getElem?_eq_getElem hi, h2.inv_int]
        rfl
      · rw [List.getElem?_eq_none (by rw [hp.1]; simp [bcells] at hi ⊢; omega), List.getElem?_eq_none (by simp at hi ⊢; omega)]
    have hm : (vs.length : Nat) = b.data.toList.length := by rw [hvs]; simp
    refine ⟨.string b, ?_, .str _⟩
    have key : (convert S T (a.eval x)).run P s.w = .ok (.string b) s.w := by
      have h3 := hf s.w rfl
      cases hc : opv e x with
      | str => rw [hc] at hns; cases hns
      | nils =>
        rw [hc] at h1 hx
        rw [h1.inv_nils, run_convert_bytes_string s.w S T E _ _ _ hs he hd]
        simp [srcv] at hx
        have : b = ByteArray.empty := bcells_nil hx.1
        subst this
        simp [Conv.bytesToString]
      | sl f z es =>
        rw [hc] at h1 hx hsz
        have hz : z = 1 := hsz
        subst hz
        rcases h1.inv_sl with ⟨ad, h4, hes⟩ | ⟨bb, off, cap, us, h4, _, hel, hcc, hpp, _⟩
        · subst hes
          rw [h4, run_convert_bytes_string s.w S T E _ _ _ hs he hd]
          simp [srcv] at hx
          have : b = ByteArray.empty := bcells_nil hx.1
          subst this
          cases ad with
          | none => simp [Conv.bytesToString]
          | some ad => rw [run_bytesToString s.w ad 0 0 [] (by simp [loadCells, loadCellsFrom])]; rfl
        · rw [h4]
          simp [srcv] at hx
          have hus : us = vs := by
            have h5 := hpp.1
            apply List.ext_getElem?
            intro i
            have hlen : us.length = b.data.toList.length := by rw [h5, hx.1]; simp [bcells]
            by_cases hi : i < b.data.toList.length
            · have h6 := hpp.2 i (.int .u8 (b.data.toList[i]).toNat) us[i] (by rw [hx.1]; simp [bcells, List.getElem?_eq_getElem hi]) (List.getElem?_eq_getElem (by omega))
              rw [List.getElem?_eq_getElem (by omega), h6.inv_int, hvs, List.getElem?_map, List.getElem?_eq_getElem hi]; rfl
            · rw [List.getElem?_eq_none (by omega), List.getElem?_eq_none (by omega)]
          have hfl : es.flatten.length = es.length * 1 := flatten_len hel
          have hlen : es.length = b.data.toList.length := by have := hpp.1; rw [hus, hm] at this; omega
          rw [hlen]
          refine run_convert_bytes_back s.w S T E _ cap b.data.toList hs he hd fun j hj => ?_
          rw [add_none]
          exact hcc j _ (by rw [hus, hvs, List.getElem?_map, List.getElem?_eq_getElem hj]; rfl)
      | arr p gg z off len =>
        rw [hc] at h1 hx hsz
        have hz : z = 1 := hsz
        subst hz
        simp only [srcv] at hx
        split at hx
        · rename_i sz' g' cs hσ
          split at hx
          · rename_i hgg
            subst hgg
            simp only [Option.map_eq_some_iff, Prod.mk.injEq] at hx
            obtain ⟨ds, hd1, hd2, rfl⟩ := hx
            obtain ⟨hd3, hd4⟩ := tk_eq hd1
            obtain ⟨_, hcase⟩ := h1.inv_arr hσ
            rcases hcase with ⟨ad, h4, rfl⟩ | ⟨cap, h4, h5, h6⟩
            · rw [h4, run_convert_bytes_string s.w S T E _ _ _ hs he hd]
              have : b = ByteArray.empty := bcells_nil (by rw [← hd2, hd3]; simp)
              subst this
              cases ad with
              | none => simp [Conv.bytesToString]
              | some ad => rw [run_bytesToString s.w ad 0 0 [] (by simp [loadCells, loadCellsFrom])]; rfl
            · rw [h4]
              have hlen : len = b.data.toList.length := by
                have h7 : ds.length = len * 1 := by rw [hd3, List.length_take]; omega
                rw [hd2, bcells_length] at h7; omega
              rcases g.obj p _ hσ with ⟨h8, h9⟩ | ⟨_, _, ws, T', h8, h9, h10, h11⟩
              · have h0 : len = 0 := by rw [h9] at hd4; simp at hd4; omega
                subst h0
                have : b.data.toList = [] := List.eq_nil_of_length_eq_zero hlen.symm
                have hb : b = ByteArray.empty := bcells_nil (by simp [bcells, this])
                subst hb
                rw [run_convert_bytes_string s.w S T E _ _ _ hs he hd, run_bytesToString s.w _ 0 _ [] (by simp [loadCells, loadCellsFrom])]; rfl
              · rw [hlen]
                refine run_convert_bytes_back s.w S T E _ cap b.data.toList hs he hd fun j hj => ?_
                rw [add_none]
                have hj2 : ds[j]? = some (.int .u8 (b.data.toList[j]).toNat) := by rw [hd2]; simp [bcells, List.getElem?_eq_getElem hj]
                have hj3 : cs[off + j]? = some (.int .u8 (b.data.toList[j]).toNat) := by
                  rw [hd3, List.getElem?_take] at hj2
                  split at hj2
                  · rw [List.getElem?_drop] at hj2; simpa using hj2
                  · cases hj2
                obtain ⟨v, hv1, hv2⟩ := h11.get hj3
                rw [hv2.inv_int] at hv1
                rw [List.getElem?_take] at hv1
                split at hv1
                · rw [List.getElem?_drop] at hv1
                  simp only [World.cell?, h8]
                  have : (s.μ p).base + off * 1 + j = (s.μ p).base + (off + j) := by omega
                  simp only [this]
                  simpa using hv1
                · cases hv1
          · cases hx
        · cases hx
      | _ => rw [hc] at hx; simp [srcv] at hx
    simp [execOp, ho, key]
end Lg
