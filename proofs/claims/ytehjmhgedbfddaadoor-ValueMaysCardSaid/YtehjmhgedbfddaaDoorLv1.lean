import Derived.Test.YtehjmhgedbfddaaDoorLg19
set_option linter.unusedVariables false
set_option linter.unusedSimpArgs false
set_option linter.unusedSectionVars false
namespace Lg
open Go

/-! ### JSON values as data -/
structure JNum where
  neg : Bool := false
  digits : ByteArray := ⟨#[]⟩
  exp : Int := 0
inductive JV where
  | mk (kind : Int) (b : Bool) (n : JNum) (s : ByteArray) (l : List JV) (m : List (ByteArray × JV))
def JV.kind : JV → Int | .mk k _ _ _ _ _ => k
def JV.b : JV → Bool | .mk _ b _ _ _ _ => b
def JV.n : JV → JNum | .mk _ _ n _ _ _ => n
def JV.s : JV → ByteArray | .mk _ _ _ s _ _ => s
def JV.l : JV → List JV | .mk _ _ _ _ l _ => l
def JV.m : JV → List (ByteArray × JV) | .mk _ _ _ _ _ m => m

def ncells (n : JNum) : List AV := [.bool n.neg, .str n.digits, .int .i64 n.exp]
mutual
def vcells : JV → List AV
  | .mk k b n s l m => [.int .i64 k, .bool b, .bool n.neg, .str n.digits, .int .i64 n.exp, .str s, .sl false 8 (lcells l), .sl false 9 (mcells m)]
def lcells : List JV → List (List AV)
  | [] => []
  | v :: r => vcells v :: lcells r
def mcells : List (ByteArray × JV) → List (List AV)
  | [] => []
  | (k, v) :: r => (.str k :: vcells v) :: mcells r
end
theorem vcells_eq (v : JV) : vcells v = [.int .i64 v.kind, .bool v.b, .bool v.n.neg, .str v.n.digits, .int .i64 v.n.exp, .str v.s, .sl false 8 (lcells v.l), .sl false 9 (mcells v.m)] := by
  cases v; simp [vcells, JV.kind, JV.b, JV.n, JV.s, JV.l, JV.m]
theorem lcells_eq : ∀ l : List JV, lcells l = l.map vcells
  | [] => by simp [lcells]
  | v :: r => by simp [lcells, lcells_eq r]
theorem mcells_eq : ∀ l : List (ByteArray × JV), mcells l = l.map fun q => .str q.1 :: vcells q.2
  | [] => by simp [mcells]
  | (k, v) :: r => by simp [mcells, mcells_eq r]
theorem lcells_length (l : List JV) : (lcells l).length = l.length := by simp [lcells_eq]
theorem mcells_length (l : List (ByteArray × JV)) : (mcells l).length = l.length := by simp [mcells_eq]
theorem lcells_get {l : List JV} {i : Nat} {v : JV} (h : l[i]? = some v) : (lcells l)[i]? = some (vcells v) := by simp [lcells_eq, h]
theorem mcells_get {l : List (ByteArray × JV)} {i : Nat} {q : ByteArray × JV} (h : l[i]? = some q) : (mcells l)[i]? = some (.str q.1 :: vcells q.2) := by simp [mcells_eq, h]
mutual
theorem vcells_lt (n : Nat) : ∀ v : JV, AV.ltL n (vcells v)
  | .mk k b nn s l m => by
    simp only [vcells, AV.ltL, AV.lt, and_true, true_and]
    exact ⟨lcells_lt n l, mcells_lt n m⟩
theorem lcells_lt (n : Nat) : ∀ l : List JV, AV.ltLL n (lcells l)
  | [] => by simp [lcells, AV.ltLL]
  | v :: r => by simp only [lcells, AV.ltLL]; exact ⟨vcells_lt n v, lcells_lt n r⟩
theorem mcells_lt (n : Nat) : ∀ l : List (ByteArray × JV), AV.ltLL n (mcells l)
  | [] => by simp [mcells, AV.ltLL]
  | (k, v) :: r => by simp only [mcells, AV.ltLL, AV.ltL, AV.lt, true_and]; exact ⟨vcells_lt n v, mcells_lt n r⟩
end
attribute [simp] vcells_lt lcells_lt mcells_lt

/-! ### The walk's plain functions -/
mutual
def jsize : JV → Int
  | .mk _ _ _ _ l m => 1 + lsize l + msize m
def lsize : List JV → Int
  | [] => 0
  | v :: r => jsize v + lsize r
def msize : List (ByteArray × JV) → Int
  | [] => 0
  | (_, v) :: r => jsize v + msize r
end
theorem jsize_eq (v : JV) : jsize v = 1 + lsize v.l + msize v.m := by cases v; simp [jsize, JV.l, JV.m]
mutual
theorem jsize_pos : ∀ v : JV, 1 ≤ jsize v
  | .mk _ _ _ _ l m => by have := lsize_nn l; have := msize_nn m; simp only [jsize]; omega
theorem lsize_nn : ∀ l : List JV, 0 ≤ lsize l
  | [] => by simp [lsize]
  | v :: r => by have := jsize_pos v; have := lsize_nn r; simp only [lsize]; omega
theorem msize_nn : ∀ l : List (ByteArray × JV), 0 ≤ msize l
  | [] => by simp [msize]
  | (k, v) :: r => by have := jsize_pos v; have := msize_nn r; simp only [msize]; omega
end
end Lg
