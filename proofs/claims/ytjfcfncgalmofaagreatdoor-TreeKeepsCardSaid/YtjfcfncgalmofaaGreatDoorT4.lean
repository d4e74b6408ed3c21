/- A part of the proof of The tree's Apply, and what the reference says of it: the same answer and the same tree.: Lp3 Lp4 Lp5 Lp6 Lp7 Lg29 Lg30 Lg31 Lg32 Lg33 Lg34 Lg43 Ln1 Ln2 Ln3 Ln4 Ln5 Ln6 Ln7 Ln8 Lq1 Lk1 Lk2 Lk3 Lk4 Lk5 Lg44 Lk6 Lk7 Lg45 Lk9 Lt1 Lg46 Lt2 Lt3 Lg47 Lg48 Lg49 Lg53. -/
import Derived.Test.YtjfcfncgalmofaaGreatDoorT3
import Derived.Test.YtjfcfncgalmofaaGreatDoorT2
import Derived.Lib.Builder
import Derived.Lib.UnsafeStr
import Derived.Laws.Externs
import Derived.Laws.Shifts
import Derived.Lib.ItoaNum
import Derived.Lib.Atoi
import Derived.MapKept
import Derived.Laws.CopyRow
import Derived.Lib.Overlaps
set_option linter.unusedVariables false
set_option linter.unusedSimpArgs false
set_option linter.unusedSectionVars false
namespace Lg
open Go
structure NSt where
 neg:Bool
 down:Bool
 point:Bool
 power:Bool
 digits:ByteArray
 behind:Int
 exp:Int
def Fu:NSt:=⟨false,false,false,false,e0,0,0⟩
def ZK (c:Nat) (t:NSt):NSt:=
 if t.power=true then { t with down:=if c=45 then true else t.down,exp:=if 48≤c∧c≤57 then min (10 * t.exp+c - 48) 1000000 else t.exp}
 else if c=45 then { t with neg:=true} else if c=46 then { t with point:=true} else if c=101∨c=69 then { t with power:=true}
 else { t with digits:=t.digits++⟨#[u8b (c:Int)]⟩,behind:=if t.point=true then t.behind+1 else t.behind}
def nloop (s:ByteArray) (i:Nat) (t:NSt):NSt:=if i < s.size then nloop s (i+1) (ZK (bat s i).toNat t) else t
termination_by s.size - i
section
variable {s:ByteArray} {i:Nat} {ng dn pt pw:Bool} {d:ByteArray} {b x:Int}
theorem nl0 {t:NSt} (h:s.size≤i):nloop s i t=t:=by rw [nloop,if_neg (by omega)]
theorem nl1 (h:i < s.size) (hc:(bat s i).toNat=45):nloop s i ⟨ng,dn,pt,true,d,b,x⟩=nloop s (i+1) ⟨ng,true,pt,true,d,b,x⟩:=by
 rw [nloop.eq_1 s i,if_pos h];congr 1;simp [ZK,hc]
theorem nl2 (h:i < s.size) (hc:48≤(bat s i).toNat∧(bat s i).toNat≤57):nloop s i ⟨ng,dn,pt,true,d,b,x⟩=nloop s (i+1) ⟨ng,dn,pt,true,d,b,min (10 * x+(bat s i).toNat - 48) 1000000⟩:=by
 rw [nloop.eq_1 s i,if_pos h];congr 1;simp [ZK,hc];omega
theorem nl3 (h:i < s.size) (h1:¬(bat s i).toNat=45) (hc:¬(48≤(bat s i).toNat∧(bat s i).toNat≤57)):nloop s i ⟨ng,dn,pt,true,d,b,x⟩=nloop s (i+1) ⟨ng,dn,pt,true,d,b,x⟩:=by
 rw [nloop.eq_1 s i,if_pos h];congr 1;simp only [ZK,h1,hc,if_true,if_false]
theorem nl4 (h:i < s.size) (hc:(bat s i).toNat=45):nloop s i ⟨ng,dn,pt,false,d,b,x⟩=nloop s (i+1) ⟨true,dn,pt,false,d,b,x⟩:=by
 rw [nloop.eq_1 s i,if_pos h];congr 1;simp [ZK,hc]
theorem nl5 (h:i < s.size) (hc:(bat s i).toNat=46):nloop s i ⟨ng,dn,pt,false,d,b,x⟩=nloop s (i+1) ⟨ng,dn,true,false,d,b,x⟩:=by
 rw [nloop.eq_1 s i,if_pos h];congr 1;simp [ZK,hc]
theorem nl6 (h:i < s.size) (hc:(bat s i).toNat=101∨(bat s i).toNat=69):nloop s i ⟨ng,dn,pt,false,d,b,x⟩=nloop s (i+1) ⟨ng,dn,pt,true,d,b,x⟩:=by
 rw [nloop.eq_1 s i,if_pos h];congr 1;have h1:¬(bat s i).toNat=45:=by omega
 have h2:¬(bat s i).toNat=46:=by omega
 simp [ZK,h1,h2,hc]
theorem nl7 (h:i < s.size) (h1:¬(bat s i).toNat=45) (h2:¬(bat s i).toNat=46) (hc:¬((bat s i).toNat=101∨(bat s i).toNat=69)):nloop s i ⟨ng,dn,true,false,d,b,x⟩=nloop s (i+1) ⟨ng,dn,true,false,d++⟨#[u8b ((bat s i).toNat:Int)]⟩,b+1,x⟩:=by
 rw [nloop.eq_1 s i,if_pos h];congr 1;simp [ZK,h1,h2,hc]
theorem nl8 (h:i < s.size) (h1:¬(bat s i).toNat=45) (h2:¬(bat s i).toNat=46) (hc:¬((bat s i).toNat=101∨(bat s i).toNat=69)):nloop s i ⟨ng,dn,false,false,d,b,x⟩=nloop s (i+1) ⟨ng,dn,false,false,d++⟨#[u8b ((bat s i).toNat:Int)]⟩,b,x⟩:=by
 rw [nloop.eq_1 s i,if_pos h];congr 1;simp [ZK,h1,h2,hc]
end
section
variable [GLay] {P:Program} {σ:List AO} {e:Env} {o:Oper}
theorem Q7Y {T:TypeId} {x:Operand} {n:Int} (ho:o.op= .unOp .neg T x) (hx:opv e x= .int .i64 n) (h1: -9223372036854775808≤ -n) (h2: -n≤9223372036854775807):AOp P σ e o (.int .i64 (-n)) σ:=by
 have:=QcA (P:=P) (σ:=σ) ho hx
 rw [Int.zero_sub,Yp h1 h2] at this
 exact this
end
def fz (d:ByteArray) (i:Nat):Nat:=if i < d.size∧(bat d i).toNat=48 then fz d (i+1) else i
termination_by d.size - i
def lz (d:ByteArray) (f:Nat):Nat→Nat
 |0=>0
 |l+1=>if f < l+1∧(bat d l).toNat=48 then lz d f l else l+1
theorem Q7a {d:ByteArray} {i:Nat} (h:i < d.size) (h1:(bat d i).toNat=48):fz d i=fz d (i+1):=by rw [fz.eq_1 d i,if_pos ⟨h,h1⟩]
theorem Q79 {d:ByteArray} {i:Nat} (h:¬(i < d.size∧(bat d i).toNat=48)):fz d i=i:=by rw [fz.eq_1 d i,if_neg h]
theorem Q7z {d:ByteArray} {f l:Nat} (h:f < l) (h1:(bat d (l - 1)).toNat=48):lz d f l=lz d f (l - 1):=by
 cases l with
 |zero=>omega
 |succ l=>rw [lz,if_pos ⟨h,by simpa using h1⟩];rfl
theorem Q4i {d:ByteArray} {f l:Nat} (h:¬(f < l∧(bat d (l - 1)).toNat=48)) (hf:f≤l):lz d f l=l:=by
 cases l with
 |zero=>rfl
 |succ l=>rw [lz,if_neg (by simpa using h)]
def Q7I (t:NSt):Int:=if t.down=true then -t.exp else t.exp
def nF (t:NSt):Nat:=fz t.digits 0
def nL (t:NSt):Nat:=lz t.digits (nF t) t.digits.size
def nOf (t:NSt):JNum:=⟨t.neg,t.digits.extract (nF t) (nL t),Q7I t - t.behind+((t.digits.size:Int) - nL t)⟩
open Classical in
noncomputable def YH (s:ByteArray):JNum×Int:=
 if (QY s 0).2=false∨¬(QY s 0).1=s.size then ({},1) else
 if nF (nloop s 0 Fu)=nL (nloop s 0 Fu) then ({},0) else
 if NumMay (nOf (nloop s 0 Fu)) then (nOf (nloop s 0 Fu),0) else ({},5)
theorem Q8j (s:ByteArray):NumMay (YH s).1:=by
 unfold YH
 have h0:NumMay {}:=.inl ⟨rfl,rfl,rfl⟩
 repeat' split
 all_goals first|exact h0|assumption
theorem NumMay.size {n:JNum} (h:NumMay n):n.digits.size≤60:=by
 rcases h with ⟨h,_⟩|⟨_,_,h,_⟩
 ·rw [h];exact Nat.zero_le _
 ·exact h
end Lg
namespace Lg
open Go Go.Lib
def u8L (l:List UInt8):Nat:=u8N l.length (l.getD 0 0).toNat (l.getD 1 0).toNat (l.getD 2 0).toNat (l.getD 3 0).toNat
theorem Jj (l:List UInt8) (hne:l ≠ []):validD l=if u8L l=0 then false else validD (l.drop (u8L l)):=by
 rw [validD_step _ hne]
 have hw:=decodeL_width l
 rw [decodeL_N] at hw ⊢
 unfold u8L u8N
 by_cases hc:(decodeN l.length (l.getD 0 0).toNat (l.getD 1 0).toNat (l.getD 2 0).toNat (l.getD 3 0).toNat).1=65533∧(decodeN l.length (l.getD 0 0).toNat (l.getD 1 0).toNat (l.getD 2 0).toNat (l.getD 3 0).toNat).2=1
 ·rw [if_pos hc,if_pos hc,if_pos rfl]
 ·rw [if_neg hc,if_neg hc,if_neg (by omega)]
theorem Qb0 {n b0 b1 b2 b3 n' c0 c1 c2 c3 w:Nat} (hb0:b0 < 256) (h:u8N n b0 b1 b2 b3=w) (hw:w ≠ 0) (hl:w≤n') (h0:c0=b0) (h1:1 < w→c1=b1) (h2:2 < w→c2=b2) (h3:3 < w→c3=b3) (hn:1≤n):
  u8N n' c0 c1 c2 c3=w∧w≤n:=by
 subst h0
 by_cases k0:c0 < 128
 ·rw [X1 k0] at h;subst h;exact ⟨X1 k0,hn⟩
 by_cases k1:c0 < 192∨248≤c0
 ·rw [X8 (by omega) hb0] at h;exact absurd h.symm hw
 by_cases k2:c0 < 224
 ·rw [ZV (by omega) k2] at h
  split at h
  ·subst h
   have:=h1 (by omega);subst this
   rw [ZV (by omega) k2,if_pos (by omega)];omega
  ·exact absurd h.symm hw
 by_cases k3:c0 < 240
 ·rw [ZW (by omega) k3 rfl] at h
  split at h
  ·subst h
   have:=h1 (by omega);subst this
   have:=h2 (by omega);subst this
   rw [ZW (by omega) k3 rfl,if_pos (by omega)];omega
  ·exact absurd h.symm hw
 ·rw [ZX (by omega) (by omega) rfl] at h
  split at h
  ·subst h
   have:=h1 (by omega);subst this
   have:=h2 (by omega);subst this
   have:=h3 (by omega);subst this
   rw [ZX (by omega) (by omega) rfl,if_pos (by omega)];omega
  ·exact absurd h.symm hw
theorem Q1p {L L':List UInt8} (hne:L ≠ []) (hw:u8L L ≠ 0) (hl:u8L L≤L'.length) (hp:∀ k,k < u8L L→L'.getD k 0=L.getD k 0):u8L L'=u8L L∧u8L L≤L.length:=by
 have hn:1≤L.length:=by cases L with
  |nil=>exact absurd rfl hne
  |cons=>simp
 exact Qb0 (L.getD 0 0).toNat_lt (rfl:u8L L=u8L L) hw hl (by rw [hp 0 (by omega)]) (fun h=>by rw [hp 1 h]) (fun h=>by rw [hp 2 h]) (fun h=>by rw [hp 3 h]) hn
theorem Q3M (m:List UInt8) (hm:validD m=true):∀ (n:Nat) (l:List UInt8),l.length≤n→validD l=true→validD (l++m)=true:=by
 intro n
 induction n with
 |zero=>intro l hl _;have:l=[]:=List.eq_nil_of_length_eq_zero (by omega);subst this;exact hm
 |succ n ih=>
  intro l hl h
  by_cases hne:l=[]
  ·subst hne;exact hm
  rw [Jj l hne] at h
  split at h
  ·cases h
  ·rename_i hw
   have hle:=(Q1p hne hw (L':=l++List.replicate (u8L l) 0) (by simp) (fun k hk=>by
    by_cases hkl:k < l.length
    ·simp [List.getD_eq_getElem?_getD,List.getElem?_append_left hkl]
    ·simp only [List.getD_eq_getElem?_getD]
     rw [List.getElem?_append_right (by omega),List.getElem?_eq_none (l:=l) (by omega)]
     rw [List.getElem?_replicate];split<;>rfl)).2
   have he:=(Q1p hne hw (L':=l++m) (by simp;omega) (fun k hk=>by
    simp [List.getD_eq_getElem?_getD,List.getElem?_append_left (show k < l.length by omega)])).1
   rw [Jj (l++m) (by simp [hne]),he,if_neg hw,List.drop_append_of_le_length hle]
   exact ih _ (by rw [List.length_drop];omega) h
theorem Utf.app {a b:ByteArray} (ha:Utf a) (hb:Utf b):Utf (a++b):=by
 unfold Utf at *
 have:(a++b).data.toList=a.data.toList++b.data.toList:=by simp
 rw [this]
 exact Q3M _ hb _ _ (Nat.le_refl _) ha
theorem H3 (s:ByteArray) (i:Nat):u8L (s.data.toList.drop i)=u8 s i:=by
 have hg:∀ k,(s.data.toList.drop i).getD k 0=bat s (i+k):=fun k=>by simp [bat,List.getD,List.getElem?_drop]
 unfold u8L u8
 rw [hg,hg,hg,hg,List.length_drop,Array.length_toList];rfl
theorem Utf.ext {s:ByteArray} {i:Nat} (h:i < s.size) (hu:¬u8 s i=0):Utf (s.extract i (i+u8 s i)):=by
 have hne:s.data.toList.drop i ≠ []:=by
  intro e
  have:=congrArg List.length e
  rw [List.length_drop,Array.length_toList] at this
  have h':i < s.data.size:=h
  simp at this;omega
 have hle:=QbE h
 have hsz:s.data.size=s.size:=rfl
 have hlist:(s.extract i (i+u8 s i)).data.toList=(s.data.toList.drop i).take (u8 s i):=by
  simp [ByteArray.data_extract,List.extract_eq_take_drop]
 have hlen:((s.data.toList.drop i).take (u8 s i)).length=u8 s i:=by simp;omega
 unfold Utf
 rw [hlist]
 have he:=(Q1p hne (by rw [H3];exact hu) (L':=(s.data.toList.drop i).take (u8 s i)) (by rw [hlen,H3];exact Nat.le_refl _) (fun k hk=>by
  rw [H3] at hk
  simp only [List.getD_eq_getElem?_getD,List.getElem?_take,hk,if_true])).1
 rw [H3] at he
 rw [Jj _ (fun e=>by rw [e] at hlen;simp at hlen;omega),he,if_neg hu,List.drop_eq_nil_of_le (by omega)]
 rfl
theorem YQ {n:Int} (h0:0≤n) (h1:n < 256):(u8b n).toNat=n.toNat:=by
 have:=Xs h0 h1;omega
theorem Utf.char {v:Int} (h0:0≤v) (h1:v < 1114112) (h2:¬(55296≤v∧v < 57344)):Utf (Y9 v):=by
 unfold Utf Y9
 split
 ·show validD [u8b v]=true
  rw [validD_cons _ _ (by rw [YQ h0 (by omega)];omega)];rfl
 split
 ·show validD [u8b (192+v / 64),u8b (128+v % 64)]=true
  have e:u8L [u8b (192+v / 64),u8b (128+v % 64)]=2:=by
   show u8N 2 (u8b (192+v / 64)).toNat (u8b (128+v % 64)).toNat 0 0=2
   rw [YQ (by omega) (by omega),YQ (by omega) (by omega),ZV (by omega) (by omega),if_pos (by omega)]
  rw [Jj _ (by simp),e];rfl
 split
 ·show validD [u8b (224+v / 4096),u8b (128+v / 64 % 64),u8b (128+v % 64)]=true
  have e:u8L [u8b (224+v / 4096),u8b (128+v / 64 % 64),u8b (128+v % 64)]=3:=by
   show u8N 3 (u8b (224+v / 4096)).toNat (u8b (128+v / 64 % 64)).toNat (u8b (128+v % 64)).toNat 0=3
   rw [YQ (by omega) (by omega),YQ (by omega) (by omega),YQ (by omega) (by omega),ZW (by omega) (by omega) rfl,if_pos (by omega)]
  rw [Jj _ (by simp),e];rfl
 ·show validD [u8b (240+v / 262144),u8b (128+v / 4096 % 64),u8b (128+v / 64 % 64),u8b (128+v % 64)]=true
  have e:u8L [u8b (240+v / 262144),u8b (128+v / 4096 % 64),u8b (128+v / 64 % 64),u8b (128+v % 64)]=4:=by
   show u8N 4 (u8b (240+v / 262144)).toNat (u8b (128+v / 4096 % 64)).toNat (u8b (128+v / 64 % 64)).toNat (u8b (128+v % 64)).toNat=4
   rw [YQ (by omega) (by omega),YQ (by omega) (by omega),YQ (by omega) (by omega),YQ (by omega) (by omega),ZX (by omega) (by omega) rfl,if_pos (by omega)]
  rw [Jj _ (by simp),e];rfl
theorem Qc3 {c b:Nat} (h:esc c=some b):b < 128:=by
 unfold esc at h
 rw [Option.map_eq_some_iff] at h
 obtain ⟨q,hq,rfl⟩:=h
 have:=List.mem_of_find?_eq_some hq
 revert this
 have:∀ q∈escL,q.2 < 128:=by decide
 exact this q
theorem Utf.asc {b:Nat} (h:b < 128):Utf ⟨#[UInt8.ofNat b]⟩:=by
 unfold Utf
 show validD [UInt8.ofNat b]=true
 rw [validD_cons _ _ (by rw [UInt8.toNat_ofNat'];omega)];rfl
def UOK (s:ByteArray) (a:Nat) (u:UR):Prop:=(u.bad=0∧0≤u.n∧(a:Int)+u.n≤s.size∧Utf u.s∧(u.s.size:Int)≤u.n)∨((u.bad=1∨u.bad=2)∧u.n=0∧u.s=e0)
theorem Qb1 (s:ByteArray) (a:Nat):∀ (k i:Nat) (out:ByteArray),s.size - i≤k→a < i→Utf out→out.size≤i - a→UOK s a (XP s a i out):=by
 intro k
 induction k with
 |zero=>intro i out hk hi hu ho;rw [Fe (by omega)];exact .inr ⟨.inl rfl,rfl,rfl⟩
 |succ k ih=>
  intro i out hk hi hu ho
  by_cases h:s.size≤i
  ·rw [Fe h];exact .inr ⟨.inl rfl,rfl,rfl⟩
  by_cases h1:(bat s i).toNat=34
  ·rw [Q98 (by omega) h1];exact .inl ⟨rfl,by dsimp only;omega,by dsimp only;omega,hu,by dsimp only;omega⟩
  by_cases h2:(bat s i).toNat < 32
  ·rw [Q2H (by omega) h2];exact .inr ⟨.inl rfl,rfl,rfl⟩
  by_cases h3:(bat s i).toNat=92
  ·by_cases h4:i+1=s.size
   ·rw [Q0d h4 h3];exact .inr ⟨.inl rfl,rfl,rfl⟩
   by_cases h5:(bat s (i+1)).toNat=117
   ·by_cases h6:0≤(Zl s (i+2)).2
    ·rw [Q57 (by omega) h3 h5 h6];exact .inr ⟨.inl rfl,rfl,rfl⟩
    have hx:=Q16 s (i+2)
    have hl:=Q4F s (i+6)
    by_cases h7:55296≤(Zl s (i+2)).1∧(Zl s (i+2)).1 < 56320∧0≤Jz s (i+6)
    ·rw [Q0e (by omega) h3 h5 (by omega) h7]
     have hs:=KF (65536+1024 * ((Zl s (i+2)).1 - 55296)+Jz s (i+6) - 56320)
     exact ih _ _ (by omega) (by omega) (hu.app (Utf.char (by omega) (by omega) (by omega))) (by rw [ByteArray.size_append];omega)
    by_cases h8:55296≤(Zl s (i+2)).1∧(Zl s (i+2)).1 < 57344
    ·rw [Fg (by omega) h3 h5 (by omega) h7 h8];exact .inr ⟨.inr rfl,rfl,rfl⟩
    ·rw [Wf (by omega) h3 h5 (by omega) h7 h8]
     have hs:=KF (Zl s (i+2)).1
     exact ih _ _ (by omega) (by omega) (hu.app (Utf.char (by omega) (by omega) h8)) (by rw [ByteArray.size_append];omega)
   ·cases h6:esc (bat s (i+1)).toNat with
    |none=>rw [Q56 (by omega) h3 h5 h6];exact .inr ⟨.inl rfl,rfl,rfl⟩
    |some b=>
     rw [Q97 (by omega) h3 h5 h6]
     have h1b:(ByteArray.mk #[UInt8.ofNat b]).size=1:=rfl
     exact ih _ _ (by omega) (by omega) (hu.app (Utf.asc (Qc3 h6))) (by rw [ByteArray.size_append];omega)
  ·by_cases h4:u8 s i=0
   ·rw [Q2G (by omega) h1 (by omega) h3 h4];exact .inr ⟨.inr rfl,rfl,rfl⟩
   ·rw [Ff (by omega) h1 (by omega) h3 h4]
    exact ih _ _ (by omega) (by omega) (hu.app (Utf.ext (by omega) h4)) (by rw [ByteArray.size_append,ByteArray.size_extract];omega)
theorem Q4D (s:ByteArray) (a:Nat):UOK s a (Xp s (a:Int)):=by
 unfold Xp
 split
 ·exact .inr ⟨.inl rfl,rfl,rfl⟩
 split
 ·exact .inr ⟨.inl rfl,rfl,rfl⟩
 ·rw [Int.toNat_natCast]
  exact Qb1 s a _ _ _ (Nat.le_refl _) (by omega) rfl (Nat.zero_le _)
end Lg
namespace Lg
open Go
structure RS where
  a:Nat
  deep:Int
  bad:Int
  spot:Int
abbrev ZE (s:ByteArray) (r:RS):AO:=.box [.str s,.int .i64 (r.a:Int),.int .i64 r.deep,.int .i64 r.bad,.int .i64 r.spot]
def Zg (r:RS) (a b:Int):RS:=⟨r.a,r.deep,if r.bad=0 then b else r.bad,if r.bad=0 then a else r.spot⟩
def Qu (s:ByteArray) (r:RS):RS:=⟨if r.bad=0 then blk s r.a else r.a,r.deep,r.bad,r.spot⟩
def ZQ (s:ByteArray) (r:RS):RS:=
  ⟨if (if r.deep=32 then (if r.bad=0 then 3 else r.bad) else r.bad)=0 then blk s (r.a+1) else r.a+1,r.deep+1,if r.deep=32 then (if r.bad=0 then 3 else r.bad) else r.bad,if r.deep=32 then (if r.bad=0 then (r.a:Int) else r.spot) else r.spot⟩
def Xg (r:RS):RS:=⟨r.a+1,r.deep,r.bad,r.spot⟩
def KR (s:ByteArray) (c:UInt8) (r:RS):RS:=if pkv s r.a r.bad=c.toNat then Xg r else Xg (Zg r r.a 1)
def wantF (s lit:ByteArray) (i:Nat) (r:RS):RS:=if i < lit.size∧r.bad=0 then wantF s lit (i+1) (KR s (bat lit i) r) else r
termination_by lit.size - i
def XX (s lit:ByteArray) (r:RS):RS:=wantF s lit 0 r
def QL (s:ByteArray) (r:RS):ByteArray×RS:=
  if r.bad=0 then ((Xp s r.a).s,⟨r.a+(Xp s r.a).n.toNat,r.deep,(Xp s r.a).bad,if (Xp s r.a).bad=0 then r.spot else (Xp s r.a).at_⟩) else (e0,r)
def VJ (r:RS):RS:=⟨r.a,r.deep - 1,r.bad,r.spot⟩
section
variable (rv:RS→JV×RS) (s:ByteArray)
def ZU:Nat→List JV→RS→List JV×RS
  |0,l,r=>(l,r)
  |k+1,l,r=>if r.bad=0∧(¬pkv s r.a r.bad=93∨0 < l.length) then
      (if pkv s (rv r).2.a (rv r).2.bad=44 then ZU k (l++[(rv r).1]) (Xg (rv r).2) else (l++[(rv r).1],(rv r).2))
    else (l,r)
def rb1:ByteArray:=⟨#[93]⟩
def rb2:ByteArray:=⟨#[125]⟩
def rb3:ByteArray:=⟨#[58]⟩
def WT (r:RS):JV×RS:=(.mk 4 false {} e0 (ZU rv s (s.size+2) [] (ZQ s r)).1 [],VJ (XX s rb1 (ZU rv s (s.size+2) [] (ZQ s r)).2))
def QU (m:List (ByteArray×JV)) (key:ByteArray):Nat:=(m.takeWhile fun q=>blt q.1 key).length
def Jc (m:List (ByteArray×JV)) (key:ByteArray) (x:JV):List (ByteArray×JV):=m.take (QU m key)++(key,x) :: m.drop (QU m key)
def mkO (m:List (ByteArray×JV)):JV:=.mk 5 false {} e0 [] m
def rk2 (m:List (ByteArray×JV)) (r:RS):RS:=if (Z7 (mkO m) (QL s (Qu s r)).1).isSome=true then Zg (QL s (Qu s r)).2 (Qu s r).a 4 else (QL s (Qu s r)).2
def XV (m:List (ByteArray×JV)) (r:RS):ByteArray×RS:=((QL s (Qu s r)).1,XX s rb3 (Qu s (rk2 s m r)))
def Xr:Nat→List (ByteArray×JV)→RS→List (ByteArray×JV)×RS
  |0,m,r=>(m,r)
  |k+1,m,r=>if r.bad=0∧(¬pkv s r.a r.bad=125∨0 < m.length) then
      (if pkv s (rv (XV s m r).2).2.a (rv (XV s m r).2).2.bad=44 then Xr k (Jc m (XV s m r).1 (rv (XV s m r).2).1) (Xg (rv (XV s m r).2).2) else (Jc m (XV s m r).1 (rv (XV s m r).2).1,(rv (XV s m r).2).2))
    else (m,r)
def WV (r:RS):JV×RS:=(mkO (Xr rv s (s.size+2) [] (ZQ s r)).1,VJ (XX s rb2 (Xr rv s (s.size+2) [] (ZQ s r)).2))
end
def Q4d:ByteArray:=⟨#[110,117,108,108]⟩
def Q4e:ByteArray:=⟨#[116,114,117,101]⟩
def Q0F:ByteArray:=⟨#[102,97,108,115,101]⟩
noncomputable def Vi (s:ByteArray) (r:RS):JV×RS:=
  (.mk 2 false (YH (s.extract r.a (QY s r.a).1)).1 e0 [] [],
   ⟨(QY s r.a).1,r.deep,(if (YH (s.extract r.a (QY s r.a).1)).2=0 then (if (QY s r.a).2=true then r else Zg r (QY s r.a).1 1) else Zg (if (QY s r.a).2=true then r else Zg r (QY s r.a).1 1) r.a 5).bad,
    (if (YH (s.extract r.a (QY s r.a).1)).2=0 then (if (QY s r.a).2=true then r else Zg r (QY s r.a).1 1) else Zg (if (QY s r.a).2=true then r else Zg r (QY s r.a).1 1) r.a 5).spot⟩)
noncomputable def ZM (rv:RS→JV×RS) (s:ByteArray) (r:RS):JV×RS:=
  if pkv s r.a r.bad=123 then WV rv s r else
  if pkv s r.a r.bad=91 then WT rv s r else
  if pkv s r.a r.bad=34 then (.mk 3 false {} (QL s r).1 [] [],(QL s r).2) else
  if pkv s r.a r.bad=110 then (vz,XX s Q4d r) else
  if pkv s r.a r.bad=116 then (.mk 1 true {} e0 [] [],XX s Q4e r) else
  if pkv s r.a r.bad=102 then (.mk 1 false {} e0 [] [],XX s Q0F r) else
  if pkv s r.a r.bad=45∨(48≤pkv s r.a r.bad∧pkv s r.a r.bad≤57) then Vi s r else (vz,Zg r r.a 1)
noncomputable def Z2:Nat→ByteArray→RS→JV×RS
  |0,s,r=>(vz,r)
  |n+1,s,r=>((ZM (Z2 n s) s (Qu s r)).1,Qu s (ZM (Z2 n s) s (Qu s r)).2)
noncomputable def YY (s:ByteArray):JV×RS:=Z2 (s.size+2) s ⟨0,0,0,0⟩
noncomputable def KP (s:ByteArray):RS:=if (YY s).2.bad=0∧(YY s).2.a < s.size then Zg (YY s).2 (YY s).2.a 1 else (YY s).2
noncomputable def Zp (s:ByteArray):JV×Int×Int:=
  if 20000 < s.size then (vz,5,20000) else if (KP s).bad=0 then ((YY s).1,0,0) else (vz,(KP s).bad,(KP s).spot)

structure ROK (s:ByteArray) (r:RS):Prop where
  a:r.a≤s.size+1
  b:r.bad=0→r.a≤s.size
  d0:0≤r.deep
  d1:r.deep≤r.a
structure RTo (s:ByteArray) (r r':RS):Prop where
  a:r.a≤r'.a
  ok:ROK s r'
  b:r'.bad=0→r.bad=0
theorem RTo.refl {s:ByteArray} {r:RS} (h:ROK s r):RTo s r r:=⟨Nat.le_refl _,h,id⟩
theorem RTo.trans {s:ByteArray} {r r' r'':RS} (h:RTo s r r') (k:RTo s r' r''):RTo s r r'':=⟨Nat.le_trans h.a k.a,k.ok,fun e=>h.b (k.b e)⟩
theorem Kb {r:RS} {a b:Int} (hb:b ≠ 0):(Zg r a b).bad ≠ 0:=by
  unfold Zg;dsimp only;split<;>assumption
theorem HM {s:ByteArray} {r:RS} (h:ROK s r) {a b:Int} (hb:b ≠ 0):RTo s r (Zg r a b):=by
  have hbad:=Kb (r:=r) (a:=a) hb
  exact ⟨Nat.le_refl _,⟨h.a,fun e=>absurd e hbad,h.d0,h.d1⟩,fun e=>absurd e hbad⟩
theorem Xq {s:ByteArray} {r:RS} (h:ROK s r):RTo s r (Qu s r):=by
  have h1:=Q2W s r.a
  have h2:=h.a;have h3:=h.d1
  by_cases hb:r.bad=0
  · have h4:=h.b hb
    refine ⟨?_,⟨?_,?_,h.d0,?_⟩,fun _=>hb⟩<;>simp only [Qu,if_pos hb]<;>omega
  · refine ⟨?_,⟨?_,?_,h.d0,?_⟩,id⟩<;>simp only [Qu,if_neg hb]<;>omega
theorem Ke {s:ByteArray} {r:RS} (h:ROK s r) (hb:r.bad=0) (ha:r.a < s.size):RTo s r (ZQ s r)∧r.a+1≤(ZQ s r).a∧(ZQ s r).deep=r.deep+1:=by
  have h1:=Q2W s (r.a+1)
  have h2:=h.d1;have h3:=h.d0
  by_cases hd:r.deep=32
  · have e:ZQ s r=⟨r.a+1,r.deep+1,3,r.a⟩:=by simp [ZQ,hd,hb]
    rw [e]
    exact ⟨⟨by dsimp only;omega,⟨by dsimp only;omega,fun e=>absurd e (show ¬(3:Int)=0 by decide),by dsimp only;omega,by dsimp only;omega⟩,fun e=>absurd e (show ¬(3:Int)=0 by decide)⟩,Nat.le_refl _,rfl⟩
  · have e:ZQ s r=⟨blk s (r.a+1),r.deep+1,0,r.spot⟩:=by simp [ZQ,hd,hb]
    rw [e]
    exact ⟨⟨by dsimp only;omega,⟨by dsimp only;omega,fun _=>by dsimp only;omega,by dsimp only;omega,by dsimp only;omega⟩,fun _=>hb⟩,by dsimp only;omega,rfl⟩
theorem JJ {s:ByteArray} {r:RS} (h:ROK s r) (ha:0≤pkv s r.a r.bad):RTo s r (Xg r):=by
  have h1:=Yv ha
  have h2:=h.d1
  exact ⟨by dsimp only [Xg];omega,⟨by dsimp only [Xg];omega,fun _=>by dsimp only [Xg];omega,h.d0,by dsimp only [Xg];omega⟩,id⟩
theorem Fi {s:ByteArray} {c:UInt8} {r:RS} (h:ROK s r) (hb:r.bad=0):RTo s r (KR s c r)∧(KR s c r).deep=r.deep:=by
  have h2:=h.d1;have h3:=h.b hb
  unfold KR
  split
  · rename_i hp;exact ⟨JJ h (by omega),rfl⟩
  · have hbad:=Kb (r:=r) (a:=(r.a:Int)) (b:=1) (by decide)
    exact ⟨⟨by dsimp only [Xg,Zg];omega,⟨by dsimp only [Xg,Zg];omega,fun e=>absurd e hbad,h.d0,by dsimp only [Xg,Zg];omega⟩,fun _=>hb⟩,rfl⟩
theorem Q99 {s lit:ByteArray}:∀ (k i:Nat) (r:RS),lit.size - i≤k→ROK s r→RTo s r (wantF s lit i r)∧(wantF s lit i r).deep=r.deep:=by
  intro k
  induction k with
  |zero=>intro i r hk h;rw [wantF,if_neg (by omega)];exact ⟨.refl h,rfl⟩
  |succ k ih=>
    intro i r hk h
    rw [wantF]
    split
    · rename_i hc
      have h1:=Fi (s:=s) (c:=bat lit i) h hc.2
      have h2:=ih (i+1) _ (by omega) h1.1.ok
      exact ⟨h1.1.trans h2.1,h2.2.trans h1.2⟩
    · exact ⟨.refl h,rfl⟩
theorem X6 {s lit:ByteArray} {r:RS} (h:ROK s r):RTo s r (XX s lit r)∧(XX s lit r).deep=r.deep:=Q99 _ 0 r (Nat.le_refl _) h
theorem WW {s:ByteArray} {r:RS} (h:ROK s r):RTo s r (QL s r).2∧(QL s r).2.deep=r.deep∧Utf (QL s r).1∧r.a+(QL s r).1.size≤(QL s r).2.a:=by
  have h2:=h.d1;have h4:=h.a
  unfold QL
  split
  · rename_i hb
    have h3:=h.b hb
    rcases Q4D s r.a with ⟨q1,q2,q3,q4,q5⟩|⟨q1,q2,q3⟩
    · exact ⟨⟨by dsimp only;omega,⟨by dsimp only;omega,fun _=>by dsimp only;omega,h.d0,by dsimp only;omega⟩,fun _=>hb⟩,rfl,q4,by dsimp only;omega⟩
    · exact ⟨⟨by dsimp only;omega,⟨by dsimp only;omega,fun e=>by dsimp only at e;omega,h.d0,by dsimp only;omega⟩,fun _=>hb⟩,rfl,by dsimp only;rw [q3];rfl,by dsimp only;rw [q3];show r.a+0≤_;omega⟩
  · exact ⟨.refl h,rfl,rfl,Nat.le_refl _⟩
end Lg
namespace Lg
open Go
variable [GLay]
theorem KN:∀ (a b c:List UInt8),Op.bytesLess a b=true→Op.bytesLess b c=true→Op.bytesLess a c=true
 |[],[],_,h,_=>by simp [Op.bytesLess] at h
 |[],_ :: _,[],_,h=>by simp [Op.bytesLess] at h
 |[],_ :: _,_ :: _,_,_=>by simp [Op.bytesLess]
 |_ :: _,[],_,h,_=>by simp [Op.bytesLess] at h
 |_ :: _,_ :: _,[],_,h=>by simp [Op.bytesLess] at h
 |x :: a,y :: b,z :: c,h,k=>by
  simp only [Op.bytesLess] at h k ⊢
  have ih:=KN a b c
  have e1:∀ u v:UInt8,(u < v)=(u.toNat < v.toNat):=fun u v=>by rw [UInt8.lt_iff_toNat_lt]
  have e2:∀ u v:UInt8,(u=v)=(u.toNat=v.toNat):=fun u v=>by rw [UInt8.toNat_inj]
  simp only [e1,beq_iff_eq,e2,Bool.if_true_left,Bool.or_eq_true,decide_eq_true_eq,Bool.and_eq_true,Bool.if_false_right] at h k ⊢
  rcases h with h|h<;>rcases k with k|k
  ·left;omega
  ·left;omega
  ·left;omega
  ·right;exact ⟨by omega,ih h.2 k.2⟩
theorem XQ {a b c:ByteArray} (h:blt a b=true) (k:blt b c=true):blt a c=true:=KN _ _ _ h k
theorem Q3N:Ye vz:=(Yr vz).2 ⟨⟨by decide,by decide,by decide,Q9c,Q9d⟩,fun j q hj=>absurd hj (by simp [vz,JV.m]),fun i x hx=>by simp [vz,JV.l] at hx⟩
theorem Qbc (b:Bool):Ye (.mk 1 b {} e0 [] []):=(Yr _).2 ⟨⟨by simp [JV.kind],by simp [JV.kind],by cases b<;>decide,Q9c,Q9d⟩,fun j q hj=>absurd hj (by simp [JV.m]),fun i x hx=>by simp [JV.l] at hx⟩
theorem QdC {t:ByteArray} (h:Utf t):Ye (.mk 3 false {} t [] []):=(Yr _).2 ⟨⟨by simp [JV.kind],by simp [JV.kind],by simp [Gj,JV.kind,JV.b,JV.n,JV.s,JV.l,JV.m,JNum.z],Q9c,h⟩,fun j q hj=>absurd hj (by simp [JV.m]),fun i x hx=>by simp [JV.l] at hx⟩
theorem QdB {n:JNum} (h:NumMay n):Ye (.mk 2 false n e0 [] []):=(Yr _).2 ⟨⟨by simp [JV.kind],by simp [JV.kind],by simp [Gj,JV.kind,JV.b,JV.n,JV.s,JV.l,JV.m,e0],h,Q9d⟩,fun j q hj=>absurd hj (by simp [JV.m]),fun i x hx=>by simp [JV.l] at hx⟩
theorem Qdz {l:List JV} (h:Fr l):Ye (.mk 4 false {} e0 l []):=(Yr _).2 ⟨⟨by simp [JV.kind],by simp [JV.kind],by simp [Gj,JV.kind,JV.b,JV.n,JV.s,JV.l,JV.m,JNum.z,e0],Q9c,Q9d⟩,fun j q hj=>absurd hj (by simp [JV.m]),fun i x hx=>(Q1W l).1 h i x hx⟩
def MOK (m:List (ByteArray×JV)):Prop:=(∀ q∈m,Utf q.1∧Ye q.2)∧m.Pairwise fun p q=>blt p.1 q.1=true
theorem MOK.mok {m:List (ByteArray×JV)} (h:MOK m):mok m m.length:=fun j q _ hq=>by
 have hm:=h.1 q (List.mem_of_getElem? hq)
 refine ⟨⟨hm.1,fun q' hj hq'=>?_⟩,hm.2⟩
 obtain ⟨h1,rfl⟩:=List.getElem?_eq_some_iff.1 hq
 obtain ⟨h2,rfl⟩:=List.getElem?_eq_some_iff.1 hq'
 exact List.pairwise_iff_getElem.1 h.2 (j - 1) j h2 h1 (by omega)
theorem QdA {m:List (ByteArray×JV)} (h:MOK m):Ye (mkO m):=(Yr _).2 ⟨⟨by simp [mkO,JV.kind],by simp [mkO,JV.kind],by simp [mkO,Gj,JV.kind,JV.b,JV.n,JV.s,JV.l,JV.m,JNum.z,e0],Q9c,Q9d⟩,h.mok,fun i x hx=>by simp [mkO,JV.l] at hx⟩
theorem Vh (key:ByteArray) (x:JV):Jc [] key x=[(key,x)]:=rfl
theorem Kc (q:ByteArray×JV) (m:List (ByteArray×JV)) (key:ByteArray) (x:JV):Jc (q :: m) key x=if blt q.1 key=true then q :: Jc m key x else (key,x) :: q :: m:=by
 unfold Jc QU
 by_cases h:blt q.1 key=true
 ·simp [List.takeWhile_cons,h]
 ·simp [List.takeWhile_cons,h]
theorem Q2l {m:List (ByteArray×JV)} {key:ByteArray} {x:JV}:∀ q∈Jc m key x,q∈m∨q=(key,x):=by
 induction m with
 |nil=>intro q hq;rw [Vh] at hq;exact .inr (List.mem_singleton.1 hq)
 |cons p m ih=>
  intro q hq
  rw [Kc] at hq
  split at hq
  ·rcases List.mem_cons.1 hq with rfl|h
   ·exact .inl (List.mem_cons_self ..)
   ·exact (ih q h).imp (List.mem_cons_of_mem _) id
  ·rcases List.mem_cons.1 hq with rfl|h
   ·exact .inr rfl
   ·exact .inl h
theorem Qav {m:List (ByteArray×JV)} {key:ByteArray} {x:JV} (h:m.Pairwise fun p q=>blt p.1 q.1=true) (hk:∀ q∈m,¬q.1=key):(Jc m key x).Pairwise fun p q=>blt p.1 q.1=true:=by
 induction m with
 |nil=>rw [Vh];exact List.pairwise_singleton _ _
 |cons p m ih=>
  rw [Kc]
  obtain ⟨h1,h2⟩:=List.pairwise_cons.1 h
  split
  ·rename_i hl
   refine List.pairwise_cons.2 ⟨fun q hq=>?_,ih h2 fun q hq=>hk q (List.mem_cons_of_mem _ hq)⟩
   rcases Q2l q hq with h3|rfl
   ·exact h1 q h3
   ·exact hl
  ·rename_i hl
   have hlt:blt key p.1=true:=J3 _ _ (by simpa [blt] using hl) fun e=>hk p (List.mem_cons_self ..) (by
    have:=VZ p.1 key
    rw [e] at this;simpa using this)
   refine List.pairwise_cons.2 ⟨fun q hq=>?_,h⟩
   rcases List.mem_cons.1 hq with rfl|h3
   ·exact hlt
   ·exact XQ hlt (h1 q h3)
theorem MOK.ins {m:List (ByteArray×JV)} {key:ByteArray} {x:JV} (h:MOK m) (h1:Utf key) (h2:Ye x) (hk:∀ q∈m,¬q.1=key):MOK (Jc m key x):=
 ⟨fun q hq=>by
  rcases Q2l q hq with h3|rfl
  ·exact h.1 q h3
  ·exact ⟨h1,h2⟩,Qav h.2 hk⟩
theorem UD (m:List (ByteArray×JV)) (key:ByteArray) (x:JV):Qw (Jc m key x)=Qw m+Q6 x:=by
 induction m with
 |nil=>rw [Vh];simp [Qw]
 |cons p m ih=>
  obtain ⟨k,v⟩:=p
  rw [Kc]
  split
  ·simp only [Qw,ih];omega
  ·simp only [Qw];omega
theorem Q7C {m:List (ByteArray×JV)} {key:ByteArray} {x:JV} (h:mb m) (h1:key.size≤1000000) (h2:jb x):mb (Jc m key x):=by
 induction m with
 |nil=>rw [Vh];exact ⟨h1,h2,trivial⟩
 |cons p m ih=>
  obtain ⟨k,v⟩:=p
  rw [Kc]
  split
  ·exact ⟨h.1,h.2.1,ih h.2.2⟩
  ·exact ⟨h1,h2,h⟩
theorem Kz (l:List JV) (x:JV):Qm (l++[x])=Qm l+Q6 x:=by
 induction l with
 |nil=>simp [Qm]
 |cons a l ih=>simp only [List.cons_append,Qm,ih];omega
theorem ZO (l:List JV) (x:JV):(Q7 (l++[x])).flatten=(Q7 l).flatten++Qf x:=by
 rw [Jf,Jf];simp
theorem XC (l:List JV):(Q7 l).flatten.length=l.length * 8:=by
 induction l with
 |nil=>simp [Q7]
 |cons a l ih=>simp only [Q7,List.flatten_cons,List.length_append,ih,Qb3,List.length_cons];omega
theorem Z0 (n:Nat) (a b:List AV):AV.ltL n (a++b)↔AV.ltL n a∧AV.ltL n b:=by
 induction a with
 |nil=>simp [AV.ltL]
 |cons x a ih=>simp only [List.cons_append,AV.ltL,ih,and_assoc]
theorem Y6 (n:Nat) (l:List JV):AV.ltL n (Q7 l).flatten:=by
 induction l with
 |nil=>simp [Q7,AV.ltL]
 |cons a l ih=>simp only [Q7,List.flatten_cons,Z0];exact ⟨Jk n a,ih⟩
theorem Vb (l:List JV):∀ r∈Q7 l,r.length=8:=fun r hr=>by
 rw [Jf] at hr
 obtain ⟨v,_,rfl⟩:=List.mem_map.1 hr
 exact Qb3 v
theorem Q4f {l:List JV} {x:JV} (h:lb l) (hx:jb x):lb (l++[x]):=by
 induction l with
 |nil=>exact ⟨hx,trivial⟩
 |cons a l ih=>exact ⟨h.1,ih h.2⟩
theorem FQ {l:List JV} {x:JV} (h:Fr l) (hx:Ye x):Fr (l++[x]):=by
 induction l with
 |nil=>exact ⟨hx,trivial⟩
 |cons a l ih=>exact ⟨h.1,ih h.2⟩
theorem Q37 {m:List (ByteArray×JV)} {key:ByteArray} (h:Z7 (mkO m) key=none):∀ q∈m,¬q.1=key:=fun q hq e=>by
 have h':(m.find? fun q=>decide (q.1=key))=none:=by
  unfold Z7 at h
  rw [if_pos (show (mkO m).kind=5 from rfl)] at h
  simpa [mkO,JV.m] using h
 have:=List.find?_eq_none.1 h' q hq
 simp [e] at this
structure VR (s:ByteArray) (r:RS) (x:JV×RS):Prop where
 fwd:RTo s r x.2
 deep:x.2.deep=r.deep
 jb:jb x.1
 size:Q6 x.1≤(x.2.a:Int) - r.a+1
 may:x.2.bad=0→Ye x.1
section
variable {rv:RS→JV×RS} {s:ByteArray} (hs:s.size≤100000) (hrv:∀ r,ROK s r→VR s r (rv r))
include hrv
theorem Q2j:∀ (k:Nat) (l:List JV) (r:RS),ROK s r→lb l→(r.bad=0→Fr l)→
  RTo s r (ZU rv s k l r).2∧(ZU rv s k l r).2.deep=r.deep∧lb (ZU rv s k l r).1∧Qm (ZU rv s k l r).1≤Qm l+((ZU rv s k l r).2.a:Int) - r.a+1∧((ZU rv s k l r).2.bad=0→Fr (ZU rv s k l r).1):=by
 intro k
 induction k with
 |zero=>intro l r h h1 h2;exact ⟨.refl h,rfl,h1,by dsimp only [ZU];omega,h2⟩
 |succ k ih=>
  intro l r h h1 h2
  rw [ZU]
  have hv:=hrv r h
  split
  ·split
   ·rename_i hp
    have hi:=JJ hv.fwd.ok (by omega)
    obtain ⟨q1,q2,q3,q4,q5⟩:=ih (l++[(rv r).1]) (Xg (rv r).2) hi.ok (Q4f h1 hv.jb) (fun e=>FQ (h2 (hv.fwd.b e)) (hv.may e))
    refine ⟨hv.fwd.trans (hi.trans q1),q2.trans hv.deep,q3,?_,q5⟩
    rw [Kz] at q4
    have:=hv.size
    have h5:(Xg (rv r).2).a=(rv r).2.a+1:=rfl
    omega
   ·refine ⟨hv.fwd,hv.deep,Q4f h1 hv.jb,?_,fun e=>FQ (h2 (hv.fwd.b e)) (hv.may e)⟩
    rw [Kz];have:=hv.size;dsimp only;omega
  ·exact ⟨.refl h,rfl,h1,by dsimp only;omega,h2⟩
include hs
theorem Qaq {r:RS} (h:ROK s r) (hb:r.bad=0) (ha:r.a < s.size):VR s r (WT rv s r):=by
 obtain ⟨o1,o2,o3⟩:=Ke h hb ha
 obtain ⟨q1,q2,q3,q4,q5⟩:=Q2j hrv (s.size+2) [] (ZQ s r) o1.ok trivial (fun _=>trivial)
 obtain ⟨w1,w2⟩:=X6 (lit:=rb1) q1.ok
 unfold WT
 have hll:=Yu (ZU rv s (s.size+2) [] (ZQ s r)).1
 have e0l:Qm []=0:=rfl
 have ha1:=w1.ok.a;have ha2:=w1.a
 have hd:=h.d0;have hd1:=h.d1
 refine ⟨⟨?_,⟨ha1,w1.ok.b,?_,?_⟩,fun e=>o1.b (q1.b (w1.b e))⟩,?_,?_,?_,fun e=>Qdz (q5 (w1.b e))⟩
 ·have:=q1.a;dsimp only [VJ];omega
 ·dsimp only [VJ];omega
 ·have:=w1.ok.d1;dsimp only [VJ];omega
 ·dsimp only [VJ];omega
 ·rw [Zy];simp only [JV.n,JV.s,JV.l,JV.m,mb,and_true]
  exact ⟨Nat.zero_le _,Nat.zero_le _,by omega,Nat.zero_le _,q3⟩
 ·simp only [Q6,Qw,VJ];omega
omit hs in
theorem Q17 {m:List (ByteArray×JV)} {r:RS} (h:ROK s r):RTo s r (XV s m r).2∧(XV s m r).2.deep=r.deep∧(XV s m r).1.size+r.a≤(XV s m r).2.a∧Utf (XV s m r).1∧((XV s m r).2.bad=0→∀ q∈m,¬q.1=(XV s m r).1):=by
 have b1:=Xq h
 obtain ⟨t1,t2,t3,t4⟩:=WW b1.ok
 have hb1:=b1.a
 unfold XV rk2
 by_cases hf:(Z7 (mkO m) (QL s (Qu s r)).1).isSome=true
 ·simp only [if_pos hf]
  have f1:=HM (a:=(Qu s r).a) (b:=4) t1.ok (by decide)
  have b2:=Xq f1.ok
  obtain ⟨w1,w2⟩:=X6 (lit:=rb3) b2.ok
  refine ⟨b1.trans (t1.trans (f1.trans (b2.trans w1))),w2.trans t2,?_,t3,fun e=>absurd (b2.b (w1.b e)) (Kb (by decide))⟩
  have:=w1.a;have:=b2.a;have:=f1.a;omega
 ·simp only [if_neg hf]
  have b2:=Xq t1.ok
  obtain ⟨w1,w2⟩:=X6 (lit:=rb3) b2.ok
  refine ⟨b1.trans (t1.trans (b2.trans w1)),w2.trans t2,?_,t3,fun _=>Q37 (by simpa using hf)⟩
  have:=w1.a;have:=b2.a;omega
omit hs hrv in
theorem QcQ {m:List (ByteArray×JV)} {r:RS} (h:ROK s r):RTo s r (rk2 s m r)∧(rk2 s m r).deep=r.deep:=by
 have b1:=Xq h
 obtain ⟨t1,t2,t3,t4⟩:=WW b1.ok
 unfold rk2
 split
 ·exact ⟨b1.trans (t1.trans (HM t1.ok (by decide))),t2⟩
 ·exact ⟨b1.trans t1,t2⟩
include hs
theorem Q2m:∀ (k:Nat) (m:List (ByteArray×JV)) (r:RS),ROK s r→mb m→(r.bad=0→MOK m)→
  RTo s r (Xr rv s k m r).2∧(Xr rv s k m r).2.deep=r.deep∧mb (Xr rv s k m r).1∧Qw (Xr rv s k m r).1≤Qw m+((Xr rv s k m r).2.a:Int) - r.a+1∧((Xr rv s k m r).2.bad=0→MOK (Xr rv s k m r).1):=by
 intro k
 induction k with
 |zero=>intro m r h h1 h2;exact ⟨.refl h,rfl,h1,by dsimp only [Xr];omega,h2⟩
 |succ k ih=>
  intro m r h h1 h2
  rw [Xr]
  obtain ⟨k1,k2,k3,k4,k5⟩:=Q17 hrv (m:=m) h
  have hv:=hrv _ k1.ok
  have hk1:=k1.a;have hk6:=k1.ok.a
  have hins:(rv (XV s m r).2).2.bad=0→MOK (Jc m (XV s m r).1 (rv (XV s m r).2).1):=fun e=>(h2 (k1.b (hv.fwd.b e))).ins k4 (hv.may e) (k5 (hv.fwd.b e))
  split
  ·split
   ·rename_i hp
    have hi:=JJ hv.fwd.ok (by omega)
    obtain ⟨q1,q2,q3,q4,q5⟩:=ih (Jc m (XV s m r).1 (rv (XV s m r).2).1) (Xg (rv (XV s m r).2).2) hi.ok (Q7C h1 (by omega) hv.jb) hins
    refine ⟨k1.trans (hv.fwd.trans (hi.trans q1)),q2.trans (hv.deep.trans k2),q3,?_,q5⟩
    rw [UD] at q4
    have:=hv.size
    have h5:(Xg (rv (XV s m r).2).2).a=(rv (XV s m r).2).2.a+1:=rfl
    omega
   ·refine ⟨k1.trans hv.fwd,hv.deep.trans k2,Q7C h1 (by omega) hv.jb,?_,hins⟩
    rw [UD];have:=hv.size;dsimp only;omega
  ·exact ⟨.refl h,rfl,h1,by dsimp only;omega,h2⟩
theorem Qax {r:RS} (h:ROK s r) (hb:r.bad=0) (ha:r.a < s.size):VR s r (WV rv s r):=by
 obtain ⟨o1,o2,o3⟩:=Ke h hb ha
 obtain ⟨q1,q2,q3,q4,q5⟩:=Q2m hs hrv (s.size+2) [] (ZQ s r) o1.ok trivial (fun _=>⟨fun q hq=>by simp at hq,List.Pairwise.nil⟩)
 obtain ⟨w1,w2⟩:=X6 (lit:=rb2) q1.ok
 unfold WV
 have hll:=GP (Xr rv s (s.size+2) [] (ZQ s r)).1
 have e0l:Qw []=0:=rfl
 have ha1:=w1.ok.a;have ha2:=w1.a
 have hd:=h.d0;have hd1:=h.d1
 refine ⟨⟨?_,⟨ha1,w1.ok.b,?_,?_⟩,fun e=>o1.b (q1.b (w1.b e))⟩,?_,?_,?_,fun e=>QdA (q5 (w1.b e))⟩
 ·have:=q1.a;dsimp only [VJ];omega
 ·dsimp only [VJ];omega
 ·have:=w1.ok.d1;dsimp only [VJ];omega
 ·dsimp only [VJ];omega
 ·rw [Zy];simp only [mkO,JV.n,JV.s,JV.l,JV.m,lb,true_and]
  exact ⟨Nat.zero_le _,Nat.zero_le _,Nat.zero_le _,by omega,q3⟩
 ·simp only [mkO,Q6,Qm,VJ];omega
theorem Q8t {r:RS} (h:ROK s r) (hb:r.bad=0) (ha:r.a < s.size):VR s r (Vi s r):=by
 have he:=Q15 (s:=s) (a:=r.a) (by omega)
 have hm:=Q8j (s.extract r.a (QY s r.a).1)
 have h3:=h.d1;have h0:=h.d0
 unfold Vi
 refine ⟨⟨he.1,⟨by dsimp only;omega,fun _=>he.2,h0,by dsimp only;omega⟩,fun _=>hb⟩,rfl,?_,?_,fun _=>QdB hm⟩
 ·exact V4 _ _ _ _ (by have:=hm.size;omega) (Nat.zero_le _)
 ·simp only [XR];omega
theorem Q1a {r:RS} (h:ROK s r):VR s r (ZM rv s r):=by
 have hz:∀ {r':RS} {v:JV},RTo s r r'→r'.deep=r.deep→Q6 v=1→jb v→Ye v→VR s r (v,r'):=fun h1 h2 h3 h4 h5=>⟨h1,h2,h4,by have:=h1.a;dsimp only;omega,fun _=>h5⟩
 have h0:jb vz:=V4 _ _ _ _ (Nat.zero_le _) (Nat.zero_le _)
 unfold ZM
 split
 ·rename_i hp;have:=Yv (s:=s) (a:=r.a) (bad:=r.bad) (by omega);exact Qax hs hrv h this.1 this.2.1
 split
 ·rename_i hp;have:=Yv (s:=s) (a:=r.a) (bad:=r.bad) (by omega);exact Qaq hs hrv h this.1 this.2.1
 split
 ·obtain ⟨t1,t2,t3,t4⟩:=WW h
  exact hz t1 t2 (XR _ _ _ _) (V4 _ _ _ _ (Nat.zero_le _) (by have:=t1.ok.a;omega)) (QdC t3)
 split
 ·exact hz (X6 h).1 (X6 h).2 (XR _ _ _ _) h0 Q3N
 split
 ·exact hz (X6 h).1 (X6 h).2 (XR _ _ _ _) (V4 _ _ _ _ (Nat.zero_le _) (Nat.zero_le _)) (Qbc true)
 split
 ·exact hz (X6 h).1 (X6 h).2 (XR _ _ _ _) (V4 _ _ _ _ (Nat.zero_le _) (Nat.zero_le _)) (Qbc false)
 split
 ·rename_i hp;have:=Yv (s:=s) (a:=r.a) (bad:=r.bad) (by omega);exact Q8t hs hrv h this.1 this.2.1
 ·exact hz (HM h (by decide)) rfl (XR _ _ _ _) h0 Q3N
end
theorem JL {s:ByteArray} (hs:s.size≤100000):∀ (n:Nat) (r:RS),ROK s r→VR s r (Z2 n s r):=by
 intro n
 induction n with
 |zero=>intro r h;exact ⟨.refl h,rfl,V4 _ _ _ _ (Nat.zero_le _) (Nat.zero_le _),by simp only [Z2,vz,XR];omega,fun _=>Q3N⟩
 |succ n ih=>
  intro r h
  have b1:=Xq h
  have hv:=Q1a hs ih b1.ok
  have b2:=Xq hv.fwd.ok
  rw [Z2]
  exact ⟨b1.trans (hv.fwd.trans b2),hv.deep,hv.jb,by have:=hv.size;have:=b1.a;have:=b2.a;dsimp only;omega,fun e=>hv.may (b2.b e)⟩
theorem FV (s:ByteArray) (h:(Zp s).2.1=0):Ye (Zp s).1∧jb (Zp s).1∧Q6 (Zp s).1≤s.size+2∧s.size≤20000:=by
 unfold Zp at h ⊢
 split at h
 ·cases h
 ·rename_i hs
  split at h
  ·rename_i hb
   rw [if_neg hs,if_pos hb]
   have h0:ROK s ⟨0,0,0,0⟩:=⟨Nat.zero_le _,fun _=>Nat.zero_le _,Int.le_refl _,Int.le_refl _⟩
   have hv:VR s ⟨0,0,0,0⟩ (YY s):=JL (by omega) (s.size+2) ⟨0,0,0,0⟩ h0
   have hb2:(YY s).2.bad=0:=by
    unfold KP at hb
    split at hb
    ·exact absurd hb (Kb (by decide))
    ·exact hb
   exact ⟨hv.may hb2,hv.jb,by have:=hv.size;have:=hv.fwd.ok.a;dsimp only at *;omega,by omega⟩
  ·rename_i hb;exact absurd h hb
noncomputable def QW (s:ByteArray):JV×Int:=if 2000 < s.size then (vz,0) else if (Zp s).2.1=0 then ((Zp s).1,1) else (vz,0)
theorem US (s:ByteArray):(QW s).2=0∧(QW s).1=vz∨(QW s).2=1∧Ye (QW s).1∧jb (QW s).1∧Q6 (QW s).1≤2002:=by
 unfold QW
 split
 ·exact .inl ⟨rfl,rfl⟩
 split
 ·rename_i h1 h2
  have:=FV s h2
  exact .inr ⟨rfl,this.1,this.2.1,by have:=this.2.2.1;dsimp only;omega⟩
 ·exact .inl ⟨rfl,rfl⟩
end Lg
namespace Lg
open Go
variable [GLay]
def UB (q:ByteArray×JV):List AV:=.str q.1 :: Qf q.2
theorem Xd (m:List (ByteArray×JV)):Q5 m=m.map UB:=VA m
theorem Q7G (q:ByteArray×JV):(UB q).length=9:=by simp [UB,Qb3]
theorem VB (m:List (ByteArray×JV)):∀ r∈Q5 m,r.length=9:=fun r hr=>by
 rw [Xd] at hr
 obtain ⟨v,_,rfl⟩:=List.mem_map.1 hr
 exact Q7G v
theorem Zx (m:List (ByteArray×JV)):(Q5 m).flatten.length=m.length * 9:=by
 induction m with
 |nil=>simp [Q5]
 |cons a m ih=>obtain ⟨k,v⟩:=a;simp only [Q5,List.flatten_cons,List.length_append,ih,List.length_cons,Qb3];omega
theorem Qef (v:JV):Zf (Qf v)=true:=by rw [Q3];rfl
theorem Q7F (m:List (ByteArray×JV)):Zf (Q5 m).flatten=true:=by
 induction m with
 |nil=>simp [Q5,Zf]
 |cons a m ih=>
  obtain ⟨k,v⟩:=a
  simp only [Q5,List.flatten_cons,Gm,ih,Bool.and_true,Zf,Qef];rfl
theorem K4 (n:Nat) (m:List (ByteArray×JV)):AV.ltL n (Q5 m).flatten:=by
 induction m with
 |nil=>simp [Q5,AV.ltL]
 |cons a m ih=>obtain ⟨k,v⟩:=a;simp only [Q5,List.flatten_cons,Z0,AV.ltL,AV.lt,true_and];exact ⟨Jk n v,ih⟩
theorem Q3f (m:List (ByteArray×JV)) (j:Nat):((Q5 m).drop j).take ((Q5 m).length - j)=Q5 (m.drop j):=by
 rw [List.take_of_length_le (by simp),Xd,Xd,List.map_drop]
theorem Q5H (m:List (ByteArray×JV)) (j:Nat):((Q5 m).drop (0:Int).toNat).take (j - (0:Int).toNat)=Q5 (m.take j):=by
 show ((Q5 m).drop 0).take (j - 0)=_
 rw [List.drop_zero,Nat.sub_zero,Xd,Xd,List.map_take]
theorem Q5F (m:List (ByteArray×JV)) (key:ByteArray) (v:JV):(Q5 (Jc m key v)).flatten=(Q5 (m.take (QU m key))).flatten++(UB (key,v)++(Q5 (m.drop (QU m key))).flatten):=by
 unfold Jc
 rw [Xd,Xd,Xd];simp
theorem Q8q (m:List (ByteArray×JV)) (key:ByteArray):QU m key≤m.length:=by
 unfold QU
 exact (List.takeWhile_sublist _).length_le
theorem Q8s (m:List (ByteArray×JV)) (key:ByteArray) (v:JV):(Jc m key v).length=m.length+1:=by
 have:=Q8q m key
 unfold Jc;simp;omega
theorem Q66 {m:List (ByteArray×JV)} {key:ByteArray} {j:Nat} {q:ByteArray×JV} (hq:m[j]? =some q) (h:blt q.1 key=true):QU (m.drop j) key=1+QU (m.drop (j+1)) key:=by
 obtain ⟨hj,rfl⟩:=List.getElem?_eq_some_iff.1 hq
 rw [List.drop_eq_getElem_cons hj]
 unfold QU
 simp only [List.takeWhile_cons,h,if_true,List.length_cons];omega
theorem Q8r {m:List (ByteArray×JV)} {key:ByteArray} {j:Nat} {q:ByteArray×JV} (hq:m[j]? =some q) (h:blt q.1 key=false):QU (m.drop j) key=0:=by
 obtain ⟨hj,rfl⟩:=List.getElem?_eq_some_iff.1 hq
 rw [List.drop_eq_getElem_cons hj]
 unfold QU
 simp only [List.takeWhile_cons,h,Bool.false_eq_true,if_false,List.length_nil]
theorem Q65 {m:List (ByteArray×JV)} {key:ByteArray} {j:Nat} (h:m.length≤j):QU (m.drop j) key=0:=by
 rw [List.drop_eq_nil_of_le h];rfl
end Lg
namespace Lg
open Go Go.RowKit
variable [GLay] {P:Program} {σ:List AO} {e:Env} {o:Oper}
section ifaces
variable {T T' U:TypeId} {x y:Operand} {ms:Array (String×TypeId)} {k k':IntKind}
end ifaces
section more
variable {T T':TypeId} {x y:Operand}
end more
end Lg
namespace Lg
open Go Go.RowKit
variable [GLay]
variable {P:Program} {N:Nat} {σ l:List AO} {e:Env} {Q:QA} {o:Oper}
theorem BAt.mk {s:CS} {p:Nat} {T:TypeId} {l:List UInt8} {R:Pl→Prop} (hσ:s.σ[p]? =some (.bytes T l)) (h:R (s.μ p)):BAt s p l.length R:=by
 unfold BAt;rw [hσ];exact ⟨Nat.le_refl _,fun _=>h⟩
end Lg
namespace Lg
open Go Go.RowKit
variable [GLay]
variable {P:Program} {N:Nat} {σ l:List AO} {e:Env} {Q:QA} {o:Oper}
section ptrs
variable {T E T':TypeId} {x y:Operand}
end ptrs
end Lg
namespace Lg
open Go Go.RowKit
variable [GLay]
variable {P:Program} {N:Nat} {σ l:List AO} {e:Env} {Q:QA} {o:Oper}
end Lg
namespace Lg
open Go Go.RowKit
variable [GLay]
variable {P:Program} {N:Nat} {σ l:List AO} {e:Env} {Q:QA} {o:Oper}
section res
variable {τ:List AO} {n t1 t2:Nat} {el:List (Nat×AV)} {v1 v2:AV} {R:Out→List AO→Prop}
end res
structure BldT (P:Program) (B E:TypeId) (σ:List AO) (p off q:Nat) (cs:List AV) (l:List UInt8):Prop where
 box:σ[p]? =some (.box cs)
 adr:cs[off]? =some (.ptr p off)∨∃ U n,cs[off]? =some (.nilT p U n)∧liesAt P P.depth U (n / P.cellsOf U) off B 1=true
 buf:cs[off+1]? =some (.bts q l.length)
 row:σ[q]? =some (.bytes E l)
theorem BldT.ne {B E:TypeId} {p off q:Nat} {cs:List AV} {l:List UInt8} (h:BldT P B E σ p off q cs l):p ≠ q:=fun e=>by
 have h1:=h.box;have h2:=h.row
 rw [e,h2] at h1;cases h1
end Lg
namespace Lg
open Go Go.RowKit
variable [GLay]
variable {P:Program} {N:Nat} {σ l:List AO} {e:Env} {Q:QA} {o:Oper}
section bitops
variable {T T':TypeId} {x y:Operand} {k yk:IntKind} {n m r:Int}
theorem QcC (ho:o.op= .binOp .shr T x y T') (hx:opv e x= .int k n) (hy:opv e y= .int yk m) (hm:0≤m) (hr:n / 2 ^ min m.toNat k.bits=r):AOp P σ e o (.int k r) σ:=
 Y2 ho hx hy fun s cx cy _ _ h1 h2=>by
  rw [h1.inv_int,h2.inv_int]
  refine ⟨.int k r,?_,.int _ _,by simp [eqGuard]⟩
  simp only [binOp]
  rw [shift_shr_any k yk n m hm,hr]
  rfl
end bitops
end Lg
namespace Lg
open Go Go.RowKit
variable [GLay]
structure Agr (s s':CS):Prop where
 objs:∀ p o,s.σ[p]? =some o→s'.σ[p]? =some o∧s'.μ p=s.μ p
 ok:∀ b,s.ok b↔s'.ok b
 w:s'.w=s.w
section
variable {s s':CS}
end
end Lg
namespace Lg
open Go
abbrev BL:=List UInt8
def isD (b:UInt8):Bool:=decide (48≤b.toNat) && decide (b.toNat≤57)
theorem Vw (b:UInt8):isD b=true↔48≤b.toNat∧b.toNat≤57:=by simp [isD]
theorem Xl {s:ByteArray} {i:Nat} (h:i < s.size):s.data.toList.drop i=bat s i :: s.data.toList.drop (i+1):=by
  have h':i < s.data.toList.length:=by rw [Array.length_toList];exact h
  rw [List.drop_eq_getElem_cons h']
  congr 1
  unfold bat
  rw [List.getD_eq_getElem?_getD,List.getElem?_eq_getElem h'];rfl
theorem Y4 {s:ByteArray} {i:Nat} (h:s.size≤i):s.data.toList.drop i=[]:=List.drop_eq_nil_of_le (by rw [Array.length_toList];exact h)
theorem GW (s:ByteArray) (i:Nat):Xh s i=((s.data.toList.drop i).takeWhile isD).length:=by
  by_cases h:i < s.size∧dig s i
  · rw [Vj h.1 h.2,Xl h.1,List.takeWhile_cons,if_pos ((Vw _).2 h.2),List.length_cons,GW s (i+1)]
  · rw [KH h]
    by_cases h1:i < s.size
    · rw [Xl h1,List.takeWhile_cons,if_neg (fun e=>h ⟨h1,(Vw _).1 e⟩)];rfl
    · rw [Y4 (by omega)];rfl
termination_by s.size - i
theorem HB (s:ByteArray) (i:Nat) (t:NSt):nloop s i t=(s.data.toList.drop i).foldl (fun t b=>ZK b.toNat t) t:=by
  by_cases h:i < s.size
  · rw [nloop,if_pos h,Xl h,List.foldl_cons,HB s (i+1)]
  · rw [nl0 (by omega),Y4 (by omega)];rfl
termination_by s.size - i
def Qq (c:Nat):BL→BL
  |[]=>[]
  |b :: r=>if b.toNat=c then r else b :: r
def GC:BL→BL×Bool
  |[]=>([],true)
  |b :: r=>if b.toNat=101∨b.toNat=69 then
      (let q:=match r with
        |[]=>[]
        |c :: r'=>if c.toNat=43∨c.toNat=45 then r' else c :: r'
       (q.dropWhile isD,!(q.takeWhile isD).isEmpty)) else (b :: r,true)
def Ug:BL→BL×Bool
  |[]=>GC []
  |b :: r=>if b.toNat=46 then (if (r.takeWhile isD).isEmpty then (r,false) else GC (r.dropWhile isD)) else GC (b :: r)
def Qb4 (l:BL):BL×Bool:=if (l.takeWhile isD).isEmpty then (l,false) else
  Ug (match l with
    |[]=>[]
    |b :: r=>if b.toNat=48 then r else l.dropWhile isD)
def Q6q (l:BL):BL×Bool:=Qb4 (Qq 45 l)
theorem He (l:BL):l.dropWhile isD=l.drop (l.takeWhile isD).length:=by
  induction l with
  |nil=>rfl
  |cons b r ih=>
    by_cases h:isD b=true
    · simp [List.dropWhile_cons,List.takeWhile_cons,h,ih]
    · simp [List.dropWhile_cons,List.takeWhile_cons,h]
def AtP (s:ByteArray) (p:Nat×Bool) (x:BL×Bool):Prop:=p.1≤s.size∧s.data.toList.drop p.1=x.1∧p.2=x.2
theorem Fc (s:ByteArray) (i:Nat):((s.data.toList.drop i).takeWhile isD).isEmpty=decide (Xh s i=0):=by
  rw [GW];cases (s.data.toList.drop i).takeWhile isD<;>simp
theorem Q2Z (s:ByteArray) (i:Nat):(s.data.toList.drop i).dropWhile isD=s.data.toList.drop (i+Xh s i):=by
  rw [He,←GW,List.drop_drop]
theorem Q70 {s:ByteArray} {i:Nat} (h:i≤s.size):s.data.toList.drop (eSg s i)=(match s.data.toList.drop i with
        |[]=>[]
        |c :: r'=>if c.toNat=43∨c.toNat=45 then r' else c :: r'):=by
  unfold eSg
  by_cases h1:i < s.size
  · rw [Xl h1]
    by_cases h2:(bat s i).toNat=43∨(bat s i).toNat=45
    · rw [if_pos ⟨h1,h2⟩];simp only [h2,if_true]
    · rw [if_neg (fun h=>h2 h.2)];simp only [h2,if_false];exact Xl h1
  · rw [Y4 (s:=s) (i:=i) (by omega),if_neg (fun h=>h1 h.1)];exact Y4 (by omega)
theorem Ur {s:ByteArray} {i:Nat} (h:i≤s.size):AtP s (Ws s i) (GC (s.data.toList.drop i)):=by
  have hle:=Q0u h
  refine ⟨hle.2,?_⟩
  unfold Ws
  by_cases h1:i < s.size
  · rw [Xl h1]
    by_cases h2:(bat s i).toNat=101∨(bat s i).toNat=69
    · rw [if_pos ⟨h1,h2⟩]
      simp only [GC,h2,if_true,←Q70 (show i+1≤s.size from h1),Fc,Q2Z]
      by_cases h3:Xh s (eSg s (i+1))=0
      · simp [h3]
      · simp [h3]
    · rw [if_neg (fun h=>h2 h.2)];simp only [GC,h2,if_false];exact ⟨Xl h1,trivial⟩
  · rw [Y4 (s:=s) (i:=i) (by omega),if_neg (fun h=>h1 h.1)];exact ⟨Y4 (by omega),rfl⟩
theorem Q31 {s:ByteArray} {i:Nat} (h:i≤s.size):AtP s (KZ s i) (Ug (s.data.toList.drop i)):=by
  unfold KZ
  by_cases h1:i < s.size
  · by_cases h2:(bat s i).toNat=46
    · rw [if_pos ⟨h1,h2⟩,Xl h1]
      simp only [Ug,h2,if_true,Fc,Q2Z]
      have hr:=Yw s (i+1)
      by_cases h3:Xh s (i+1)=0
      · simp only [h3,decide_true,if_true];exact ⟨h1,rfl,rfl⟩
      · simp only [h3,decide_false,Bool.false_eq_true,if_false];exact Ur (by omega)
    · rw [if_neg (fun h=>h2 h.2)]
      have:=Ur h
      rw [Xl h1] at this ⊢
      simp only [Ug,h2,if_false];exact this
  · rw [if_neg (fun h=>h1 h.1)]
    have:=Ur h
    rw [Y4 (s:=s) (i:=i) (by omega)] at this ⊢
    exact this
theorem Q62 (s:ByteArray):AtP s (QY s 0) (Q6q s.data.toList):=by
  have h0:s.data.toList.drop (X4 s 0)=Qq 45 s.data.toList:=by
    unfold X4
    by_cases h1:0 < s.size
    · have hb:=Xl h1
      rw [List.drop_zero] at hb
      by_cases h2:(bat s 0).toNat=45
      · rw [if_pos ⟨h1,h2⟩];rw [hb];simp only [Qq,h2,if_true];rw [← hb]
      · rw [if_neg (fun h=>h2 h.2),List.drop_zero,hb];simp only [Qq,h2,if_false]
    · have hb:=Y4 (s:=s) (i:=0) (by omega)
      rw [List.drop_zero] at hb
      rw [if_neg (fun h=>h1 h.1),hb];rfl
  have hs:=Hj (s:=s) (Nat.zero_le _)
  unfold Q6q QY Qb4
  rw [← h0,Fc]
  by_cases h3:Xh s (X4 s 0)=0
  · simp only [h3,if_true,decide_true];exact ⟨hs.2,rfl,rfl⟩
  · simp only [h3,if_false,decide_false,Bool.false_eq_true]
    have hi:=Q0r hs.2 h3
    have:=Q31 (s:=s) (i:=X4 s 0+GA s (X4 s 0)) hi.2
    have hlt:X4 s 0 < s.size:=by omega
    rw [Q2Z]
    rw [Xl hlt] at *
    unfold GA at this ⊢
    by_cases h4:(bat s (X4 s 0)).toNat=48
    · simp only [h4,if_true] at this ⊢;exact this
    · simp only [h4,if_false] at this ⊢;exact this
end Lg
namespace Lg
open Go
def KW:BL→BL×Bool
 |[]=>([48],true)
 |b :: q=>(Qq 43 q,(decide (b.toNat=101) || decide (b.toNat=69)) && (!(Qq 45 (Qq 43 q)).isEmpty && (decide (((Qq 45 (Qq 43 q)).takeWhile isD).length=(Qq 45 (Qq 43 q)).length) && !(decide (Qq 43 q ≠ q) && decide (Qq 45 (Qq 43 q) ≠ Qq 43 q)))))
def VP:BL→Option (BL×BL)
 |[]=>some ([],[])
 |b :: r=>if b.toNat=46 then (if (r.takeWhile isD).isEmpty then none else some (r.takeWhile isD,r.dropWhile isD)) else some ([],b :: r)
def QB (l:BL):BL×BL×BL×Bool:=
 if (l.takeWhile isD).length=0∨(1 < (l.takeWhile isD).length∧l.headD 0=48) then ([],[],[],false) else
 match VP (l.dropWhile isD) with
 |none=>([],[],[],false)
 |some (f,r)=>(l.takeWhile isD,f,(KW r).1,(KW r).2)
theorem Q6V {l:BL}:l.dropWhile isD=[]↔(l.takeWhile isD).length=l.length:=by
 have h:=congrArg List.length (List.takeWhile_append_dropWhile (p:=isD) (l:=l))
 rw [List.length_append] at h
 constructor
 ·intro e;rw [e] at h;simpa using h
 ·intro e;exact List.eq_nil_of_length_eq_zero (by omega)
theorem Jw {c:Nat} {b:UInt8} {r:BL} (h:¬b.toNat=c):Qq c (b :: r)=b :: r:=by simp [Qq,h]
theorem Jv {c:Nat} {b:UInt8} {r:BL} (h:b.toNat=c):Qq c (b :: r)=r:=by simp [Qq,h]
theorem Q2I (r:BL):GC r=([],true)↔(KW r).2=true:=by
 cases r with
 |nil=>simp [GC,KW]
 |cons b q=>
  by_cases he:b.toNat=101∨b.toNat=69
  ·have he':(decide (b.toNat=101) || decide (b.toNat=69))=true:=by simpa using he
   simp only [GC,he,if_true,KW,he',Bool.true_and]
   have key:∀ m:BL,((m.dropWhile isD,!(m.takeWhile isD).isEmpty)=(([],true):BL×Bool))↔(!m.isEmpty && decide ((m.takeWhile isD).length=m.length))=true:=by
    intro m
    simp only [Prod.mk.injEq,Q6V,Bool.and_eq_true,decide_eq_true_eq,Bool.not_eq_true']
    constructor
    ·rintro ⟨h1,h2⟩
     refine ⟨?_,h1⟩
     cases m with
     |nil=>simp at h2
     |cons=>rfl
    ·rintro ⟨h1,h2⟩
     refine ⟨h2,?_⟩
     cases m with
     |nil=>simp at h1
     |cons x m=>
      cases ht:(x :: m).takeWhile isD with
      |nil=>rw [ht] at h2;simp at h2
      |cons=>rfl
   cases q with
   |nil=>simp [Qq]
   |cons c q2=>
    by_cases h43:c.toNat=43
    ·have h45:¬c.toNat=45:=by omega
     rw [Jv h43]
     simp only [h43,true_or,if_true]
     rw [key]
     have hne:(decide (q2 ≠ c :: q2))=true:=by
      simp only [ne_eq,decide_eq_true_eq];intro e;have:=congrArg List.length e;simp at this
     rw [hne]
     cases q2 with
     |nil=>simp [Qq]
     |cons d q3=>
      by_cases hd:d.toNat=45
      ·rw [Jv hd]
       have hdn:isD d=false:=by simp [isD];omega
       have hq:decide (q3 ≠ d :: q3)=true:=by
        simp only [ne_eq,decide_eq_true_eq];intro e;have:=congrArg List.length e;simp at this
       simp [hq,List.takeWhile_cons,hdn]
      ·rw [Jw hd];simp
    ·rw [Jw h43]
     by_cases h45:c.toNat=45
     ·simp only [h45,or_true,if_true]
      rw [key,Jv h45];simp
     ·have:¬(c.toNat=43∨c.toNat=45):=by omega
      simp only [this,if_false]
      rw [key,Jw h45];simp
  ·have he':(decide (b.toNat=101) || decide (b.toNat=69))=false:=by
    simp only [Bool.or_eq_false_iff,decide_eq_false_iff_not];omega
   simp [GC,he,KW,he']
theorem Q0f (r:BL):Ug r=([],true)↔∃ f r',VP r=some (f,r')∧(KW r').2=true:=by
 cases r with
 |nil=>exact ⟨fun _=>⟨[],[],rfl,rfl⟩,fun _=>rfl⟩
 |cons b q=>
  by_cases h:b.toNat=46
  ·simp only [Ug,h,if_true,VP]
   by_cases h2:(q.takeWhile isD).isEmpty=true
   ·simp [h2]
   ·simp only [h2,Bool.false_eq_true,if_false]
    rw [Q2I]
    constructor
    ·intro h3;exact ⟨_,_,rfl,h3⟩
    ·rintro ⟨f,r',h3,h4⟩;simp only [Option.some.injEq,Prod.mk.injEq] at h3;rw [h3.2];exact h4
  ·simp only [Ug,h,if_false,VP]
   rw [Q2I]
   constructor
   ·intro h3;exact ⟨_,_,rfl,h3⟩
   ·rintro ⟨f,r',h3,h4⟩;simp only [Option.some.injEq,Prod.mk.injEq] at h3;rw [h3.2];exact h4
theorem Q9a (l:BL):Qb4 l=([],true)↔(QB l).2.2.2=true:=by
 unfold Qb4 QB
 cases l with
 |nil=>simp
 |cons b r=>
  by_cases hb:isD b=true
  ·have htw:(b :: r).takeWhile isD=b :: r.takeWhile isD:=by simp [List.takeWhile_cons,hb]
   have hdw:(b :: r).dropWhile isD=r.dropWhile isD:=by simp [List.dropWhile_cons,hb]
   rw [htw,hdw]
   simp only [List.isEmpty_cons,Bool.false_eq_true,if_false,List.length_cons,Nat.add_one_ne_zero,false_or,List.headD_cons]
   by_cases h48:b.toNat=48
   ·have hb48:b=48:=UInt8.toNat_inj.1 h48
    subst hb48
    have e48:UInt8.toNat 48=48:=rfl
    simp only [e48,if_true,and_true]
    cases r with
    |nil=>simp [Ug,GC,VP,KW]
    |cons c q=>
     by_cases hc:isD c=true
     ·have hc2:=(Vw c).1 hc
      have h1:¬c.toNat=46:=by omega
      have h2:¬(c.toNat=101∨c.toNat=69):=by omega
      simp [Ug,h1,GC,h2,List.takeWhile_cons,hc]
     ·have htw2:(c :: q).takeWhile isD=[]:=by simp [List.takeWhile_cons,hc]
      have hdw2:(c :: q).dropWhile isD=c :: q:=by simp [List.dropWhile_cons,hc]
      rw [htw2,hdw2]
      simp only [List.length_nil,Nat.lt_irrefl,if_false]
      rw [Q0f]
      constructor
      ·rintro ⟨f,r',h1,h2⟩;rw [h1];exact h2
      ·intro h
       cases hp:VP (c :: q) with
       |none=>rw [hp] at h;simp at h
       |some p=>obtain ⟨f,r'⟩:=p;rw [hp] at h;exact ⟨f,r',rfl,h⟩
   ·have hb48:¬b=48:=fun e=>h48 (by rw [e];rfl)
    simp only [h48,if_false,hb48,and_false]
    rw [Q0f]
    constructor
    ·rintro ⟨f,r',h1,h2⟩;rw [h1];exact h2
    ·intro h
     cases hp:VP (r.dropWhile isD) with
     |none=>rw [hp] at h;simp at h
     |some p=>obtain ⟨f,r'⟩:=p;rw [hp] at h;exact ⟨f,r',rfl,h⟩
  ·have htw:(b :: r).takeWhile isD=[]:=by simp [List.takeWhile_cons,hb]
   rw [htw];simp
theorem Q8i (s:ByteArray):¬((QY s 0).2=false∨¬(QY s 0).1=s.size)↔(QB (Qq 45 s.data.toList)).2.2.2=true:=by
 have hl:=Q62 s
 rw [← Q9a]
 change _↔Q6q s.data.toList=([],true)
 obtain ⟨h1,h2,h3⟩:=hl
 have hlen:s.data.toList.length=s.size:=Array.length_toList
 constructor
 ·intro h
  have h4:(QY s 0).2=true:=by cases hb:(QY s 0).2<;>simp_all
  have h5:(QY s 0).1=s.size:=by by_cases e:(QY s 0).1=s.size<;>simp_all
  rw [h5] at h2
  have h6:Q6q s.data.toList=((Q6q s.data.toList).1,(Q6q s.data.toList).2):=rfl
  rw [h6,←h2,←h3,h4,Y4 (Nat.le_refl _)]
 ·intro h
  rw [h] at h2 h3
  have h5:(QY s 0).1=s.size:=by
   have:=congrArg List.length h2
   rw [List.length_drop] at this
   simp at this h1;omega
  simp only [not_or,Bool.not_eq_false,Decidable.not_not]
  exact ⟨h3,h5⟩
end Lg
namespace Lg
open Go
def ba (l:BL):ByteArray:=⟨l.toArray⟩
theorem Zu (l:BL):(ba l).data.toList=l:=by simp [ba]
theorem ZY (l:BL):(ba l).size=l.length:=by
 have:(ba l).data.toList.length=(ba l).size:=Array.length_toList
 rw [← this,Zu]
theorem Q2U {a b:ByteArray} (h:a.data.toList=b.data.toList):a=b:=by
 cases a;cases b;congr 1;exact Array.ext' h
theorem Q6A (d:ByteArray):d=ba d.data.toList:=Q2U (by rw [Zu])
theorem Q96 (b:UInt8):u8b (b.toNat:Int)=b:=by
 unfold u8b;simp
def JA (x:Int) (l:BL):Int:=l.foldl (fun x b=>min (10 * x+(b.toNat:Int) - 48) 1000000) x
def Xe (x:Int) (l:BL):Int:=l.foldl (fun x b=>10 * x+(b.toNat:Int) - 48) x
def aD (l:BL):Prop:=∀ b∈l,isD b=true
theorem Kt {b:UInt8} {l:BL} (h:aD (b :: l)):(48≤b.toNat∧b.toNat≤57)∧aD l:=⟨(Vw b).1 (h b (List.mem_cons_self ..)),fun c hc=>h c (List.mem_cons_of_mem _ hc)⟩
theorem Q4M:∀ (l:BL) (v:Int),aD l→0≤v→JA (min v 1000000) l=min (Xe v l) 1000000
 |[],v,_,_=>rfl
 |b :: l,v,h,hv=>by
  have hb:=Kt h
  show JA (min (10 * (min v 1000000)+(b.toNat:Int) - 48) 1000000) l=min (Xe (10 * v+(b.toNat:Int) - 48) l) 1000000
  rw [← Q4M l _ hb.2 (by omega)]
  congr 1;omega
theorem Q1q:∀ (l:BL) (v:Int),aD l→0≤v→v * 10 ^ l.length≤Xe v l
 |[],v,_,_=>by simp [Xe]
 |b :: l,v,h,hv=>by
  have hb:=Kt h
  show v * 10 ^ (l.length+1)≤Xe (10 * v+(b.toNat:Int) - 48) l
  refine Int.le_trans ?_ (Q1q l _ hb.2 (by omega))
  rw [Int.pow_succ',←Int.mul_assoc]
  exact Int.mul_le_mul_of_nonneg_right (by omega) (Int.pow_nonneg (by decide))
theorem Q3L (l:BL):Xe 0 (l.dropWhile (· == 48))=Xe 0 l:=by
 induction l with
 |nil=>rfl
 |cons b l ih=>
  by_cases h:b=48
  ·subst h
   simp only [List.dropWhile_cons,beq_self_eq_true,if_true,ih]
   rfl
  ·have:(b == 48)=false:=by simpa using h
   simp [List.dropWhile_cons,this]
def Yj (x:BL):Int:=if (x.dropWhile (· == 48)).length < 15 then Xe 0 (x.dropWhile (· == 48)) else 1000000000000000
theorem Qb5 {l:BL} (h:aD l):aD (l.dropWhile (· == 48)):=fun b hb=>h b ((List.dropWhile_sublist _).mem hb)
theorem Q3G {x:BL} (h:aD x):min (Yj x) 1000000=JA 0 x∧0≤Yj x:=by
 have h0:JA 0 x=min (Xe 0 x) 1000000:=Q4M x 0 h (Int.le_refl _)
 rw [h0,←Q3L x]
 have hd:=Qb5 h
 have hge:=Q1q _ 0 hd (Int.le_refl _)
 rw [Int.zero_mul] at hge
 unfold Yj
 split
 ·exact ⟨rfl,hge⟩
 ·rename_i hl
  refine ⟨?_,by decide⟩
  cases hx:x.dropWhile (· == 48) with
  |nil=>rw [hx] at hl;simp at hl
  |cons c r=>
   rw [hx] at hl hd
   have hc:=Kt hd
   have hc48:¬c=48:=by
    intro e
    have:=List.head_dropWhile_not (p:=(· == (48:UInt8))) (l:=x) (by rw [hx];simp)
    simp [hx,e] at this
   have hc2:¬c.toNat=48:=fun e=>hc48 (UInt8.toNat_inj.1 e)
   have hv:Xe 0 (c :: r)=Xe (10 * 0+(c.toNat:Int) - 48) r:=rfl
   have h1:=Q1q r (10 * 0+(c.toNat:Int) - 48) hc.2 (by omega)
   have h2:(10:Int) ^ 14≤10 ^ r.length:=by
    have:=Nat.pow_le_pow_right (n:=10) (by decide) (show 14≤r.length by simp at hl;omega)
    have h5:((10 ^ 14:Nat):Int)≤((10 ^ r.length:Nat):Int):=Int.ofNat_le.2 this
    rw [Int.natCast_pow,Int.natCast_pow] at h5
    exact h5
   have h3:(1:Int) * 10 ^ r.length≤(10 * 0+(c.toNat:Int) - 48) * 10 ^ r.length:=Int.mul_le_mul_of_nonneg_right (by omega) (Int.pow_nonneg (by decide))
   have h4:(10:Int) ^ 14=100000000000000:=by decide
   rw [hv];omega
abbrev KO (l:BL) (t:NSt):NSt:=l.foldl (fun t b=>ZK b.toNat t) t
theorem V3:∀ (l:BL) (ng dn pt:Bool) (d:ByteArray) (b x:Int),aD l→KO l ⟨ng,dn,pt,false,d,b,x⟩=⟨ng,dn,pt,false,ba (d.data.toList++l),b+(if pt=true then (l.length:Int) else 0),x⟩
 |[],ng,dn,pt,d,b,x,_=>by
  have:ba (d.data.toList++[])=d:=by rw [List.append_nil];exact (Q6A d).symm
  rw [this];cases pt<;>simp
 |c :: l,ng,dn,pt,d,b,x,h=>by
  have hc:=Kt h
  have h1:ZK c.toNat ⟨ng,dn,pt,false,d,b,x⟩=⟨ng,dn,pt,false,d++⟨#[c]⟩,if pt=true then b+1 else b,x⟩:=by
   simp only [ZK,Bool.false_eq_true,if_false,Q96]
   rw [if_neg (by omega),if_neg (by omega),if_neg (by omega)]
  show KO l (ZK c.toNat _)=_
  rw [h1,V3 l ng dn pt _ _ x hc.2]
  congr 1
  ·rw [show (d++⟨#[c]⟩:ByteArray).data.toList=d.data.toList++[c] by simp];simp
  ·cases pt<;>simp<;>omega
theorem Ww:∀ (l:BL) (ng dn pt:Bool) (d:ByteArray) (b x:Int),aD l→KO l ⟨ng,dn,pt,true,d,b,x⟩=⟨ng,dn,pt,true,d,b,JA x l⟩
 |[],ng,dn,pt,d,b,x,_=>rfl
 |c :: l,ng,dn,pt,d,b,x,h=>by
  have hc:=Kt h
  have h1:ZK c.toNat ⟨ng,dn,pt,true,d,b,x⟩=⟨ng,dn,pt,true,d,b,min (10 * x+(c.toNat:Int) - 48) 1000000⟩:=by
   simp only [ZK,if_true]
   rw [if_neg (by omega),if_pos hc.1]
  show KO l (ZK c.toNat _)=_
  rw [h1,Ww l ng dn pt d b _ hc.2];rfl
theorem Um {l:BL} (h:(l.takeWhile isD).length=l.length):aD l:=by
 have h1:l.takeWhile isD=l:=by
  have:=List.takeWhile_append_dropWhile (p:=isD) (l:=l)
  rw [Q6V.2 h,List.append_nil] at this;exact this
 intro b hb
 rw [← h1] at hb
 exact List.all_eq_true.1 (List.all_takeWhile (p:=isD) (l:=l)) b hb
theorem Qb6 (l:BL):aD (l.takeWhile isD):=fun b hb=>List.all_eq_true.1 (List.all_takeWhile (p:=isD) (l:=l)) b hb
def Y0:BL→Bool
 |[]=>false
 |b :: _=>b == 45
theorem Hm {r:BL} (h:(KW r).2=true) (ng pt:Bool) (d:ByteArray) (b:Int):∃ pw,KO r ⟨ng,false,pt,false,d,b,0⟩=⟨ng,Y0 (KW r).1,pt,pw,d,b,JA 0 (Qq 45 (KW r).1)⟩∧aD (Qq 45 (KW r).1)∧(KW r).1 ≠ []:=by
 cases r with
 |nil=>exact ⟨false,rfl,fun b hb=>by simp [KW,Qq] at hb;subst hb;rfl,by simp [KW]⟩
 |cons e q=>
  simp only [KW,Bool.and_eq_true,Bool.or_eq_true,decide_eq_true_eq,Bool.not_eq_true',Bool.and_eq_false_iff,decide_eq_false_iff_not] at h
  obtain ⟨he,hne,hall,hpl⟩:=h
  have hX:=Um hall
  refine ⟨true,?_,hX,?_⟩
  ·have h1:ZK e.toNat ⟨ng,false,pt,false,d,b,0⟩=⟨ng,false,pt,true,d,b,0⟩:=by
    simp only [ZK,Bool.false_eq_true,if_false]
    rw [if_neg (by omega),if_neg (by omega),if_pos he]
   show KO q (ZK e.toNat _)=_
   rw [h1]
   simp only [KW]
   cases q with
   |nil=>simp [Qq] at hne
   |cons c q2=>
    by_cases h43:c.toNat=43
    ·rw [Jv h43] at hne hX hpl ⊢
     have hc:ZK c.toNat ⟨ng,false,pt,true,d,b,0⟩=⟨ng,false,pt,true,d,b,0⟩:=by
      simp only [ZK,if_true];rw [if_neg (by omega),if_neg (by omega)]
     show KO q2 (ZK c.toNat _)=_
     have hq:Qq 45 q2=q2:=by
      rcases hpl with h|h
      ·exfalso;apply h;intro e;have:=congrArg List.length e;simp at this
      ·simpa using h
     rw [hq] at hX ⊢
     rw [hc,Ww q2 _ _ _ _ _ _ hX]
     congr 1
     cases q2 with
     |nil=>rfl
     |cons f q3=>
      have:=Kt hX
      have:¬f=45:=fun e=>by subst e;simp at this
      simp [Y0,this]
    ·rw [Jw h43] at hne hX hpl ⊢
     by_cases h45:c.toNat=45
     ·rw [Jv h45] at hX ⊢
      have hc45:c=45:=UInt8.toNat_inj.1 h45
      have hc:ZK c.toNat ⟨ng,false,pt,true,d,b,0⟩=⟨ng,true,pt,true,d,b,0⟩:=by
       simp only [ZK,if_true];rw [if_pos h45,if_neg (by omega)]
      show KO q2 (ZK c.toNat _)=_
      rw [hc,Ww q2 _ _ _ _ _ _ hX]
      simp [Y0,hc45]
     ·rw [Jw h45] at hX ⊢
      rw [Ww _ _ _ _ _ _ _ hX]
      have:¬c=45:=fun e=>h45 (by rw [e];rfl)
      simp [Y0,this]
  ·simp only [KW]
   intro e
   rw [e] at hne;simp [Qq] at hne
end Lg
namespace Lg
open Go
def Xc (l:BL):BL:=l.dropWhile (· == 48)
def Zi (l:BL):BL:=(l.reverse.dropWhile (· == 48)).reverse
theorem Gz (p:UInt8→Bool) (l:BL):l.dropWhile p=l.drop (l.takeWhile p).length:=by
  induction l with
  |nil=>rfl
  |cons b r ih=>
    by_cases h:p b=true
    · simp [List.dropWhile_cons,List.takeWhile_cons,h,ih]
    · simp [List.dropWhile_cons,List.takeWhile_cons,h]
theorem Q42 (d:ByteArray) (i:Nat):fz d i=i+((d.data.toList.drop i).takeWhile (· == 48)).length:=by
  by_cases h:i < d.size∧(bat d i).toNat=48
  · have h1:(bat d i == 48)=true:=by simpa using UInt8.toNat_inj.1 h.2
    rw [Q7a h.1 h.2,Xl h.1,List.takeWhile_cons,if_pos h1,List.length_cons,Q42 d (i+1)];omega
  · rw [Q79 h]
    by_cases h1:i < d.size
    · have h2:¬(bat d i == 48)=true:=fun e=>h ⟨h1,by rw [show bat d i=48 by simpa using e];rfl⟩
      rw [Xl h1,List.takeWhile_cons,if_neg h2];rfl
    · rw [Y4 (by omega)];rfl
termination_by d.size - i
theorem Q5j (l:BL) (c:UInt8):Zi (l++[c])=if c=48 then Zi l else l++[c]:=by
  unfold Zi
  rw [List.reverse_append]
  by_cases h:c=48
  · simp [h]
  · have:(c == 48)=false:=by simpa using h
    simp [List.dropWhile_cons,this,h]
theorem Q6e {l:BL} {k:Nat} (h:k < l.length):l.take (k+1)=l.take k++[l.getD k 0]:=by
  rw [List.take_add_one,List.getD_eq_getElem?_getD,List.getElem?_eq_getElem h];rfl
theorem Q4h (d:ByteArray) (f:Nat):∀ l:Nat,f≤l→l≤d.size→lz d f l=f+(Zi ((d.data.toList.take l).drop f)).length
  |0,h,_=>by
    have:f=0:=by omega
    subst this;simp [lz,Zi]
  |l+1,h,hl=>by
    have hlen:d.data.toList.length=d.size:=Array.length_toList
    rw [lz]
    by_cases hf:f=l+1
    · subst hf
      rw [if_neg (by omega)]
      have:(d.data.toList.take (l+1)).drop (l+1)=[]:=List.drop_eq_nil_of_le (by rw [List.length_take];omega)
      rw [this];rfl
    · have ht:(d.data.toList.take (l+1)).drop f=(d.data.toList.take l).drop f++[bat d l]:=by
        rw [Q6e (by omega),List.drop_append_of_le_length (by rw [List.length_take];omega)];rfl
      rw [ht,Q5j]
      by_cases hb:(bat d l).toNat=48
      · rw [if_pos ⟨by omega,hb⟩,if_pos (UInt8.toNat_inj.1 hb),Q4h d f l (by omega) (by omega)]
      · rw [if_neg (fun h=>hb h.2),if_neg (fun e=>hb (by rw [e];rfl))]
        simp only [List.length_append,List.length_drop,List.length_take,List.length_cons,List.length_nil];omega
theorem Q6S (l:BL):(Zi l).length≤l.length:=by
  unfold Zi
  have:=(List.dropWhile_sublist (l:=l.reverse) (· == (48:UInt8))).length_le
  simpa using this
theorem Hd (l:BL):Zi l=l.take (Zi l).length:=by
  have h:=List.takeWhile_append_dropWhile (p:=(· == (48:UInt8))) (l:=l.reverse)
  have h2:l=Zi l++(l.reverse.takeWhile (· == 48)).reverse:=by
    unfold Zi
    rw [← List.reverse_append,h,List.reverse_reverse]
  have h3:=congrArg (List.take (Zi l).length) h2
  rw [List.take_left' rfl] at h3
  exact h3.symm
theorem Q1E {l:BL} (h:∀ b∈l.head?,b ≠ 48):Zi l=[]↔l=[]:=by
  constructor
  · intro e
    cases l with
    |nil=>rfl
    |cons b r=>
      exfalso
      have hb:=h b rfl
      have:b∈(b :: r).reverse.dropWhile (· == 48):=by
        have h1:=List.takeWhile_append_dropWhile (p:=(· == (48:UInt8))) (l:=(b :: r).reverse)
        have h2:b∈(b :: r).reverse:=by simp
        rw [← h1] at h2
        rcases List.mem_append.1 h2 with h3|h3
        · have:=List.all_eq_true.1 (List.all_takeWhile (p:=(· == (48:UInt8))) (l:=(b :: r).reverse)) b h3
          simp at this;exact absurd this hb
        · exact h3
      unfold Zi at e
      rw [List.reverse_eq_nil_iff] at e
      rw [e] at this;simp at this
  · rintro rfl;rfl
theorem Q5i {l:BL} (h:Zi l ≠ []):(Zi l).getLast h ≠ 48:=by
  unfold Zi at h ⊢
  rw [List.getLast_reverse]
  have:=List.head_dropWhile_not (p:=(· == (48:UInt8))) (l:=l.reverse) (fun e=>h (by rw [e];rfl))
  simpa using this
theorem FI (l:BL):∀ b∈(Xc l).head?,b ≠ 48:=fun b hb=>by
  unfold Xc at hb
  have:=List.head?_dropWhile_not (p:=(· == (48:UInt8))) l
  rw [Option.mem_def.1 hb] at this
  simpa using this
theorem Q5h {l:BL} (h:Zi l ≠ []):(Zi l).head? =l.head? :=by
  rw [Hd]
  cases l with
  |nil=>simp
  |cons b r=>
    have:0 < (Zi (b :: r)).length:=List.length_pos_iff.2 h
    cases hk:(Zi (b :: r)).length with
    |zero=>omega
    |succ k=>rfl
def Q89 (l:BL):JNum×Int:=
  if (QB (Qq 45 l)).2.2.2=false then ({},1) else
  if Xc ((QB (Qq 45 l)).1++(QB (Qq 45 l)).2.1)=[] then ({},0) else
  if 60 < (Zi (Xc ((QB (Qq 45 l)).1++(QB (Qq 45 l)).2.1))).length∨
     1000 < (if Y0 (QB (Qq 45 l)).2.2.1=true then -Yj (Qq 45 (QB (Qq 45 l)).2.2.1) else Yj (Qq 45 (QB (Qq 45 l)).2.2.1)) - (QB (Qq 45 l)).2.1.length+(Xc ((QB (Qq 45 l)).1++(QB (Qq 45 l)).2.1)).length - (Zi (Xc ((QB (Qq 45 l)).1++(QB (Qq 45 l)).2.1))).length∨
     (if Y0 (QB (Qq 45 l)).2.2.1=true then -Yj (Qq 45 (QB (Qq 45 l)).2.2.1) else Yj (Qq 45 (QB (Qq 45 l)).2.2.1)) - (QB (Qq 45 l)).2.1.length+(Xc ((QB (Qq 45 l)).1++(QB (Qq 45 l)).2.1)).length - (Zi (Xc ((QB (Qq 45 l)).1++(QB (Qq 45 l)).2.1))).length < -1000 then ({},5) else
  (⟨Y0 l,ba (Zi (Xc ((QB (Qq 45 l)).1++(QB (Qq 45 l)).2.1))),
    (if Y0 (QB (Qq 45 l)).2.2.1=true then -Yj (Qq 45 (QB (Qq 45 l)).2.2.1) else Yj (Qq 45 (QB (Qq 45 l)).2.2.1)) - (QB (Qq 45 l)).2.1.length+(Xc ((QB (Qq 45 l)).1++(QB (Qq 45 l)).2.1)).length - (Zi (Xc ((QB (Qq 45 l)).1++(QB (Qq 45 l)).2.1))).length⟩,0)
theorem Ho {m:BL} (h:(QB m).2.2.2=true) (ng:Bool):∃ pt pw,KO m ⟨ng,false,false,false,e0,0,0⟩=⟨ng,Y0 (QB m).2.2.1,pt,pw,ba ((QB m).1++(QB m).2.1),((QB m).2.1.length:Int),JA 0 (Qq 45 (QB m).2.2.1)⟩∧
    aD (Qq 45 (QB m).2.2.1)∧(QB m).2.2.1 ≠ []∧aD ((QB m).1++(QB m).2.1)∧(QB m).1 ≠ []∧(QB m).1.length+(QB m).2.1.length≤m.length:=by
  unfold QB at h ⊢
  split at h
  · simp at h
  · rename_i hc
    rw [if_neg hc]
    cases hp:VP (m.dropWhile isD) with
    |none=>rw [hp] at h;simp at h
    |some p=>
      obtain ⟨f,r⟩:=p
      rw [hp] at h
      simp only at h ⊢
      have hm:=List.takeWhile_append_dropWhile (p:=isD) (l:=m)
      have hW:=Qb6 m
      have hlen:=congrArg List.length hm
      rw [List.length_append] at hlen
      have hWne:m.takeWhile isD ≠ []:=fun e=>hc (.inl (by rw [e];rfl))
      have he0:e0.data.toList=[]:=rfl
      have hb0:∀ l:BL,ba (e0.data.toList++l)=ba l:=fun l=>by rw [he0,List.nil_append]
      cases hd:m.dropWhile isD with
      |nil=>
        rw [hd] at hp hlen
        simp only [VP,Option.some.injEq,Prod.mk.injEq] at hp
        obtain ⟨rfl,rfl⟩:=hp
        obtain ⟨pw,h1,h2,h3⟩:=Hm h ng false (ba (m.takeWhile isD)) 0
        refine ⟨false,pw,?_,h2,h3,by rw [List.append_nil];exact hW,hWne,by simp at hlen ⊢;omega⟩
        conv=>lhs;rw [← hm,hd,List.append_nil]
        rw [V3 _ _ _ _ _ _ _ hW,hb0,List.append_nil]
        simpa [KO] using h1
      |cons b q=>
        rw [hd] at hp hlen
        simp only [VP] at hp
        split at hp
        · rename_i h46
          split at hp
          · cases hp
          · rename_i hq
            simp only [Option.some.injEq,Prod.mk.injEq] at hp
            obtain ⟨rfl,rfl⟩:=hp
            have hq2:=List.takeWhile_append_dropWhile (p:=isD) (l:=q)
            have hF:=Qb6 q
            have hlen2:=congrArg List.length hq2
            rw [List.length_append] at hlen2
            obtain ⟨pw,h1,h2,h3⟩:=Hm h ng true (ba (m.takeWhile isD++q.takeWhile isD)) (q.takeWhile isD).length
            refine ⟨true,pw,?_,h2,h3,fun c hcm=>(List.mem_append.1 hcm).elim (hW c) (hF c),hWne,by simp at hlen;omega⟩
            have hdot:ZK b.toNat ⟨ng,false,false,false,ba (m.takeWhile isD),0,0⟩=⟨ng,false,true,false,ba (m.takeWhile isD),0,0⟩:=by
              simp only [ZK,Bool.false_eq_true,if_false];rw [if_neg (by omega),if_pos h46]
            conv=>lhs;rw [← hm,hd]
            show List.foldl _ _ _=_
            rw [List.foldl_append,show List.foldl (fun t (b:UInt8)=>ZK b.toNat t) ⟨ng,false,false,false,e0,0,0⟩ (m.takeWhile isD)=_ from V3 _ _ _ _ _ _ _ hW,hb0]
            rw [List.foldl_cons]
            simp only [Bool.false_eq_true,if_false,Int.add_zero]
            rw [hdot]
            conv=>lhs;rw [← hq2]
            rw [List.foldl_append,show List.foldl (fun t (b:UInt8)=>ZK b.toNat t) ⟨ng,false,true,false,ba (m.takeWhile isD),0,0⟩ (q.takeWhile isD)=_ from V3 _ _ _ _ _ _ _ hF,Zu]
            simpa [KO] using h1
        · simp only [Option.some.injEq,Prod.mk.injEq] at hp
          obtain ⟨rfl,rfl⟩:=hp
          obtain ⟨pw,h1,h2,h3⟩:=Hm h ng false (ba (m.takeWhile isD)) 0
          refine ⟨false,pw,?_,h2,h3,by rw [List.append_nil];exact hW,hWne,by simp at hlen ⊢;omega⟩
          conv=>lhs;rw [← hm,hd]
          show List.foldl _ _ _=_
          rw [List.foldl_append,show List.foldl (fun t (b:UInt8)=>ZK b.toNat t) ⟨ng,false,false,false,e0,0,0⟩ (m.takeWhile isD)=_ from V3 _ _ _ _ _ _ _ hW,hb0,List.append_nil]
          simpa [KO] using h1
end Lg
namespace Lg
open Go
theorem Q6C (d:ByteArray) (i:Nat):bat d i=d.data.toList.getD i 0:=rfl
theorem Un (l:BL) (i:Nat):bat (ba l) i=l.getD i 0:=by rw [Q6C,Zu]
theorem Q9p {l:BL} (h:aD l):Gy (ba l) l.length:=fun j hj=>by
  unfold dig
  rw [Un,List.getD_eq_getElem?_getD,List.getElem?_eq_getElem hj]
  exact (Vw _).1 (h _ (List.getElem_mem hj))
theorem Q3j {l:BL} (hl:aD l) (hne:l ≠ []) (hh:∀ b∈l.head?,b ≠ 48) (ng:Bool) (x:Int):
    NumMay ⟨ng,ba (Zi l),x⟩↔(Zi l).length≤60∧-1000≤x∧x≤1000:=by
  have hc:Zi l ≠ []:=fun e=>hne ((Q1E hh).1 e)
  have hpos:0 < (Zi l).length:=List.length_pos_iff.2 hc
  have hne2:¬ba (Zi l)=⟨#[]⟩:=fun e=>by
    have:=congrArg ByteArray.size e
    rw [ZY] at this
    change (Zi l).length=0 at this
    omega
  have hsub:aD (Zi l):=fun b hb=>by
    rw [Hd] at hb
    exact hl b (List.mem_of_mem_take hb)
  have hfirst:(bat (ba (Zi l)) 0).toNat ≠ 48:=by
    rw [Un]
    have h1:=Q5h hc
    cases hk:Zi l with
    |nil=>exact absurd hk hc
    |cons b r=>
      rw [hk] at h1
      have:=hh b (by rw [← h1];rfl)
      simp only [List.getD_cons_zero]
      exact fun e=>this (UInt8.toNat_inj.1 e)
  have hlast:(bat (ba (Zi l)) ((ba (Zi l)).size - 1)).toNat ≠ 48:=by
    rw [Un,ZY]
    have h1:=Q5i hc
    have h2:(Zi l).getD ((Zi l).length - 1) 0=(Zi l).getLast hc:=by
      rw [List.getLast_eq_getElem,List.getD_eq_getElem?_getD,List.getElem?_eq_getElem (by omega)];rfl
    rw [h2]
    exact fun e=>h1 (UInt8.toNat_inj.1 e)
  unfold NumMay
  constructor
  · rintro (⟨h,_⟩|⟨_,_,h2,_,_,h3,h4⟩)
    · exact absurd h hne2
    · rw [ZY] at h2;exact ⟨h2,h3,h4⟩
  · rintro ⟨h2,h3,h4⟩
    refine .inr ⟨hne2,?_,by rw [ZY];exact h2,hfirst,hlast,h3,h4⟩
    show Gy (ba (Zi l)) (ba (Zi l)).size
    rw [ZY];exact Q9p hsub
theorem Q6c (c:Nat) (l:BL):(Qq c l).length≤l.length:=by
  cases l with
  |nil=>exact Nat.le_refl _
  |cons b r=>
    by_cases h:b.toNat=c
    · rw [Jv h];simp
    · rw [Jw h];exact Nat.le_refl _
theorem Q63 (s:ByteArray) (hs:s.size≤1000):YH s=Q89 s.data.toList:=by
  have hiff:=Q8i s
  have hlen:s.data.toList.length=s.size:=Array.length_toList
  unfold YH Q89
  by_cases hok:¬(QB (Qq 45 s.data.toList)).2.2.2=true
  · have hf:(QB (Qq 45 s.data.toList)).2.2.2=false:=by simpa using hok
    rw [if_pos hf,if_pos (Decidable.byContradiction fun h=>hok (hiff.1 h))]
  · have hok:=Decidable.not_not.1 hok
    rw [if_neg (hiff.2 hok),if_neg (show ¬(QB (Qq 45 s.data.toList)).2.2.2=false by rw [hok];simp)]
    have hfold:∃ pt pw,nloop s 0 Fu=⟨Y0 s.data.toList,Y0 (QB (Qq 45 s.data.toList)).2.2.1,pt,pw,ba ((QB (Qq 45 s.data.toList)).1++(QB (Qq 45 s.data.toList)).2.1),((QB (Qq 45 s.data.toList)).2.1.length:Int),JA 0 (Qq 45 (QB (Qq 45 s.data.toList)).2.2.1)⟩:=by
      rw [HB,List.drop_zero]
      cases hl:s.data.toList with
      |nil=>rw [hl] at hok;simp [Qq,QB] at hok
      |cons b r=>
        rw [hl] at hok
        by_cases hb:b.toNat=45
        · have hb45:b=45:=UInt8.toNat_inj.1 hb
          obtain ⟨pt,pw,h1,_⟩:=Ho hok true
          refine ⟨pt,pw,?_⟩
          rw [Jv hb] at h1 ⊢
          have hst:ZK b.toNat Fu=⟨true,false,false,false,e0,0,0⟩:=by
            simp only [Fu,ZK,Bool.false_eq_true,if_false];rw [if_pos hb]
          rw [List.foldl_cons,hst]
          have hh:Y0 (b :: r)=true:=by simp [Y0,hb45]
          rw [hh];exact h1
        · obtain ⟨pt,pw,h1,_⟩:=Ho hok false
          refine ⟨pt,pw,?_⟩
          rw [Jw hb] at h1 ⊢
          have hh:Y0 (b :: r)=false:=by
            simp only [Y0,beq_eq_false_iff_ne,ne_eq];exact fun e=>hb (by rw [e];rfl)
          rw [hh];exact h1
    obtain ⟨_,_,_,hX,hXne,hD,hWne,hDl⟩:=Ho hok true
    obtain ⟨pt,pw,hT⟩:=hfold
    rw [hT]
    generalize QB (Qq 45 s.data.toList)=P at *
    obtain ⟨W,F,E,ok⟩:=P
    simp only at *
    generalize hDD:W++F=D at *
    have hDsz:(ba D).size=D.length:=ZY D
    have hstripl:(Qq 45 s.data.toList).length≤s.size:=by
      rw [← hlen];exact Q6c 45 _
    have hDn:D.length=W.length+F.length:=by rw [← hDD];simp
    have hnF:nF ⟨Y0 s.data.toList,Y0 E,pt,pw,ba D,F.length,JA 0 (Qq 45 E)⟩=(D.takeWhile (· == 48)).length:=by
      unfold nF;rw [Q42,Zu];simp
    have hfl:(D.takeWhile (· == 48)).length≤D.length:=(List.takeWhile_sublist _).length_le
    have hdrop:D.drop (D.takeWhile (· == 48)).length=Xc D:=(Gz _ D).symm
    have hnL:nL ⟨Y0 s.data.toList,Y0 E,pt,pw,ba D,F.length,JA 0 (Qq 45 E)⟩=(D.takeWhile (· == 48)).length+(Zi (Xc D)).length:=by
      unfold nL;rw [hnF]
      simp only
      rw [Q4h _ _ _ (by rw [hDsz];exact hfl) (Nat.le_refl _),Zu,hDsz,List.take_length,hdrop]
    have hcl:(Xc D).length=D.length - (D.takeWhile (· == 48)).length:=by rw [← hdrop,List.length_drop]
    have hcr:=Q6S (Xc D)
    have hnil:=Q1E (FI D)
    rw [hnF,hnL]
    by_cases hall:Xc D=[]
    · rw [if_pos (by rw [hall];rfl),if_pos hall]
    · have hcne:Zi (Xc D) ≠ []:=fun e=>hall (hnil.1 e)
      have hcpos:0 < (Zi (Xc D)).length:=List.length_pos_iff.2 hcne
      rw [if_neg (by omega),if_neg hall]
      have hofd:(ba D).extract (D.takeWhile (· == 48)).length ((D.takeWhile (· == 48)).length+(Zi (Xc D)).length)=ba (Zi (Xc D)):=by
        apply Q2U
        rw [Zu]
        have:((ba D).extract (D.takeWhile (· == 48)).length ((D.takeWhile (· == 48)).length+(Zi (Xc D)).length)).data.toList=(D.drop (D.takeWhile (· == 48)).length).take (Zi (Xc D)).length:=by
          simp [ByteArray.data_extract,List.extract_eq_take_drop,ba]
        rw [this,hdrop,←Hd]
      have hsat:=Q3G hX
      have hof:nOf ⟨Y0 s.data.toList,Y0 E,pt,pw,ba D,F.length,JA 0 (Qq 45 E)⟩=⟨Y0 s.data.toList,ba (Zi (Xc D)),(if Y0 E=true then -JA 0 (Qq 45 E) else JA 0 (Qq 45 E)) - F.length+((Xc D).length - (Zi (Xc D)).length)⟩:=by
        unfold nOf
        rw [hnF,hnL]
        simp only [hofd,Q7I,hDsz]
        congr 1
        omega
      rw [hof]
      have hmay:=Q3j (l:=Xc D) (Qb5 (l:=D) hD) hall (FI D) (Y0 s.data.toList) ((if Y0 E=true then -JA 0 (Qq 45 E) else JA 0 (Qq 45 E)) - F.length+((Xc D).length - (Zi (Xc D)).length))
      by_cases hbig:JA 0 (Qq 45 E) < 1000000
      · have he:Yj (Qq 45 E)=JA 0 (Qq 45 E):=by omega
        rw [he]
        have hx:∀ y:Int,y - F.length+(Xc D).length - (Zi (Xc D)).length=y - F.length+((Xc D).length - (Zi (Xc D)).length):=fun y=>by omega
        rw [hx]
        generalize (if Y0 E=true then -JA 0 (Qq 45 E) else JA 0 (Qq 45 E))=z at *
        by_cases hm:NumMay ⟨Y0 s.data.toList,ba (Zi (Xc D)),z - F.length+((Xc D).length - (Zi (Xc D)).length)⟩
        · have:=hmay.1 hm
          rw [if_pos hm,if_neg (by omega)]
        · have:=mt hmay.2 hm
          rw [if_neg hm,if_pos (by omega)]
      · have hS:JA 0 (Qq 45 E)=1000000:=by omega
        have hb2:1000000≤Yj (Qq 45 E):=by omega
        have hm:¬NumMay ⟨Y0 s.data.toList,ba (Zi (Xc D)),(if Y0 E=true then -JA 0 (Qq 45 E) else JA 0 (Qq 45 E)) - F.length+((Xc D).length - (Zi (Xc D)).length)⟩:=fun h=>by
          have:=hmay.1 h
          by_cases hh:Y0 E=true
          · rw [if_pos hh] at this;omega
          · rw [if_neg hh] at this;omega
        rw [if_neg hm]
        clear hof hmay hm
        have hl1:(60 < (Zi (Xc D)).length∨
     1000 < (if Y0 E=true then -Yj (Qq 45 E) else Yj (Qq 45 E)) - F.length+(Xc D).length - (Zi (Xc D)).length∨
     (if Y0 E=true then -Yj (Qq 45 E) else Yj (Qq 45 E)) - F.length+(Xc D).length - (Zi (Xc D)).length < -1000):=by
          by_cases hh:Y0 E=true
          · rw [if_pos hh];omega
          · rw [if_neg hh];omega
        rw [if_pos hl1]
end Lg
namespace Lg
open Go
theorem QbJ {a b:BL}:ba a=ba b↔a=b:=⟨fun h=>by rw [← Zu a,h,Zu],fun h=>by rw [h]⟩
theorem Q2V {a:BL}:ba a=⟨#[]⟩↔a=[]:=QbJ (b:=[])
theorem VY (a b:BL):ba a++ba b=ba (a++b):=Q2U (by simp [ba])
theorem Q4L (l:BL):Xh (ba l) 0=(l.takeWhile isD).length:=by rw [GW,Zu];rfl
end Lg
namespace Lg
open Go
end Lg
namespace Lg
open Go
end Lg
namespace Lg
open Go
def hxd (n:Nat):UInt8:=(([48,49,50,51,52,53,54,55,56,57,97,98,99,100,101,102]:BL).getD n 0)
end Lg
namespace Lg
open Go
theorem QV {α:Type} {l:List α} {i:Nat} {x:α} (h:l[i]? =some x):l.take (i+1)=l.take i++[x]:=by rw [List.take_add_one,h];rfl
def jnb (n:JNum):Prop:=-1000000≤n.exp∧n.exp≤1000000
mutual
def jkb:JV→Prop
 | .mk k _ n _ l m=>0≤k∧k≤5∧jnb n∧lkb l∧mkb m
def lkb:List JV→Prop
 |[]=>True
 |v :: r=>jkb v∧lkb r
def mkb:List (ByteArray×JV)→Prop
 |[]=>True
 |(_,v) :: r=>jkb v∧mkb r
end
end Lg
namespace Lg
open Go Go.RowKit
variable [GLay] {P:Program} {τ ρ:List AO} {E:TypeId} {a a':AV} {l l':List UInt8}
end Lg
namespace Lg
open Go
end Lg
namespace Lg
open Go
def Q3D (s:ByteArray) (r:RS):JV×RS:=
  (.mk 2 false (Q89 (s.extract r.a (QY s r.a).1).data.toList).1 e0 [] [],
   ⟨(QY s r.a).1,r.deep,(if (Q89 (s.extract r.a (QY s r.a).1).data.toList).2=0 then (if (QY s r.a).2=true then r else Zg r (QY s r.a).1 1) else Zg (if (QY s r.a).2=true then r else Zg r (QY s r.a).1 1) r.a 5).bad,
    (if (Q89 (s.extract r.a (QY s r.a).1).data.toList).2=0 then (if (QY s r.a).2=true then r else Zg r (QY s r.a).1 1) else Zg (if (QY s r.a).2=true then r else Zg r (QY s r.a).1 1) r.a 5).spot⟩)
theorem Qaw {s:ByteArray} (hs:s.size≤1000) (r:RS):Vi s r=Q3D s r:=by
  unfold Vi Q3D
  rw [Q63 _ (by rw [ByteArray.size_extract];omega)]
def Q4G (rv:RS→JV×RS) (s:ByteArray) (r:RS):JV×RS:=
  if pkv s r.a r.bad=123 then WV rv s r else
  if pkv s r.a r.bad=91 then WT rv s r else
  if pkv s r.a r.bad=34 then (.mk 3 false {} (QL s r).1 [] [],(QL s r).2) else
  if pkv s r.a r.bad=110 then (vz,XX s Q4d r) else
  if pkv s r.a r.bad=116 then (.mk 1 true {} e0 [] [],XX s Q4e r) else
  if pkv s r.a r.bad=102 then (.mk 1 false {} e0 [] [],XX s Q0F r) else
  if pkv s r.a r.bad=45∨(48≤pkv s r.a r.bad∧pkv s r.a r.bad≤57) then Q3D s r else (vz,Zg r r.a 1)
def HR:Nat→ByteArray→RS→JV×RS
  |0,s,r=>(vz,r)
  |n+1,s,r=>((Q4G (HR n s) s (Qu s r)).1,Qu s (Q4G (HR n s) s (Qu s r)).2)
theorem Q8A {s:ByteArray} (hs:s.size≤1000):∀ n,Z2 n s=HR n s
  |0=>rfl
  |n+1=>by
    funext r
    have ih:=Q8A hs n
    unfold Z2 HR
    rw [ih]
    have e:∀ r,ZM (HR n s) s r=Q4G (HR n s) s r:=fun r=>by unfold ZM Q4G;rw [Qaw hs]
    rw [e]
def Gr (s:ByteArray):JV×RS:=HR (s.size+2) s ⟨0,0,0,0⟩
def Q1b (s:ByteArray):RS:=if (Gr s).2.bad=0∧(Gr s).2.a < s.size then Zg (Gr s).2 (Gr s).2.a 1 else (Gr s).2
def Q4C (s:ByteArray):JV×Int×Int:=
  if 20000 < s.size then (vz,5,20000) else if (Q1b s).bad=0 then ((Gr s).1,0,0) else (vz,(Q1b s).bad,(Q1b s).spot)
theorem Q2i {s:ByteArray} (hs:s.size≤1000):Zp s=Q4C s:=by
  have e:YY s=Gr s:=by unfold YY Gr;rw [Q8A hs]
  unfold Zp Q4C KP Q1b;rw [e]
end Lg
namespace Lg
open Go
theorem Qeg:jb vz∧jkb vz:=by
 constructor
 ·exact ⟨Nat.zero_le _,Nat.zero_le _,Nat.zero_le _,Nat.zero_le _,trivial,trivial⟩
 ·exact ⟨by decide,by decide,⟨by decide,by decide⟩,trivial,trivial⟩
end Lg
namespace Lg
open Go Go.RowKit
variable [GLay]
theorem Good.newMap {s:CS} (g:Good s):∃ s',s'.σ=s.σ++[.map []]∧s'.w=s.w.alloc (.map #[] 0)∧Good s'∧Ext s s'∧V s' (.mapv s.σ.length) (.map (some s.w.heap.size)):=by
 let s':CS:={ σ:=s.σ++[.map []],μ:=fun p=>if p=s.σ.length then ⟨s.w.heap.size,0,0⟩ else s.μ p,ok:=s.ok,w:=s.w.alloc (.map #[] 0)}
 have hold:∀ {p:Nat},p < s.σ.length→s'.σ[p]? =s.σ[p]? ∧s'.μ p=s.μ p:=fun {p} h=>
  ⟨by show (s.σ++[_])[p]? =_;rw [List.getElem?_append_left h],by show (if p=_ then _ else _)=_;rw [if_neg (by omega)]⟩
 have hnew:s'.σ[s.σ.length]? =some (.map [])∧s'.μ s.σ.length=⟨s.w.heap.size,0,0⟩:=⟨by show (s.σ++[_])[_]? =_;simp,by show (if _=_ then _ else _)=_;rw [if_pos rfl]⟩
 have hl:s'.σ.length=s.σ.length+1:=by show (s.σ++[_]).length=_;simp
 have hcase:∀ {p:Nat} {o:AO},s'.σ[p]? =some o→(p < s.σ.length∧s.σ[p]? =some o∧s'.μ p=s.μ p)∨(p=s.σ.length∧o= .map []):=fun {p o} h=>by
  have hp':=(List.getElem?_eq_some_iff.1 h).1
  rcases Nat.lt_or_ge p s.σ.length with hp|hp
  ·exact .inl ⟨hp,(hold hp).1 ▸ h,(hold hp).2⟩
  ·have e:p=s.σ.length:=by omega
   subst e;rw [hnew.1] at h;exact .inr ⟨rfl,(Option.some.inj h).symm⟩
 have hlive:∀ {p:Nat},s'.live p→(p < s.σ.length∧s.live p∧s'.μ p=s.μ p)∨p=s.σ.length:=fun {p} h=>by
  have hp:=CS.live_lt h
  rcases Nat.lt_or_ge p s.σ.length with h1|h1
  ·refine .inl ⟨h1,?_,(hold h1).2⟩
   unfold CS.live at h ⊢
   rw [(hold h1).1,(hold h1).2] at h
   exact h
  ·exact .inr (by omega)
 have hsz:s'.w.heap.size=s.w.heap.size+1:=Yd _ _
 have hheap:∀ {b:Nat},b < s.w.heap.size→s'.w.heap[b]? =s.w.heap[b]? :=fun {b} hb=>by
  show (s.w.alloc _).heap[b]? =_;rw [ZI,if_neg (by omega)]
 have hlt:∀ {p:Nat} {o:AO},s.σ[p]? =some o→p < s.σ.length:=fun h=>(List.getElem?_eq_some_iff.1 h).1
 have x:Ext s s':={
  objs:=fun p o h=>⟨o,by rw [(hold (hlt h)).1];exact h,OLe.refl o,fun _=>(hold (hlt h)).2⟩
  ok:=fun _ h=>h
  okn:=fun _ h=>.inl h
  mun:=fun p h=>by
   rcases hlive h with ⟨h1,h2,h3⟩|rfl
   ·exact .inl ⟨h1,h2,by rw [h3]⟩
   ·exact .inr (by rw [hnew.2];exact Nat.le_refl _)
  frame:=fun b hb _=>hheap hb
  size:=by omega
  shp:=fun p cs cs' z h1 _ h3=>by rw [(hold (hlt h1)).2];exact (Yy (hheap (Yi h3))).trans h3
  tape:=rfl
  os:=rfl
  output:=rfl}
 refine ⟨s',rfl,rfl,⟨fun b hb=>Nat.lt_of_lt_of_le (g.okb b hb) x.size,fun p o ho=>?_,fun p q hpq hp hq=>?_,fun b o ho=>?_⟩,x,?_⟩
 ·rcases hcase ho with ⟨h1,h2,h3⟩|⟨rfl,rfl⟩
  ·exact ORep.keep g x h2 h3 (fun hl=>(g.live_lt hl).2) (fun hl=>hheap (g.live_lt hl).1)
  ·refine ⟨?_,[],0,?_,PW.nil⟩
   ·rw [hnew.2];exact fun hk=>absurd (g.okb _ hk) (by simp)
   ·rw [hnew.2];show (s.w.alloc _).heap[_]? =_;rw [ZI,if_pos rfl]
 ·rcases hlive hp with ⟨p1,p2,p3⟩|rfl<;>rcases hlive hq with ⟨q1,q2,q3⟩|rfl
  ·rw [p3,q3];exact g.inj p q hpq p2 q2
  ·rw [p3,hnew.2];have:=(g.live_lt p2).1;show _ ≠ s.w.heap.size;omega
  ·rw [q3,hnew.2];have:=(g.live_lt q2).1;show s.w.heap.size ≠ _;omega
  ·exact absurd rfl hpq
 ·obtain ⟨h1,h2⟩:=g.glob b o ho
  exact ⟨h1,(hheap (g.okb b h1)).trans h2⟩
 ·have:=V.mapv (s:=s') s.σ.length [] hnew.1
  rw [hnew.2] at this
  exact this
theorem Good.setMap {s:CS} (g:Good s) {p:Nat} {l l':List (AV×AV)} (ho:s.σ[p]? =some (.map l)) {es:List MapEntry} {c:Nat} (hv:PW s (ZH l') (ZH (es.map fun e=>(e.key,e.val)))):
  ∃ s',s'.σ=s.σ.set p (.map l')∧s'.w={ s.w with heap:=s.w.heap.setIfInBounds (s.μ p).b (.map es.toArray c)}∧Good s'∧Ext s s':=by
 have hp:s.live p:=by unfold CS.live;rw [ho];trivial
 have hblt:=(g.live_lt hp).1
 have hlt:p < s.σ.length:=(List.getElem?_eq_some_iff.1 ho).1
 let s':CS:={ s with σ:=s.σ.set p (.map l'),w:={ s.w with heap:=s.w.heap.setIfInBounds (s.μ p).b (.map es.toArray c)}}
 have hso:∀ b,b ≠ (s.μ p).b→s'.w.heap[b]? =s.w.heap[b]? :=fun b hb=>by
  show (s.w.heap.setIfInBounds _ _)[b]? =_;rw [Array.getElem?_setIfInBounds,if_neg (fun e=>hb e.symm)]
 have hst:s'.w.heap[(s.μ p).b]? =some (.map es.toArray c):=by
  show (s.w.heap.setIfInBounds _ _)[_]? =_;rw [Array.getElem?_setIfInBounds,if_pos rfl,if_pos hblt]
 have hother:∀ {q:Nat},q ≠ p→s'.σ[q]? =s.σ[q]? :=fun {q} hq=>by
  show (s.σ.set p _)[q]? =_;rw [List.getElem?_set,if_neg (fun e=>hq e.symm)]
 have hthis:s'.σ[p]? =some (.map l'):=by show (s.σ.set p _)[p]? =_;simp [hlt]
 have hlive':∀ {q:Nat},s'.live q→s.live q:=fun {q} hq=>by
  by_cases e:q=p
  ·subst e;exact hp
  ·unfold CS.live at hq ⊢;rw [hother e] at hq;exact hq
 have x:Ext s s':={
  objs:=fun q r hr=>by
   by_cases e:q=p
   ·subst e
    rw [ho] at hr;cases hr
    exact ⟨_,hthis,.map _ _,fun _=>rfl⟩
   ·exact ⟨r,by rw [hother e];exact hr,OLe.refl r,fun _=>rfl⟩
  ok:=fun _ h=>h
  okn:=fun _ h=>.inl h
  mun:=fun q hq=>.inl ⟨CS.live_lt (hlive' hq),hlive' hq,rfl⟩
  frame:=fun b _ hne=>hso b (fun e=>hne p hp e.symm)
  size:=by show _≤(s.w.heap.setIfInBounds _ _).size;simp
  shp:=fun q cs cs' z h1 h2 h3=>by
   by_cases e:q=p
   ·subst e;rw [ho] at h1;cases h1
   ·have hq:s.live q:=by unfold CS.live;rw [h1];trivial
    exact (Yy (hso _ (fun e2=>g.inj q p e hq hp e2))).trans h3
  tape:=rfl
  os:=rfl
  output:=rfl}
 refine ⟨s',rfl,rfl,⟨fun b hb=>Nat.lt_of_lt_of_le (g.okb b hb) x.size,fun q r hr=>?_,fun q q' hne h1 h2=>g.inj q q' hne (hlive' h1) (hlive' h2),fun b r hr=>?_⟩,x⟩
 ·by_cases e:q=p
  ·subst e
   rw [hthis] at hr;cases hr
   exact ⟨(g.live_lt hp).2,es,c,hst,hv.mono g x⟩
  ·have hr':s.σ[q]? =some r:=by rw [← hother e];exact hr
   exact ORep.keep g x hr' rfl (fun hq=>(g.live_lt hq).2) (fun hq=>hso _ (g.inj q p e hq hp))
 ·obtain ⟨h1,h2⟩:=g.glob b r hr
  exact ⟨h1,(hso b (fun e=>(g.live_lt hp).2 (e ▸ h1))).trans h2⟩
variable {P:Program} {σ l:List AO} {e:Env} {o:Oper} {p:Nat} {x:AO}
theorem Q3u {T:TypeId} (ho:o.op= .makeMap T none):AOp P σ e o (.mapv σ.length) (σ++[.map []]):=by
 intro s a hs g hv K Q hk _
 subst hs
 obtain ⟨s',e1,e2,g',x',hv'⟩:=g.newMap
 refine Zn (w':=s'.w) ?_ (hk _ _ s' ⟨rfl,e1⟩ g' x' hv')
 rw [e2]
 simp [execOp,ho,Instr.makeMap,Sem.run]
theorem V.inv_mapv {s:CS} {c:Value} (h:V s (.mapv p) c):c= .map (some (s.μ p).b):=by cases h;rfl
theorem Q6z (a b:ByteArray):(a == b)=decide (a=b):=by
 obtain ⟨a⟩:=a
 obtain ⟨b⟩:=b
 show (a == b)=_
 by_cases h:a=b
 ·subst h;simp
 ·have:¬(ByteArray.mk a=ByteArray.mk b):=fun e=>h (by injection e)
  simp [h,this]
instance:LawfulBEq ByteArray where
 eq_of_beq {a b} h:=by rw [Q6z] at h;exact of_decide_eq_true h
 rfl {a}:=by rw [Q6z];exact decide_eq_true rfl
section
variable {T K E:TypeId} {a b c:Operand} {m:List (ByteArray×AV)} {k:ByteArray} {z:Value}
end
end Lg
namespace Lg
open Go
theorem K3 (m:Nat) (l:List ByteArray):AV.ltLL m (l.map fun x=>[AV.str x]):=by
  induction l with
  |nil=>simp [AV.ltLL]
  |cons x l ih=>simp [AV.ltLL,AV.ltL,AV.lt];simpa using ih
end Lg
namespace Lg
open Go Go.RowKit
section
variable [GLay]
variable {P:Program} {N:Nat} {σ l:List AO} {e:Env} {Q:QA} {o:Oper}
theorem Zb {c:Code} (t:Nat) {v w:AV} (hl:Zc e.l t=some v) (hle:AVle v w) (k:AWp P N c (e.put (some t) w) σ Q) (ht:t < N):AWp P N c e σ Q:=fun s0 s a hs g x he=>by
 subst hs
 have hv:=he.tmps t
 rw [show e.look t=v from QQ hl] at hv
 exact k s0 s a rfl g x (by
  have h1:=he.put (some t) (hle _ _ hv) (fun d hd=>by cases hd;exact ht)
  have h2:a.put (some t) (a.eval (.tmp t))=a:=Ka (by rw [he.size];exact ht)
  rwa [h2] at h1)
theorem Kq {c:Code} (t sz:Nat) (hl:Zc e.l t=some .nils) (k:AWp P N c (e.put (some t) (.arr σ.length 0 sz 0 0)) (σ++[AO.arr sz 0 []]) Q) (ht:t < N):AWp P N c e σ Q:=fun s0 s a hs g x he=>by
 subst hs
 obtain ⟨s1,e1,e2,g1,x1⟩:=g.ghost sz
 have hv:=(he.mono g x1).tmps t
 rw [show e.look t= .nils from QQ hl] at hv
 have hv0:=hv.inv_nils
 have hv':V s1 (.arr s.σ.length 0 sz 0 0) (a.eval (.tmp t)):=by
  rw [hv0];exact .arr _ _ _ _ _ _ rfl (.mk (cs:=[]) (by rw [e1];simp) ⟨rfl,.inl ⟨none,rfl,rfl⟩⟩)
 have:=k s0 s1 a e1 g1 (x.trans x1) (by
  have h1:=(he.mono g x1).put (some t) hv' (fun d hd=>by cases hd;exact ht)
  have h2:a.put (some t) (a.eval (.tmp t))=a:=Ka (by rw [he.size];exact ht)
  rwa [h2] at h1)
 rwa [e2] at this
theorem Q1x {c:Code} (t sz n:Nat) (hn:l.length=n) (hl:Zc e.l t=some .nils) (k:AWp P N c (e.put (some t) (.arr (σ.length+n) 0 sz 0 0)) (σ++(l++[AO.arr sz 0 []])) Q) (ht:t < N):AWp P N c e (σ++l) Q:=
 Kq t sz hl (by rw [List.length_append,hn,List.append_assoc];exact k) ht
theorem Q23 {T T' E:TypeId} {x:Operand} {f:Bool} {sz:Nat} {es:List (List AV)} (ho:o.op= .binOp .eql T x (.const (.slice none 0 0)) T') (hu:P.underlying T=some (.slice E)) (hx:opO e x=some (.sl f sz es)):
  AOpR P σ e o (fun v σ'=>σ'=σ∧∃ b,v= .bool b∧(b=true→es=[])) (fun _ _=>False):=fun s a hs g hv K Q hk hq=>by
 have h1:=Qp hx ▸ hv x (by simp [ho,Op.operands])
 obtain ⟨ad,len,cap,hc,hn⟩:∃ ad len cap,a.eval x= .slice ad len cap∧(ad=none→es=[]):=by
  rcases h1.inv_sl with ⟨ad,h,he⟩|⟨b,off,cap,vs,h,_⟩
  ·exact ⟨ad,0,0,h,fun _=>he⟩
  ·exact ⟨_,_,_,h,fun h=>by cases h⟩
 have he:∀ d,(Go.Op.equalIn (d+1) T (.slice ad len cap) (.slice none 0 0)).run P s.w= .ok ad.isNone s.w:=fun d=>by cases ad<;>simp [Go.Op.equalIn,run_underlying hu]
 have he':(Go.Op.equal T (.slice ad len cap) (.slice none 0 0)).run P s.w= .ok ad.isNone s.w:=he 9999
 have hb:(binOp .eql T (.slice ad len cap) (.slice none 0 0)).run P s.w= .ok (.bool ad.isNone) s.w:=by
  simp only [binOp];simp [he']
 have hg:(eqGuard .eql T x (.const (.slice none 0 0)) (.slice ad len cap) (.slice none 0 0)).run P s.w= .ok () s.w:=by
  simp [eqGuard]
 have hrun:(execOp a.eval o).run P s.w= .ok (.value (.bool ad.isNone)) s.w:=by
  have hc2:a.eval (.const (.slice none 0 0))= .slice none 0 0:=rfl
  simp [execOp,ho,hc,hc2,hb,hg]
 exact Zn hrun (hk (.bool ad.isNone) _ s ⟨hs,_,rfl,fun h=>hn (by simpa using h)⟩ g (Ext.refl s) (.bool _))
end
theorem Ym [GLay] (m:List (ByteArray×JV)) (q:ByteArray×JV):(Q5 (m++[q])).flatten=(Q5 m).flatten++UB q:=by
 rw [Xd,Xd];simp
end Lg
namespace Lg
open Go Go.RowKit
variable [GLay]
def Za (m:List (Int×AV)):List (AV×AV):=m.map fun q=>(.int .i64 q.1,q.2)
def Z9:List (Int×AV)→Int→Option (Nat×AV)
 |[],_=>none
 |(x,v) :: r,k=>if k=x then some (0,v) else (Z9 r k).map fun z=>(z.1+1,z.2)
theorem Q5v {m:List (Int×AV)} {k:Int} (h:∀ q∈m,¬q.1=k):Z9 m k=none:=by
 induction m with
 |nil=>rfl
 |cons q r ih=>obtain ⟨x,v⟩:=q;rw [Z9,if_neg (fun e=>h (x,v) (by simp) e.symm),ih (fun q hq=>h q (by simp [hq]))];rfl
theorem JY {s:CS} (k:Int):∀ (m:List (Int×AV)) (es:List MapEntry) (i:Nat),PW s (ZH (Za m)) (ZH (es.map fun e=>(e.key,e.val)))→
  ∃ r,Instr.findNow (.int .i64) (.int .i64 k) es i=some r∧(match Z9 m k with
   |none=>r=none
   |some (j,v)=>∃ c,r=some (i+j,c)∧V s v c)
 |[],es,i,h=>by
  have:=h.inv_nil
  cases es with
  |nil=>exact ⟨none,rfl,rfl⟩
  |cons a r=>simp [ZH] at this
 |(y,v) :: m,es,i,h=>by
  cases es with
  |nil=>have:=h.1;simp [Za,ZH] at this
  |cons a r=>
   have h':PW s (.int .i64 y :: v :: ZH (Za m)) (a.key :: a.val :: ZH (r.map fun e=>(e.key,e.val))):=h
   have k1:=h'.2 0 _ _ rfl rfl
   have k2:=h'.2 1 _ _ rfl rfl
   have k3:PW s (ZH (Za m)) (ZH (r.map fun e=>(e.key,e.val))):=by
    obtain ⟨q,qs,e1,_,h2⟩:=h'.inv_cons
    obtain ⟨q2,qs2,e2,_,h3⟩:=h2.inv_cons
    cases e1;cases e2;exact h3
   simp only [Instr.findNow,k1.inv_int,Instr.sameNow]
   simp only [Z9]
   by_cases hk:k=y
   ·subst hk
    rw [if_pos rfl]
    refine ⟨some (i,a.val),?_,a.val,rfl,k2⟩
    simp
   ·rw [if_neg hk]
    obtain ⟨r',h1,h2⟩:=JY k m r (i+1) k3
    refine ⟨r',?_,?_⟩
    ·rw [show (k == y)=false by simpa using hk];exact h1
    ·revert h2
     cases Z9 m k with
     |none=>exact id
     |some z=>obtain ⟨j,v'⟩:=z;rintro ⟨c,e1,e2⟩;exact ⟨c,by rw [e1];congr 1;congr 1;omega,e2⟩
variable {P:Program} {N:Nat} {σ:List AO} {e:Env} {o:Oper} {p:Nat}
theorem V.tup2 {s:CS} {a b:AV} {x y:Value} (h:V s a x) (k:V s b y):V s (.tup [a,b]) (.tuple #[x,y]):=
 .tup [a,b] [x,y] rfl (fun i c v h1 h2=>by
  match i,h1,h2 with
  |0,h1,h2=>cases h1;cases h2;exact h
  |1,h1,h2=>cases h1;cases h2;exact k)
section
variable {T K E:TypeId} {a b c:Operand} {m:List (Int×AV)} {k:Int} {z:Value}
theorem Q3t (ho:o.op= .lookup T a b false) (hu:P.underlying T=some (.map K E)) (hK:P.underlying K=some (.int .i64)) (hz:∀ w,(zeroValue E).run P w=Result.ok z w) (hx:opO e a=some (.mapv p)) (hy:opO e b=some (.int .i64 k))
  (hσ:σ[p]? =some (.map (Za m))):AOp P σ e o (((Z9 m k).map (·.2)).getD (VC z)) σ:=
 .of_run fun s ac hs g hv=>by
  subst hs
  have h1:=Qp hx ▸ hv a (by simp [ho,Op.operands])
  have h2:=(Qp hy ▸ hv b (by simp [ho,Op.operands])).inv_int
  have h1':=h1.inv_mapv
  obtain ⟨hnok,es,ck,hb,hpw⟩:=g.obj p _ hσ
  obtain ⟨r,hr,hm⟩:=JY k m es 0 hpw
  have hc:∀ em,(Instr.checkKey em 10000 K (.int .i64 k)).run P s.w= .ok () s.w:=fun em=>MapKept.run_checkKey (k:=.int .i64 k) hK (by simp [MapKept.IsKey]) em 9999
  have hf:(Instr.findKey K (.int .i64 k) es).run P s.w= .ok r s.w:=MapKept.run_findKey hK hr
  cases hg:Z9 m k with
  |none=>
   rw [hg] at hm
   subst hm
   refine ⟨z,?_,by simpa using Vs s z⟩
   simp [execOp,ho,h1',h2,Instr.lookup,run_underlying hu,MapKept.run_getObj_map hb,hc,hf,hz,Result.andThen]
  |some y=>
   obtain ⟨j,v⟩:=y
   rw [hg] at hm
   obtain ⟨cv,rfl,hcv⟩:=hm
   refine ⟨cv,?_,by simpa using hcv⟩
   simp [execOp,ho,h1',h2,Instr.lookup,run_underlying hu,MapKept.run_getObj_map hb,hc,hf,Result.andThen]
theorem Q24 (ho:o.op= .lookup T a b true) (hu:P.underlying T=some (.map K E)) (hK:P.underlying K=some (.int .i64)) (hz:∀ w,(zeroValue E).run P w=Result.ok z w) (hx:opO e a=some (.mapv p)) (hy:opO e b=some (.int .i64 k))
  (hσ:σ[p]? =some (.map (Za m))):AOp P σ e o (.tup [((Z9 m k).map (·.2)).getD (VC z),.bool (Z9 m k).isSome]) σ:=
 .of_run fun s ac hs g hv=>by
  subst hs
  have h1:=Qp hx ▸ hv a (by simp [ho,Op.operands])
  have h2:=(Qp hy ▸ hv b (by simp [ho,Op.operands])).inv_int
  have h1':=h1.inv_mapv
  obtain ⟨hnok,es,ck,hb,hpw⟩:=g.obj p _ hσ
  obtain ⟨r,hr,hm⟩:=JY k m es 0 hpw
  have hc:∀ em,(Instr.checkKey em 10000 K (.int .i64 k)).run P s.w= .ok () s.w:=fun em=>MapKept.run_checkKey (k:=.int .i64 k) hK (by simp [MapKept.IsKey]) em 9999
  have hf:(Instr.findKey K (.int .i64 k) es).run P s.w= .ok r s.w:=MapKept.run_findKey hK hr
  cases hg:Z9 m k with
  |none=>
   rw [hg] at hm
   subst hm
   refine ⟨.tuple #[z,.bool false],?_,V.tup2 (Vs s z) (.bool _)⟩
   simp [execOp,ho,h1',h2,Instr.lookup,run_underlying hu,MapKept.run_getObj_map hb,hc,hf,hz,Result.andThen]
  |some y=>
   obtain ⟨j,v⟩:=y
   rw [hg] at hm
   obtain ⟨cv,rfl,hcv⟩:=hm
   refine ⟨.tuple #[cv,.bool true],?_,V.tup2 hcv (.bool _)⟩
   simp [execOp,ho,h1',h2,Instr.lookup,run_underlying hu,MapKept.run_getObj_map hb,hc,hf,Result.andThen]
theorem Xy {v:AV} (ho:o.op= .mapUpdate T a b c) (hu:P.underlying T=some (.map K E)) (hK:P.underlying K=some (.int .i64)) (hx:opO e a=some (.mapv p)) (hy:opO e b=some (.int .i64 k)) (hc:opO e c=some v)
  (hσ:σ[p]? =some (.map (Za m))) (hn:Z9 m k=none):AOp P σ e o .any (σ.set p (.map (Za (m++[(k,v)])))):=by
 intro s ac hs g hv Kk Q hk _
 subst hs
 have h1:=Qp hx ▸ hv a (by simp [ho,Op.operands])
 have h2:=(Qp hy ▸ hv b (by simp [ho,Op.operands])).inv_int
 have h3:=Qp hc ▸ hv c (by simp [ho,Op.operands])
 have h1':=h1.inv_mapv
 obtain ⟨hnok,es,ck,hb,hpw⟩:=g.obj p _ hσ
 obtain ⟨r,hr,hm⟩:=JY k m es 0 hpw
 rw [hn] at hm
 subst hm
 have hcc:(Instr.checkKey false 10000 K (.int .i64 k)).run P s.w= .ok () s.w:=MapKept.run_checkKey (k:=.int .i64 k) hK (by simp [MapKept.IsKey]) false 9999
 have hf:(Instr.findKey K (.int .i64 k) es).run P s.w= .ok none s.w:=MapKept.run_findKey hK hr
 have mf:∀ {α:Type} (x y:List (α×α)),ZH (x++y)=ZH x++ZH y:=fun {α} x y=>by
  induction x with
  |nil=>rfl
  |cons q r ih=>simp [ZH,ih]
 obtain ⟨s',e1,e2,g',x'⟩:=g.setMap hσ (l':=Za (m++[(k,v)])) (es:=es++[{ key:=.int .i64 k,val:=ac.eval c,born:=ck}]) (c:=ck+1) (by
  simp only [Za,List.map_append,mf]
  exact hpw.append (PW.cons (.int .i64 k) (PW.cons h3 PW.nil)))
 refine Uf (w':=s'.w) ?_ (hk .any undef s' ⟨rfl,e1⟩ g' x' (.any _))
 rw [e2]
 simp [execOp,ho,h1',h2,Instr.mapUpdate,run_underlying hu,MapKept.run_getObj_map hb,hcc,hf,MapKept.run_setObj_map _ hb,Result.andThen]
end
theorem WI {α:Type} (l:List (α×α)):(ZH l).length=2 * l.length:=by
 induction l with
 |nil=>rfl
 |cons q r ih=>simp [ZH,ih];omega
theorem UI {T K E:TypeId} {x:Operand} {c:Array TypeId} {l:List (AV×AV)} (ho:o.op= .call { callee:=.builtin .len,args:= #[x],argTypes:=c}) (hc:c[0]? =some T) (hu:P.underlying T=some (.map K E))
  (hx:opO e x=some (.mapv p)) (hσ:σ[p]? =some (.map l)):AOp P σ e o (.int .i64 (l.length:Int)) σ:=
 .of_run fun s a hs g hv=>by
  subst hs
  have h1:=(Qp hx ▸ hv x (by simp [ho,Op.operands,Call.operands])).inv_mapv
  obtain ⟨hnok,es,ck,hb,hpw⟩:=g.obj p _ hσ
  have hl:es.length=l.length:=by
   have:=hpw.1
   rw [WI,WI,List.length_map] at this
   omega
  refine ⟨.int .i64 (es.length:Int),?_,by rw [hl];exact .int _ _⟩
  simp [execOp,ho,resolve,invoke,builtin,h1,Builtin.len_,hc,run_underlying hu,goInt,MapKept.run_getObj_map hb,Result.andThen]
end Lg
namespace Lg
open Go Go.RowKit
variable [GLay] {P:Program} {N:Nat} {σ l:List AO} {e:Env} {Q:QA} {o:Oper}
theorem FT {T T' E:TypeId} {x:Operand} (ho:o.op= .binOp .eql T x (.const (.slice none 0 0)) T') (hu:P.underlying T=some (.slice E)) (hx:opO e x=some .nils):AOp P σ e o (.bool true) σ:=
 Y2 ho (Qp hx) rfl fun s cx cy _ _ h1 h2=>by
  have e1:=h1.inv_nils
  have e2:cy= .slice none 0 0:=h2.inv_nils
  subst e1;subst e2
  have he:∀ d,(Go.Op.equalIn (d+1) T (.slice none 0 0) (.slice none 0 0)).run P s.w= .ok true s.w:=fun d=>by simp [Go.Op.equalIn,run_underlying hu]
  have he':(Go.Op.equal T (.slice none 0 0) (.slice none 0 0)).run P s.w= .ok true s.w:=he 9999
  exact ⟨.bool true,by simp only [binOp];simp [he'],.bool _,by simp [eqGuard]⟩
theorem Q8E {τ l:List AO} {p q:Nat} (hp:p < τ.length) (hq:q < τ.length) (x y:AO):((τ++l).set p x).set q y=(τ.set p x).set q y++l:=by
 rw [List.set_append_left _ _ hp,List.set_append_left _ _ (by simpa using hq)]
end Lg
namespace Lg
open Go
def JQ (m:List (ByteArray×JV)):List (List AV):=m.map fun q=>[AV.str q.1]
def H7 (k:Int) (b:Bool) (n:JNum) (s:ByteArray):List AV:=[.int .i64 k,.bool b,.bool n.neg,.str n.digits,.int .i64 n.exp,.str s,.nils,.nils]
mutual
def Y3:JV→Int→List AV
 | .mk k b n s l m,id=>.int .i64 id :: (H7 k b n s++[.sl false 1 (JQ m),.sl false 1 (tL l (id+1)++tM m (id+1+Qm l))])
def tL:List JV→Int→List (List AV)
 |[],_=>[]
 |x :: r,id=>[.pp (Y3 x id)] :: tL r (id+Q6 x)
def tM:List (ByteArray×JV)→Int→List (List AV)
 |[],_=>[]
 |(_,x) :: r,id=>[.pp (Y3 x id)] :: tM r (id+Q6 x)
end
theorem Q09 (v:JV) (id:Int):Y3 v id= .int .i64 id :: (H7 v.kind v.b v.n v.s++[.sl false 1 (JQ v.m),.sl false 1 (tL v.l (id+1)++tM v.m (id+1+Qm v.l))]):=by
 cases v;simp [Y3,JV.kind,JV.b,JV.n,JV.s,JV.l,JV.m]
theorem Q4Q (x:JV):∀ (l:List JV) (id:Int),tL (l++[x]) id=tL l id++[[.pp (Y3 x (id+Qm l))]]
 |[],id=>by simp [tL,Qm]
 |y :: r,id=>by
  rw [List.cons_append,tL,Q4Q x r,tL,Qm,List.cons_append]
  rw [show id+Q6 y+Qm r=id+(Q6 y+Qm r) by omega]
theorem Q4R (q:ByteArray×JV):∀ (m:List (ByteArray×JV)) (id:Int),tM (m++[q]) id=tM m id++[[.pp (Y3 q.2 (id+Qw m))]]
 |[],id=>by obtain ⟨k,x⟩:=q;simp [tM,Qw]
 |(a,y) :: r,id=>by
  rw [List.cons_append,tM,Q4R q r,tM,Qw,List.cons_append]
  rw [show id+Q6 y+Qw r=id+(Q6 y+Qw r) by omega]
theorem Q3H:∀ (l:List JV) (id:Int),(tL l id).length=l.length
 |[],_=>rfl
 |x :: r,id=>by rw [tL,List.length_cons,Q3H r,List.length_cons]
theorem Q8K:∀ (m:List (ByteArray×JV)) (id:Int),(tM m id).length=m.length
 |[],_=>rfl
 |(a,x) :: r,id=>by rw [tM,List.length_cons,Q8K r,List.length_cons]
end Lg
namespace Lg
open Go Go.RowKit
variable [GLay]
variable {P:Program} {N:Nat} {e:Env} {σ l:List AO} {Q:QA} {ops:Array Oper} {o:Oper}
theorem Xv {c:Code} (k i sz n:Nat) (hn:l.length=n) {bs:List AV} (hq:l[k]? =some (.box bs)) (hi:bs[i]? =some .nils) (h:AWp P N c e (σ++(l++[AO.arr sz 0 []]).set k (.box (bs.set i (.arr (σ.length+n) 0 sz 0 0)))) Q):AWp P N c e (σ++l) Q:=
 Gc (σ.length+k) i sz (by rw [YT rfl];exact hq) hi (by
  have e1:(σ++l).length=σ.length+n:=by simp [hn]
  rw [e1,List.append_assoc,Kg rfl];exact h)
theorem Xa {c:Code} (kq i kp gg sz len:Nat) {bs cs:List AV} (hq:l[kq]? =some (.box bs)) (hi:bs[i]? =some (.arr (σ.length+kp) gg sz 0 len)) (hσ:l[kp]? =some (.arr sz gg cs)) (es:List (List AV)) (hes:es.flatten=cs)
  (hel:∀ r∈es,r.length=sz) (hlen:es.length=len) (hsz:sz ≠ 0) (k:AWp P N c e (σ++(l.set kp .dead).set kq (.box (bs.set i (.sl false sz es)))) Q):AWp P N c e (σ++l) Q:=by
 have hcl:cs.length=len * sz:=by rw [← hes,QJ hel,hlen]
 refine Wi (σ.length+kq) i (σ.length+kp) gg sz 0 len (by rw [YT rfl];exact hq) hi (by rw [YT rfl];exact hσ) es ?_ hel hlen hsz ?_ (by rw [Kg rfl,Kg rfl];exact k)
 ·rw [Nat.zero_mul,List.drop_zero,←hcl,List.take_length];exact hes
 ·rw [Nat.zero_add,hcl];exact Nat.le_refl _
theorem Yc {n0:Nat} {ts:List Nat} {el:List (Nat×AV)} {v:AV} {R:Out→List AO→Prop} (m:Nat) (hm:n0≤m) (h:W8 ts ⟨[],el⟩=v) (hc:closed m σ) (hv:v.lt m) (hR:R (.ret v) (σ.take m)):Wj n0 ts R .ret ⟨[],el⟩ σ:=
 ⟨rfl,m,hm,hc,by rw [h];exact hv,by rw [h];exact hR⟩
theorem Z1 {τ:List AO} {p:Nat} (hp:p < τ.length) (x:AO):(τ++l).set p x=τ.set p x++l:=List.set_append_left _ _ hp
theorem Q7b {m:List (Int×AV)} {k:Int} (h:∀ q∈m,¬q.1=k) (r:List (Int×AV)):(Z9 (m++r) k).map (·.2)=(Z9 r k).map (·.2):=by
 induction m with
 |nil=>rfl
 |cons a m ih=>
  obtain ⟨x,v⟩:=a
  have h1:¬k=x:=fun e=>h (x,v) (by simp) e.symm
  rw [List.cons_append,Z9,if_neg h1]
  have:=ih (fun q hq=>h q (by simp [hq]))
  rw [← this]
  cases Z9 (m++r) k<;>rfl
theorem Q5u {m:List (Int×AV)} {k:Int} (h:∀ q∈m,¬q.1=k) (v:AV):(Z9 (m++[(k,v)]) k).map (·.2)=some v:=by
 rw [Q7b h];simp [Z9]
theorem Wy (n:Nat) (m:List (Int×AV)) (h:∀ q∈m,q.2.lt n):AV.ltL n (ZH (Za m)):=by
 induction m with
 |nil=>trivial
 |cons a r ih=>
  obtain ⟨k,v⟩:=a
  exact ⟨trivial,h (k,v) (by simp),ih (fun q hq=>h q (by simp [hq]))⟩
end Lg
namespace Lg
open Go
mutual
def Gs:JV→Int→List (Int×AV)
 | .mk k b n s l m,id=>JM l (id+1)++VT m (id+1+Qm l)++[(id,.agg (Qf (.mk k b n s l m)))]
def JM:List JV→Int→List (Int×AV)
 |[],_=>[]
 |x :: r,id=>Gs x id++JM r (id+Q6 x)
def VT:List (ByteArray×JV)→Int→List (Int×AV)
 |[],_=>[]
 |(_,x) :: r,id=>Gs x id++VT r (id+Q6 x)
end
mutual
theorem Q03:∀ (v:JV) (id:Int),∀ q∈Gs v id,id≤q.1∧q.1 < id+Q6 v
 | .mk k b n s l m,id=>fun q hq=>by
  have hl:=Ze l
  have hm:=Zh m
  rw [Gs] at hq
  rw [Q6]
  rcases List.mem_append.1 hq with hq|hq
  ·rcases List.mem_append.1 hq with hq|hq
   ·have:=VE l _ q hq;omega
   ·have:=Q01 m _ q hq;omega
  ·rw [List.mem_singleton] at hq;subst hq;simp only;omega
theorem VE:∀ (l:List JV) (id:Int),∀ q∈JM l id,id≤q.1∧q.1 < id+Qm l
 |[],id=>fun q hq=>by simp [JM] at hq
 |x :: r,id=>fun q hq=>by
  have hr:=Ze r
  have hx:=Qi x
  rw [JM] at hq
  rw [Qm]
  rcases List.mem_append.1 hq with hq|hq
  ·have:=Q03 x _ q hq;omega
  ·have:=VE r _ q hq;omega
theorem Q01:∀ (m:List (ByteArray×JV)) (id:Int),∀ q∈VT m id,id≤q.1∧q.1 < id+Qw m
 |[],id=>fun q hq=>by simp [VT] at hq
 |(a,x) :: r,id=>fun q hq=>by
  have hr:=Zh r
  have hx:=Qi x
  rw [VT] at hq
  rw [Qw]
  rcases List.mem_append.1 hq with hq|hq
  ·have:=Q03 x _ q hq;omega
  ·have:=Q01 r _ q hq;omega
end
mutual
theorem Q04:∀ (v:JV) (id:Int),((Gs v id).length:Int)=Q6 v
 | .mk k b n s l m,id=>by rw [Gs,Q6,List.length_append,List.length_append];have:=UV l (id+1);have:=Q02 m (id+1+Qm l);simp only [List.length_cons,List.length_nil];omega
theorem UV:∀ (l:List JV) (id:Int),((JM l id).length:Int)=Qm l
 |[],id=>rfl
 |x :: r,id=>by rw [JM,Qm,List.length_append];have:=Q04 x id;have:=UV r (id+Q6 x);omega
theorem Q02:∀ (m:List (ByteArray×JV)) (id:Int),((VT m id).length:Int)=Qw m
 |[],id=>rfl
 |(a,x) :: r,id=>by rw [VT,Qw,List.length_append];have:=Q04 x id;have:=Q02 r (id+Q6 x);omega
end
section
variable [GLay]
mutual
theorem Q2q (n:Nat):∀ (v:JV) (id:Int),∀ q∈Gs v id,q.2.lt n
 | .mk k b nn s l m,id=>fun q hq=>by
  rw [Gs] at hq
  rcases List.mem_append.1 hq with hq|hq
  ·rcases List.mem_append.1 hq with hq|hq
   ·exact WZ n l _ q hq
   ·exact Q2p n m _ q hq
  ·rw [List.mem_singleton] at hq;subst hq;simp [AV.lt]
theorem WZ (n:Nat):∀ (l:List JV) (id:Int),∀ q∈JM l id,q.2.lt n
 |[],id=>fun q hq=>by simp [JM] at hq
 |x :: r,id=>fun q hq=>by
  rw [JM] at hq
  rcases List.mem_append.1 hq with hq|hq
  ·exact Q2q n x _ q hq
  ·exact WZ n r _ q hq
theorem Q2p (n:Nat):∀ (m:List (ByteArray×JV)) (id:Int),∀ q∈VT m id,q.2.lt n
 |[],id=>fun q hq=>by simp [VT] at hq
 |(a,x) :: r,id=>fun q hq=>by
  rw [VT] at hq
  rcases List.mem_append.1 hq with hq|hq
  ·exact Q2q n x _ q hq
  ·exact Q2p n r _ q hq
end
end
mutual
theorem G3 (m:Nat):∀ (v:JV) (id:Int),AV.ltL m (Y3 v id)
 | .mk k b n s l q,id=>by
  rw [Y3,H7]
  refine ⟨trivial,trivial,trivial,trivial,trivial,trivial,trivial,trivial,trivial,?_,?_,trivial⟩
  ·show AV.ltLL m (JQ q)
   rw [AV.ltLL_iff];intro e he;simp [JQ] at he;obtain ⟨a,b,_,rfl⟩:=he;exact ⟨trivial,trivial⟩
  ·show AV.ltLL m (tL l (id+1)++tM q (id+1+Qm l))
   rw [AV.ltLL_iff];intro e he
   rcases List.mem_append.1 he with he|he
   ·exact (AV.ltLL_iff _ _).1 (Q8J m l _) e he
   ·exact (AV.ltLL_iff _ _).1 (Q8L m q _) e he
theorem Q8J (m:Nat):∀ (l:List JV) (id:Int),AV.ltLL m (tL l id)
 |[],id=>trivial
 |x :: r,id=>by rw [tL];exact ⟨⟨G3 m x id,trivial⟩,Q8J m r _⟩
theorem Q8L (m:Nat):∀ (l:List (ByteArray×JV)) (id:Int),AV.ltLL m (tM l id)
 |[],id=>trivial
 |(a,x) :: r,id=>by rw [tM];exact ⟨⟨G3 m x id,trivial⟩,Q8L m r _⟩
end
end Lg
namespace Lg
open Go
theorem Uz (l:List JV) (x:JV):XD (l++[x])=max (XD l) (QZ x):=by
 induction l with
 |nil=>simp only [List.nil_append,XD]
 |cons a r ih=>simp only [List.cons_append,XD,ih];omega
theorem Q1Z [GLay] (m:List (ByteArray×JV)) (key:ByteArray) (x:JV):J4 (Jc m key x)=max (J4 m) (QZ x):=by
 induction m with
 |nil=>rw [Vh];simp only [J4]
 |cons p m ih=>
  obtain ⟨k,v⟩:=p
  rw [Kc]
  split
  ·simp only [J4,ih];omega
  ·simp only [J4]
theorem Q7x {l:List JV} {i:Nat} {x:JV} (h:l[i]? =some x):QZ x≤XD l:=by
 induction l generalizing i with
 |nil=>simp at h
 |cons a r ih=>
  cases i with
  |zero=>simp at h;subst h;simp only [XD];omega
  |succ i=>have:=ih (i:=i) (by simpa using h);simp only [XD];omega
def DD (r:RS) (x:JV×RS):Prop:=r.deep≤32→x.2.bad=0→QZ x.1+r.deep≤32
section
variable [GLay]
variable {rv:RS→JV×RS} {s:ByteArray} (hs:s.size≤100000) (hrv:∀ r,ROK s r→VR s r (rv r)) (hd:∀ r,ROK s r→DD r (rv r))
include hrv hd
theorem Q64:∀ (k:Nat) (l:List JV) (r:RS),ROK s r→r.deep≤32→(r.bad=0→XD l+r.deep≤32)→(ZU rv s k l r).2.bad=0→XD (ZU rv s k l r).1+r.deep≤32:=by
 intro k
 induction k with
 |zero=>intro l r h h1 h2 h3;exact h2 h3
 |succ k ih=>
  intro l r h h1 h2 h3
  rw [ZU] at h3 ⊢
  have hv:=hrv r h
  split at h3
  ·rename_i hc
   rw [if_pos hc]
   split at h3
   ·rename_i hp
    rw [if_pos hp]
    have hi:=JJ hv.fwd.ok (by omega)
    have e:(Xg (rv r).2).deep=r.deep:=hv.deep
    have:=ih (l++[(rv r).1]) (Xg (rv r).2) hi.ok (by omega) (fun e2=>by
     rw [Uz]
     have:=hd r h h1 e2
     have:=h2 (hv.fwd.b e2)
     omega) h3
    omega
   ·rename_i hp
    rw [if_neg hp,Uz]
    have:=hd r h h1 h3
    have:=h2 (hv.fwd.b h3)
    omega
  ·rename_i hc
   rw [if_neg hc];exact h2 h3
omit hd in
theorem FW {r:RS} (hb:r.bad=0) (h:(ZQ s r).bad=0) (h1:r.deep≤32):r.deep+1≤32:=by
 by_cases e:r.deep=32
 ·simp [ZQ,e,hb] at h
 ·omega
include hs
theorem Q8k {r:RS} (h:ROK s r) (hb:r.bad=0) (ha:r.a < s.size):DD r (WT rv s r):=fun h1 h2=>by
 obtain ⟨o1,o2,o3⟩:=Ke h hb ha
 obtain ⟨q1,q2,q3,q4,q5⟩:=Q2j hrv (s.size+2) [] (ZQ s r) o1.ok trivial (fun _=>trivial)
 obtain ⟨w1,w2⟩:=X6 (lit:=rb1) q1.ok
 have h3:(ZU rv s (s.size+2) [] (ZQ s r)).2.bad=0:=w1.b h2
 have h4:=FW hrv hb (q1.b h3) h1
 have h5:=Q64 hrv hd (s.size+2) [] (ZQ s r) o1.ok (by omega) (fun _=>by simp only [XD];omega) h3
 unfold WT
 show QZ (.mk 4 false {} e0 _ [])+_≤_
 rw [QZ,if_pos (.inl rfl),J4]
 have:=Kx (ZU rv s (s.size+2) [] (ZQ s r)).1
 omega
theorem Q67:∀ (k:Nat) (m:List (ByteArray×JV)) (r:RS),ROK s r→r.deep≤32→(r.bad=0→J4 m+r.deep≤32)→(Xr rv s k m r).2.bad=0→J4 (Xr rv s k m r).1+r.deep≤32:=by
 intro k
 induction k with
 |zero=>intro m r h h1 h2 h3;exact h2 h3
 |succ k ih=>
  intro m r h h1 h2 h3
  rw [Xr] at h3 ⊢
  obtain ⟨k1,k2,k3,k4,k5⟩:=Q17 hrv (m:=m) h
  have hv:=hrv _ k1.ok
  split at h3
  ·rename_i hc
   rw [if_pos hc]
   split at h3
   ·rename_i hp
    rw [if_pos hp]
    have hi:=JJ hv.fwd.ok (by omega)
    have e:(Xg (rv (XV s m r).2).2).deep=r.deep:=hv.deep.trans k2
    have:=ih (Jc m (XV s m r).1 (rv (XV s m r).2).1) (Xg (rv (XV s m r).2).2) hi.ok (by omega) (fun e2=>by
     rw [Q1Z]
     have:=hd _ k1.ok (by omega) e2
     have:=h2 (k1.b (hv.fwd.b e2))
     omega) h3
    omega
   ·rename_i hp
    rw [if_neg hp,Q1Z]
    have:=hd _ k1.ok (by omega) h3
    have:=h2 (k1.b (hv.fwd.b h3))
    omega
  ·rename_i hc
   rw [if_neg hc];exact h2 h3
theorem Q8u {r:RS} (h:ROK s r) (hb:r.bad=0) (ha:r.a < s.size):DD r (WV rv s r):=fun h1 h2=>by
 obtain ⟨o1,o2,o3⟩:=Ke h hb ha
 obtain ⟨q1,q2,q3,q4,q5⟩:=Q2m hs hrv (s.size+2) [] (ZQ s r) o1.ok trivial (fun _=>⟨fun q hq=>by simp at hq,List.Pairwise.nil⟩)
 obtain ⟨w1,w2⟩:=X6 (lit:=rb2) q1.ok
 have h3:(Xr rv s (s.size+2) [] (ZQ s r)).2.bad=0:=w1.b h2
 have h4:=FW hrv hb (q1.b h3) h1
 have h5:=Q67 hs hrv hd (s.size+2) [] (ZQ s r) o1.ok (by omega) (fun _=>by simp only [J4];omega) h3
 unfold WV
 show QZ (.mk 5 false {} e0 [] _)+_≤_
 rw [QZ,if_pos (.inr rfl),XD]
 have:=GN (Xr rv s (s.size+2) [] (ZQ s r)).1
 omega
theorem Q8v {r:RS} (h:ROK s r):DD r (ZM rv s r):=by
 have hz:∀ {k:Int} {b:Bool} {n:JNum} {t:ByteArray} {r':RS},¬(k=4∨k=5)→DD r (.mk k b n t [] [],r'):=fun {k b n t r'} hk h1 _=>by
  show QZ (.mk k b n t [] [])+_≤_
  rw [QZ,if_neg hk];omega
 unfold ZM
 split
 ·rename_i hp;have:=Yv (s:=s) (a:=r.a) (bad:=r.bad) (by omega);exact Q8u hs hrv hd h this.1 this.2.1
 split
 ·rename_i hp;have:=Yv (s:=s) (a:=r.a) (bad:=r.bad) (by omega);exact Q8k hs hrv hd h this.1 this.2.1
 split
 ·exact hz (by decide)
 split
 ·exact hz (by decide)
 split
 ·exact hz (by decide)
 split
 ·exact hz (by decide)
 split
 ·exact hz (by decide)
 ·exact hz (by decide)
end
section
variable [GLay]
theorem Q8B {s:ByteArray} (hs:s.size≤100000):∀ (n:Nat) (r:RS),ROK s r→DD r (Z2 n s r):=by
 intro n
 induction n with
 |zero=>intro r h h1 h2;show QZ (.mk 0 false {} ⟨#[]⟩ [] [])+_≤_;rw [QZ,if_neg (by decide)];omega
 |succ n ih=>
  intro r h h1 h2
  have b1:=Xq h
  have hv:=Q1a hs (JL hs n) b1.ok
  have b2:=Xq hv.fwd.ok
  rw [Z2] at h2 ⊢
  exact Q8v hs (JL hs n) ih b1.ok h1 (b2.b h2)
theorem Q3A (s:ByteArray) (h:(Zp s).2.1=0):QZ (Zp s).1≤32:=by
 unfold Zp at h ⊢
 split at h
 ·cases h
 ·rename_i hs
  split at h
  ·rename_i hb
   rw [if_neg hs,if_pos hb]
   have h0:ROK s ⟨0,0,0,0⟩:=⟨Nat.zero_le _,fun _=>Nat.zero_le _,Int.le_refl _,Int.le_refl _⟩
   have hb2:(YY s).2.bad=0:=by
    unfold KP at hb
    split at hb
    ·exact absurd hb (Kb (by decide))
    ·exact hb
   have:=Q8B (by omega) (s.size+2) ⟨0,0,0,0⟩ h0 (by decide) hb2
   have e:(Z2 (s.size+2) s ⟨0,0,0,0⟩)=YY s:=rfl
   rw [e] at this;dsimp only at this ⊢;omega
  ·rename_i hb;exact absurd h hb
theorem Q3B (s:ByteArray) (h:(QW s).2 ≠ 0):QZ (QW s).1≤32:=by
 unfold QW at h ⊢
 split
 ·rename_i h1;rw [if_pos h1] at h;exact absurd rfl h
 rename_i h1
 rw [if_neg h1] at h
 split
 ·rename_i h2;exact Q3A s h2
 ·rename_i h2;rw [if_neg h2] at h;exact absurd rfl h
end
def K1 (v:JV):List JV:=v.l++v.m.map (·.2)
theorem tLM (m:List (ByteArray×JV)):∀ (l:List JV) (id:Int),tL l id++tM m (id+Qm l)=tL (l++m.map (·.2)) id
 |[],id=>by
  simp only [tL,Qm,List.nil_append,Int.add_zero]
  induction m generalizing id with
  |nil=>rfl
  |cons q r ih=>obtain ⟨k,x⟩:=q;simp only [tM,List.map_cons,tL,ih]
 |y :: r,id=>by
  simp only [List.cons_append,tL]
  rw [← tLM m r (id+Q6 y),Qm,show id+(Q6 y+Qm r)=id+Q6 y+Qm r by omega]
theorem Q8R (v:JV) (id:Int):Y3 v id= .int .i64 id :: (H7 v.kind v.b v.n v.s++[.sl false 1 (JQ v.m),.sl false 1 (tL (K1 v) (id+1))]):=by
 rw [Q09,tLM];rfl
theorem Q2u (v:JV) (id:Int):Y3 v id=[.int .i64 id,.int .i64 v.kind,.bool v.b,.bool v.n.neg,.str v.n.digits,.int .i64 v.n.exp,.str v.s,.nils,.nils,.sl false 1 (JQ v.m),.sl false 1 (tL (K1 v) (id+1))]:=Q8R v id
theorem W4 (m:List (ByteArray×JV)):∀ l:List JV,Qm (l++m.map (·.2))=Qm l+Qw m
 |[]=>by
  simp only [List.nil_append,Qm,Int.zero_add]
  induction m with
  |nil=>rfl
  |cons q r ih=>obtain ⟨k,x⟩:=q;simp only [List.map_cons,Qm,Qw,ih]
 |y :: r=>by simp only [List.cons_append,Qm,W4 m r];omega
theorem Jo (v:JV):Q6 v=1+Qm (K1 v):=by rw [Zs,K1,W4];omega
theorem GY (l:List JV) (id:Int):(tL l id).flatten.length=l.length:=by
 induction l generalizing id with
 |nil=>rfl
 |cons a r ih=>simp only [tL,List.flatten_cons,List.length_append,ih,List.length_cons,List.length_nil];omega
theorem Q1h (m:List (ByteArray×JV)) (id:Int):(tM m id).flatten.length=m.length:=by
 induction m generalizing id with
 |nil=>rfl
 |cons a r ih=>obtain ⟨k,x⟩:=a;simp only [tM,List.flatten_cons,List.length_append,ih,List.length_cons,List.length_nil];omega
theorem Qe4 (l:List JV) (id:Int):∀ r∈tL l id,r.length=1:=by
 induction l generalizing id with
 |nil=>intro r hr;simp [tL] at hr
 |cons a r ih=>
  intro x hx
  rw [tL] at hx
  rcases List.mem_cons.1 hx with rfl|h
  ·rfl
  ·exact ih _ x h
theorem Qe5 (m:List (ByteArray×JV)) (id:Int):∀ r∈tM m id,r.length=1:=by
 induction m generalizing id with
 |nil=>intro r hr;simp [tM] at hr
 |cons a r ih=>
  obtain ⟨k,y⟩:=a
  intro x hx
  rw [tM] at hx
  rcases List.mem_cons.1 hx with rfl|h
  ·rfl
  ·exact ih _ x h
theorem Q7t (m:List (ByteArray×JV)):(JQ m).length=m.length:=by simp [JQ]
theorem Q9I (m:List (ByteArray×JV)):∀ r∈JQ m,r.length=1:=by intro r hr;simp [JQ] at hr;obtain ⟨_,_,_,rfl⟩:=hr;rfl
theorem Q5z (m:List (ByteArray×JV)) (q:ByteArray×JV):(JQ (m++[q])).flatten=(JQ m).flatten++[.str q.1]:=by simp [JQ]
theorem Uw (m:List (ByteArray×JV)):(JQ m).flatten.length=m.length:=by
 induction m with
 |nil=>rfl
 |cons a r ih=>
  have:JQ (a :: r)=[.str a.1] :: JQ r:=rfl
  rw [this];simp only [List.flatten_cons,List.length_append,ih,List.length_cons,List.length_nil];omega
@[simp] theorem krow_lt (n:Nat) (m:List (ByteArray×JV)):AV.ltLL n (JQ m):=by
 rw [AV.ltLL_iff];intro e he;simp [JQ] at he;obtain ⟨a,b,_,rfl⟩:=he;exact ⟨trivial,trivial⟩
theorem Vu {n:Nat} {es:List (List AV)} (h:AV.ltLL n es):AV.ltL n es.flatten:=by
 rw [AV.ltL_iff];intro a ha
 obtain ⟨e,he,h2⟩:=List.mem_flatten.1 ha
 exact (AV.ltL_iff _ _).1 ((AV.ltLL_iff _ _).1 h e he) a h2
theorem Q5q {α:Type} (a b:List (List α)) (c:List α):(a++(b++[c])).flatten=(a++b).flatten++c:=by simp
theorem Q7y (n:Nat) (a b:List (List AV)):AV.ltLL n (a++b)↔AV.ltLL n a∧AV.ltLL n b:=by
 induction a with
 |nil=>simp [AV.ltLL]
 |cons x a ih=>simp only [List.cons_append,AV.ltLL,ih,and_assoc]
attribute [simp] G3 Q8J Q8L
section
variable [GLay]
theorem Q9V {v:JV} (h:Ye v) (hk:¬v.kind=4):v.l=[]:=by
 have hb:=((Yr v).1 h).1.2.2.1
 unfold Gj at hb
 simp only [hk,Bool.and_eq_true,Bool.or_eq_true,decide_eq_true_eq,or_false] at hb
 exact List.length_eq_zero_iff.1 hb.2.1
theorem Q9W {v:JV} (h:Ye v) (hk:¬v.kind=5):v.m=[]:=by
 have hb:=((Yr v).1 h).1.2.2.1
 unfold Gj at hb
 simp only [hk,Bool.and_eq_true,Bool.or_eq_true,decide_eq_true_eq,or_false] at hb
 exact List.length_eq_zero_iff.1 hb.2.2
theorem Q9U {v:JV} (h:Ye v) {i:Nat} {x:JV} (hx:v.l[i]? =some x):Ye x:=((Yr v).1 h).2.2 i x hx
theorem Q7A {v:JV} (h:Ye v) {i:Nat} {q:ByteArray×JV} (hq:v.m[i]? =some q):Ye q.2:=
 (((Yr v).1 h).2.1 i q (List.getElem?_eq_some_iff.1 hq).1 hq).2
end
end Lg
namespace Lg
open Go Go.RowKit
variable [GLay]
variable {P:Program} {N:Nat} {e:Env} {σ l:List AO} {Q:QA} {o:Oper}
theorem AVle.capA (p g sz off len cap:Nat):AVle (.arrC p g sz off len cap) (.arr p g sz off len):=fun s v h=>by
 cases h with
 |arrC _ _ _ _ _ _ _ h1 h=>
  refine .arr p g sz off len v h1 ?_
  unfold ArrAt at h ⊢
  cases hσ:s.σ[p]? with
  |none=>rw [hσ] at h;exact h.elim
  |some x=>
   rw [hσ] at h
   cases x with
   |arr sz' g0 cs=>exact ⟨h.1,fun e=>⟨(h.2 e).1,.inr ⟨cap,(h.2 e).2⟩⟩⟩
   |dead=>trivial
   |_=>exact h.elim
theorem PW.anys {s:CS} (vs:List Value):PW s (List.replicate vs.length .any) vs:=
 ⟨by simp,fun i c v h1 h2=>by
  rw [List.getElem?_replicate] at h1
  split at h1
  ·cases h1;exact .any v
  ·cases h1⟩
theorem PW.anysN {s:CS} {n:Nat} {vs:List Value} (h:vs.length=n):PW s (List.replicate n .any) vs:=h ▸ PW.anys vs
theorem Vk {α:Type} {vs news:List α} {base i L:Nat} (h1:i+news.length≤L) (h2:base+L≤vs.length):
  ((vs.take (base+i)++news++vs.drop (base+i+news.length)).drop base).take L=(((vs.drop base).take L).take i++news++((vs.drop base).take L).drop (i+news.length)):=by
 apply List.ext_getElem?
 intro j
 simp only [List.getElem?_take,List.getElem?_drop,List.getElem?_append,List.length_append,List.length_take,List.length_drop]
 by_cases c0:j < L
 ·simp only [c0,if_true]
  by_cases c1:j < i
  ·simp only [show base+j < min (base+i) vs.length+news.length by omega,show base+j < min (base+i) vs.length by omega,show base+j < base+i by omega,show j < min i (min L (vs.length - base))+news.length by omega,
    show j < min i (min L (vs.length - base)) by omega,c1,if_true]
  ·by_cases c2:j < i+news.length
   ·simp only [show base+j < min (base+i) vs.length+news.length by omega,show ¬base+j < min (base+i) vs.length by omega,show j < min i (min L (vs.length - base))+news.length by omega,
     show ¬j < min i (min L (vs.length - base)) by omega,if_true,if_false]
    congr 1;omega
   ·simp only [show ¬base+j < min (base+i) vs.length+news.length by omega,show ¬j < min i (min L (vs.length - base))+news.length by omega,if_false]
    rw [if_pos (by omega)]
    congr 1;omega
 ·simp only [c0,if_false]
  rw [if_neg (by omega),if_neg (by omega)]
theorem PW.splice {s:CS} {cs ds:List AV} {us ws:List Value} (h:PW s cs us) (k:PW s ds ws) (i:Nat):PW s (cs.take i++ds++cs.drop (i+ds.length)) (us.take i++ws++us.drop (i+ws.length)):=by
 rw [k.1]
 exact ((h.take i).append k).append (h.drop _)
theorem Kr {c:Code} (t p g sz n:Nat) {cs:List AV} (hl:Zc e.l t=some (.arr p g sz 0 n)) (hσ:σ[p]? =some (.arr sz g cs)) (hcs:cs.length=n * sz) (hn:n ≠ 0) (hsz:sz ≠ 0) (ht:t < N)
  (k:∀ cap,n≤cap→AWp P N c (e.put (some t) (.arrC p (g+1) sz 0 n cap)) (σ.set p (.arr sz (g+1) (cs++List.replicate ((cap - n) * sz) .any))) Q):AWp P N c e σ Q:=fun s0 s a hs gd x he=>by
 subst hs
 have hplt:p < s.σ.length:=(List.getElem?_eq_some_iff.1 hσ).1
 have hv:=he.tmps t
 rw [show e.look t= .arr p g sz 0 n from QQ hl] at hv
 obtain ⟨_,⟨A,hA,h0⟩|⟨cap,hA,hlc,hfit⟩⟩:=hv.inv_arr hσ
 ·exact absurd h0 hn
 ·rw [Nat.zero_add] at hfit
  have hlive:s.live p:=by
   unfold CS.live;rw [hσ]
   show (s.μ p).tot ≠ 0
   have:0 < cap * sz:=Nat.mul_pos (by omega) (Nat.pos_of_ne_zero hsz)
   omega
  obtain ⟨_,vs,T,hb,ht0,h7,h8,hpv⟩:=gd.rep hσ hlive
  have hcn:n * sz+(cap - n) * sz=cap * sz:=by rw [← Nat.add_mul];congr 1;omega
  obtain ⟨s',e1,e2,g',x',hμ⟩:=gd.renew hσ (g':=g+1) (by omega) (cs':=cs++List.replicate ((cap - n) * sz) .any) (s.μ p) (w':=s.w) (Nat.le_refl _) rfl rfl rfl (fun b _ _=>rfl)
   (.inr ⟨.inl ⟨rfl,hlive⟩,vs,T,hb,ht0,h7,by rw [List.length_append,List.length_replicate,hcs];omega,by
    have h9:=hpv.append (PW.anysN (s:=s) (n:=(cap - n) * sz) (vs:=((vs.drop (s.μ p).base).drop cs.length).take ((cap - n) * sz)) (by simp;omega))
    rw [List.length_append,List.length_replicate,List.take_add]
    exact h9⟩)
  have hv':V s' (.arrC p (g+1) sz 0 n cap) (a.eval (.tmp t)):=by
   rw [hA]
   refine .arrC _ _ _ _ _ _ _ rfl (.mk (cs:=cs++List.replicate ((cap - n) * sz) .any) (by rw [e1];simp [hplt]) ⟨rfl,by rw [hμ],hlc,by rw [hμ,Nat.zero_add];exact hfit⟩)
  have:=k cap hlc s0 s' a e1 g' (x.trans x') (by
   have h1:=(he.mono gd x').put (some t) hv' (fun d hd=>by cases hd;exact ht)
   rwa [Ka (by rw [he.size];exact ht)] at h1)
  rwa [e2] at this
theorem Q4s {T E:TypeId} {x:Operand} {p g sz off len cap:Nat} {cs:List AV} {c:Array TypeId} (ho:o.op= .call { callee:=.builtin .cap,args:= #[x],argTypes:=c}) (hc:c[0]? =some T) (hu:P.underlying T=some (.slice E))
  (hx:opO e x=some (.arrC p g sz off len cap)) (hσ:σ[p]? =some (.arr sz g cs)):AOp P σ e o (.int .i64 cap) σ:=
 .of_run fun s a hs _ hv=>by
  subst hs
  have h1:=(Qp hx ▸ hv x (by simp [ho,Op.operands,Call.operands])).inv_arrC hσ
  refine ⟨.int .i64 cap,?_,.int _ _⟩
  simp [execOp,ho,resolve,invoke,builtin,h1.2.1,Builtin.cap_,hc,run_underlying hu,goInt]
theorem XU {T E:TypeId} {x:Operand} {lo hi:Option Operand} {sz p g off len cap:Nat} {cs:List AV} (l h:Int) (ho:o.op= .slice T x lo hi none) (hu:P.underlying T=some (.slice E))
  (hsz:∀ w,(Go.sizeOf E).run P w=Result.ok sz w) (hx:opO e x=some (.arrC p g sz off len cap)) (hσ:σ[p]? =some (.arr sz g cs))
  (hl:bnd e 0 l lo) (hh:bnd e (len:Nat) h hi) (h0:0≤l) (h1:l≤h) (h2:h≤cap) (h3:l < cap):
  AOp P σ e o (.arrC p g sz (off+l.toNat) (h.toNat - l.toNat) (cap - l.toNat)) σ:=
 .of_run fun s a hs _ hv=>by
  subst hs
  have hxv:=(Qp hx ▸ hv x (by simp [ho,Op.operands])).inv_arrC hσ
  have hl':=hl.ev (s:=s) (a:=a) (fun y hy=>hv y (by subst hy;simp [ho,Op.operands]))
  have hh':=hh.ev (s:=s) (a:=a) (fun y hy=>hv y (by subst hy;simp [ho,Op.operands]))
  obtain ⟨_,h5,h6,h7⟩:=hxv
  refine ⟨_,by simp only [execOp,ho,h5,Sem.run_bind,Option.map_none];rw [X2 (cap:=cap) hu hsz hl' hh' h0 h1 h2];rfl,?_⟩
  rw [if_neg (by omega)]
  refine .arrC p g sz _ _ _ _ rfl ?_
  unfold ArrAt;rw [hσ]
  refine ⟨Nat.le_refl _,fun _=>⟨rfl,?_,by omega,?_⟩⟩
  ·simp only [Option.map_some,X3];rw [Nat.add_mul,Nat.add_assoc]
  ·rw [show off+l.toNat+(cap - l.toNat)=off+cap by omega];exact h7
theorem Q8z {w:World} {t u ty E:TypeId} {sz m n dLen cap b off:Nat} {x:Value} {news cur:List Value} {T:TypeId} (ht:P.underlying t=some (.slice E)) (hsz:∀ w,(Go.sizeOf E).run P w=Result.ok sz w) (hm:(Builtin.lenOf x).run P w= .ok m w) (hn:min m dLen=n)
  (hf:(Builtin.firstCells sz n x).run P w= .ok news.toArray w) (hb:w.heap[b]? =some (.cells cur.toArray T (0,0))) (hfit:off+news.length≤cur.length) (h1:∀ v∈news,v.oneCell'=true):
  (Builtin.copy_ #[t,u] ty #[.slice (some ⟨b,off,none⟩) dLen cap,x]).run P w= .ok (.int .i64 n) (w.setRow b (cur.take off++news++cur.drop (off+news.length)).toArray):=by
 have hst:=run_storeCells_at P b off T news 0 cur.toArray w hb (by simpa using hfit) h1
 simp only [Nat.add_zero] at hst
 subst hn
 have e:Nat.min m dLen=min m dLen:=rfl
 simp [Builtin.copy_,run_underlying ht,hsz,hm,e,hf,goInt,hst]
def Q2Q (P:Program) (σ:List AO) (y:AV) (sz m n:Nat) (ds:List AV):Prop:=
 ∀ (s:CS) (c:Value),s.σ=σ→Good s→V s y c→∃ vs:List Value,PW s ds vs∧(Builtin.lenOf c).run P s.w= .ok m s.w∧(Builtin.firstCells sz n c).run P s.w= .ok vs.toArray s.w
theorem GX {y:AV} {sz m:Nat} {ds:List AV} (h:YI σ y=some (ds,m)) (hz:szv y sz):Q2Q P σ y sz m m ds:=fun s c hs g hv=>by
 subst hs
 obtain ⟨vs,h1,h2,h3⟩:=hv.src g h hz
 exact ⟨vs,h1,h2,h3 s.w rfl⟩
theorem QaC {p g sz off len n:Nat} {cs:List AV} (hσ:σ[p]? =some (.arr sz g cs)) (hn:n≤len) (hfit:(off+len) * sz≤cs.length):Q2Q P σ (.arr p g sz off len) sz len n ((cs.drop (off * sz)).take (n * sz)):=fun s c hs gd hv=>by
 subst hs
 have hfl:off * sz+len * sz≤cs.length:=by rw [← Nat.add_mul];exact hfit
 have hnl:n * sz≤len * sz:=Nat.mul_le_mul_right _ hn
 have tk_some:∀ (k:Nat) (ds:List AV),k≤ds.length→tk k ds=some (ds.take k):=by
  intro k
  induction k with
  |zero=>intro ds _;simp [tk]
  |succ k ih=>
   intro ds h
   cases ds with
   |nil=>simp at h
   |cons d ds=>simp only [tk,ih ds (by simpa using h),Option.map_some,List.take_succ_cons]
 have hs1:YI s.σ (.arr p g sz off len)=some ((cs.drop (off * sz)).take (len * sz),len):=by
  simp only [YI,hσ,if_true,tk_some _ _ (show len * sz≤(cs.drop (off * sz)).length by rw [List.length_drop];omega),Option.map_some]
 have hs2:YI s.σ (.arr p g sz off n)=some ((cs.drop (off * sz)).take (n * sz),n):=by
  simp only [YI,hσ,if_true,tk_some _ _ (show n * sz≤(cs.drop (off * sz)).length by rw [List.length_drop];omega),Option.map_some]
 obtain ⟨vs1,_,hl1,_⟩:=V.src (P:=P) gd hv hs1 (show szv _ sz from rfl)
 obtain ⟨_,⟨A,hA,h0⟩|⟨cap,hA,hlc,hft⟩⟩:=hv.inv_arr hσ
 ·subst h0
  have:n=0:=by omega
  subst this
  obtain ⟨vs,h1,_,h3⟩:=V.src (P:=P) gd hv hs1 (show szv _ sz from rfl)
  exact ⟨vs,h1,hl1,h3 s.w rfl⟩
 ·have hv2:V s (.arr p g sz off n) (.slice (some ⟨(s.μ p).b,(s.μ p).base+off * sz,none⟩) n cap):=by
   refine .arr _ _ _ _ _ _ rfl ?_
   unfold ArrAt;rw [hσ]
   exact ⟨Nat.le_refl _,fun _=>⟨rfl,.inr ⟨cap,rfl,by omega,hft⟩⟩⟩
  obtain ⟨vs,h1,_,h3⟩:=V.src (P:=P) gd hv2 hs2 (show szv _ sz from rfl)
  refine ⟨vs,h1,hl1,?_⟩
  have h4:=h3 s.w rfl
  rw [hA]
  have e:∀ q:Nat,Builtin.firstCells sz n (.slice (some ⟨(s.μ p).b,(s.μ p).base+off * sz,none⟩) q cap)=Builtin.firstCells sz n (.slice (some ⟨(s.μ p).b,(s.μ p).base+off * sz,none⟩) n cap):=fun q=>rfl
  rw [e];exact h4
theorem Q7P {x y:Operand} {t u E:TypeId} {sz m n p g off len:Nat} {cs ds:List AV} {yv:AV} (ho:o.op= .call { callee:=.builtin .copy,args:= #[x,y],argTypes:= #[t,u]}) (ht:P.underlying t=some (.slice E)) (hsz:∀ w,(Go.sizeOf E).run P w=Result.ok sz w)
  (hx:opO e x=some (.arr p g sz off len)) (hσ:σ[p]? =some (.arr sz g cs)) (hlen:0 < len) (hsz0:sz ≠ 0) (hfit:(off+len) * sz≤cs.length) (hy:opO e y=some yv) (hsrc:Q2Q P σ yv sz m n ds) (hn:min m len=n) (hds:ds.length=n * sz) (h1:∀ a∈ds,a.one=true∨a= .any)
  (hone:∀ (s:CS) vs,PW s ds vs→Good s→s.σ=σ→(∃ c,V s yv c∧(Builtin.firstCells sz n c).run P s.w= .ok (List.toArray vs) s.w)→∀ v∈vs,v.oneCell'=true):
  AOp P σ e o (.int .i64 n) (σ.set p (.arr sz g (cs.take (off * sz)++ds++cs.drop (off * sz+ds.length)))):=by
 intro s a hs gd hv K Q hk _
 subst hs
 have hxv:=(Qp hx ▸ hv x (by simp [ho,Op.operands,Call.operands])).inv_arr hσ
 have hyv:=Qp hy ▸ hv y (by simp [ho,Op.operands,Call.operands])
 obtain ⟨_,⟨A,hA,h0⟩|⟨cap,hA,hlc,hft⟩⟩:=hxv
 ·omega
 ·have hlive:s.live p:=by
   unfold CS.live;rw [hσ]
   show (s.μ p).tot ≠ 0
   have:0 < (off+cap) * sz:=Nat.mul_pos (by omega) (Nat.pos_of_ne_zero hsz0)
   omega
  obtain ⟨_,vs,T,hb,ht0,h7,h8,hpv⟩:=gd.rep hσ hlive
  obtain ⟨ws,hp,hl,hf⟩:=hsrc s _ rfl gd hyv
  have hwl:ws.length=ds.length:=hp.1
  have hnl:n * sz≤len * sz:=Nat.mul_le_mul_right _ (by omega)
  have hfl:off * sz+len * sz≤cs.length:=by rw [← Nat.add_mul];exact hfit
  have hrun:=Q8z (ty:=o.type) (u:=u) (dLen:=len) (cap:=cap) (b:=(s.μ p).b) (off:=(s.μ p).base+off * sz) (x:=a.eval y) (news:=ws) (cur:=vs) (T:=T) ht hsz hl hn hf hb (by omega) (hone s ws hp gd rfl ⟨_,hyv,hf⟩)
  have hsp:=Vk (vs:=vs) (news:=ws) (base:=(s.μ p).base) (i:=off * sz) (L:=cs.length) (by omega) (by omega)
  have hps:=hpv.splice hp (off * sz)
  have hcl:(cs.take (off * sz)++ds++cs.drop (off * sz+ds.length)).length=cs.length:=by
   simp only [List.length_append,List.length_take,List.length_drop];omega
  obtain ⟨s',e1,e2,g',x',hμ,hok⟩:=gd.setObj hσ hlive (o':=.arr sz g (cs.take (off * sz)++ds++cs.drop (off * sz+ds.length))) (.arr _ _ _ _ _ (Nat.le_refl _) fun _=>hcl.symm) rfl
   (vs:=vs.take ((s.μ p).base+off * sz)++ws++vs.drop ((s.μ p).base+off * sz+ws.length)) ⟨ht0,by simp only [List.length_append,List.length_take,List.length_drop];omega,by rw [hcl];exact h8,by rw [hcl,hsp];exact hps⟩
  refine Zn (w':=s'.w) (cv:=.int .i64 n) ?_ (hk _ _ s' ⟨rfl,e1⟩ g' x' (.int _ _))
  rw [e2]
  simp only [execOp,ho,resolve,invoke,builtin,Sem.run_bind,Sem.run_pure,Result.andThen_ok,List.map_toArray,List.map_cons,List.map_nil,hA]
  rw [hrun];rfl
end Lg
namespace Lg
open Go Go.RowKit
variable [GLay]
variable {P:Program} {N:Nat} {e:Env} {σ l:List AO} {Q:QA} {o:Oper}
theorem YV {x y:Operand} {t u E:TypeId} {sz m n p g off len:Nat} {cs ds:List AV} {yv:AV} (ho:o.op= .call { callee:=.builtin .copy,args:= #[x,y],argTypes:= #[t,u]}) (ht:P.underlying t=some (.slice E)) (hsz:∀ w,(Go.sizeOf E).run P w=Result.ok sz w)
  (hx:opO e x=some (.arr p g sz off len)) (hσ:σ[p]? =some (.arr sz g cs)) (hlen:0 < len) (hsz0:sz ≠ 0) (hfit:(off+len) * sz≤cs.length) (hy:opO e y=some yv) (hsrc:Q2Q P σ yv sz m n ds) (hn:min m len=n) (hds:ds.length=n * sz) (h1:Zf ds=true):
  AOp P σ e o (.int .i64 n) (σ.set p (.arr sz g (cs.take (off * sz)++ds++cs.drop (off * sz+ds.length)))):=
 Q7P ho ht hsz hx hσ hlen hsz0 hfit hy hsrc hn hds (fun a ha=>.inl ((K5 _).1 h1 a ha)) (fun s vs hp _ _ _=>UF hp h1)
theorem Q2n {w:World} {t u ty E:TypeId} {i:TypeInfo} {z:Value} {A:Option Addr} {sLen sCap k:Nat} {olds:List Value}
  (ht:P.underlying t=some (.slice E)) (hu:P.underlying u=some (.int .i64)) (hi:P.info? E=some i) (hz:i.zero=some z) (hz0:z.cells.size=i.size)
  (hfo:(Builtin.firstCells i.size sLen (.slice A sLen sCap)).run P w.drew= .ok olds.toArray w.drew)
  (hroom:sCap < sLen+k) (h63:sLen+k≤9223372036854775807) (hby:(sLen+k) * i.bytes≤140737488355328):
  ∃ rest:List Value,∃ cap:Nat,sLen+k≤cap∧rest.length=(cap - sLen) * z.cells.size∧(Builtin.append_ #[t,u] ty #[.slice A sLen sCap,.int .i64 k]).run P w=
   .ok (.slice (some ⟨w.heap.size,0,none⟩) (sLen+k) cap) (w.drew.alloc (.cells (olds++rest).toArray E (0,0))):=by
 have hn:¬(sLen+k≤sCap):=by omega
 have hfit:=growslice_fits (need:=sLen+k) (old:=sCap) (bytes:=i.bytes) hroom hby
 have hkb:k * i.bytes≤140737488355328:=Nat.le_trans (Nat.mul_le_mul_right _ (by omega)) hby
 have h48':¬(281474976710656 < Builtin.nextslicecap (sLen+k) sCap * i.bytes):=by omega
 have hk63:k≤9223372036854775807:=by omega
 have hwr:IntKind.i64.wrap (k:Int)=k:=Yp (by omega) (by omega)
 have h63':¬(9223372036854775807 < ((sLen:Int)+(k:Int))):=by omega
 have hneg:¬((k:Int) < 0):=by omega
 have hlk:¬((281474976710656:Int) < (k:Int) * (i.bytes:Int)):=by
  have h0:((k * i.bytes:Nat):Int)≤((140737488355328:Nat):Int):=Int.ofNat_le.2 hkb
  rw [Int.natCast_mul] at h0
  generalize (k:Int) * (i.bytes:Int)=q at h0 ⊢
  omega
 have hmax:max (k:Int) 0=k:=by omega
 have hge:=grownCap_ge w (sLen+k) sCap E
 refine ⟨((if k * i.size=0 then #[] else Builtin.zeroCells z.cells k)++Builtin.zeroCells z.cells (grownCap w (sLen+k) sCap E - (sLen+k))).toList,grownCap w (sLen+k) sCap E,hge,?_,?_⟩
 ·rw [Array.length_toList,Array.size_append,size_zeroCells]
  have:(if k * i.size=0 then (#[]:Array Value) else Builtin.zeroCells z.cells k).size=k * z.cells.size:=by
   split
   ·rename_i h;rw [hz0,h];rfl
   ·exact size_zeroCells _ _
  rw [this,←Nat.add_mul];congr 1;omega
 ·simp only [Builtin.append_,List.getElem?_toArray,List.getElem?_cons_zero,List.getElem?_cons_succ]
  by_cases hk0:k * i.size=0
  ·simp [run_underlying ht,run_underlying hu,Go.sizeOf,typeInfo,zeroValue,hi,hz,hn,h48',asInt,asIntOf,hwr,hmax,hneg,hlk,h63',hk0,Question.forced,hfo,newRow,grownCap]
   congr 2
   apply Array.ext'
   simp
  ·simp [run_underlying ht,run_underlying hu,Go.sizeOf,typeInfo,zeroValue,hi,hz,hn,h48',asInt,asIntOf,hwr,hmax,hneg,hlk,h63',hk0,Question.forced,hfo,newRow,grownCap]
   congr 2
   apply Array.ext'
   simp

theorem HD {x y:Operand} {t u E:TypeId} {i:TypeInfo} {z:Value} {sz p g off len cap k:Nat} {cs:List AV} (ho:o.op= .call { callee:=.builtin .append,args:= #[x,y],argTypes:= #[t,u]})
  (ht:P.underlying t=some (.slice E)) (hu:P.underlying u=some (.int .i64)) (hi:P.info? E=some i) (hz:i.zero=some z) (hsz:i.size=sz) (hzs:z.cells.size=sz)
  (hx:opO e x=some (.arrC p g sz off len cap)) (hσ:σ[p]? =some (.arr sz g cs)) (hsz0:sz ≠ 0) (hc0:0 < cap) (hfit:(off+len) * sz≤cs.length) (hy:opO e y=some (.int .i64 k)) (hroom:cap < len+k) (hby:(len+k) * i.bytes≤140737488355328) (h63:len+k≤9223372036854775807):
  AOp P σ e o (.arr σ.length 0 sz 0 (len+k)) (σ++[.arr sz 0 ((cs.drop (off * sz)).take (len * sz)++List.replicate (k * sz) .any)]):=by
 intro s a hs gd hv K Q hk _
 subst hs
 subst hsz
 have hxv:=(Qp hx ▸ hv x (by simp [ho,Op.operands,Call.operands])).inv_arrC hσ
 have hyv:=(Qp hy ▸ hv y (by simp [ho,Op.operands,Call.operands])).inv_int
 obtain ⟨_,hA,hlc,hft⟩:=hxv
 have hlive:s.live p:=by
  unfold CS.live;rw [hσ]
  show (s.μ p).tot ≠ 0
  have:0 < (off+cap) * i.size:=Nat.mul_pos (by omega) (Nat.pos_of_ne_zero hsz0)
  omega
 obtain ⟨_,vs,T,hb,ht0,h7,h8,hpv⟩:=gd.rep hσ hlive
 have hfl:off * i.size+len * i.size≤cs.length:=by rw [← Nat.add_mul];exact hfit
 have hpo:=(hpv.drop (off * i.size)).take (len * i.size)
 have hol:=hpo.1.trans (show _=len * i.size by rw [List.length_take,List.length_drop];omega)
 obtain ⟨rest,cap',hc1,hc2,hrun⟩:=Q2n (ty:=o.type) (A:=some ⟨(s.μ p).b,(s.μ p).base+off * i.size,none⟩) (sLen:=len) (sCap:=cap) (k:=k) (w:=s.w) ht hu hi hz (by rw [hzs]) (run_firstCells_some s.w.drew i.size len _ len cap _ hol fun j v hj=>by
  rw [X3]
  rw [List.getElem?_take] at hj
  split at hj
  ·rw [List.getElem?_drop,List.getElem?_take] at hj
   split at hj
   ·rw [List.getElem?_drop] at hj
    show s.w.cell? _=_
    rw [YD hb,Nat.add_assoc];exact hj
   ·cases hj
  ·cases hj) hroom h63 hby
 generalize hol2:List.take (len * i.size) (List.drop (off * i.size) (List.take cs.length (List.drop (s.μ p).base vs)))=olds at hrun hpo hol
 have hkl:k * i.size≤rest.length:=by rw [hc2,hzs];exact Nat.mul_le_mul_right _ (by omega)
 have hL:((cs.drop (off * i.size)).take (len * i.size)++List.replicate (k * i.size) AV.any).length=len * i.size+k * i.size:=by simp;omega
 obtain ⟨s',e1,e2,g',x',hμ⟩:=gd.newArr (sz:=i.size) (cs:=(cs.drop (off * i.size)).take (len * i.size)++List.replicate (k * i.size) .any) (vs:=olds++rest) (by
  rw [hL,←hol,List.take_length_add_append,hol]
  exact hpo.append (PW.anysN (by rw [List.length_take];omega))) (by rw [hL,List.length_append,hol];omega) E (w:=s.w.drew) (Below.refl _ _).drew rfl
 refine Zn (w':=s'.w) (cv:=.slice (some ⟨s.w.heap.size,0,none⟩) (len+k) cap') ?_ (hk _ _ s' ⟨rfl,e1⟩ g' x' ?_)
 ·rw [e2]
  simp only [execOp,ho,resolve,invoke,builtin,Sem.run_bind,Sem.run_pure,Result.andThen_ok,List.map_toArray,List.map_cons,List.map_nil,hA,hyv]
  rw [hrun];rfl
 ·refine V.newArr (cs:=(cs.drop (off * i.size)).take (len * i.size)++List.replicate (k * i.size) .any) (by rw [e1];simp) hμ hc1 ?_
  rw [List.length_append,hol,hc2,hzs,←Nat.add_mul]
  exact Nat.mul_le_mul_right _ (by omega)

theorem Gn {x y:Operand} {t u E:TypeId} {i:TypeInfo} {z:Value} {d:TypeDesc} {sz p g off len cap m:Nat} {cs ds:List AV} {yv:AV} (ho:o.op= .call { callee:=.builtin .append,args:= #[x,y],argTypes:= #[t,u]})
  (hd:d= .string∨∃ E',d= .slice E') (ht:P.underlying t=some (.slice E)) (hu:P.underlying u=some d) (hi:P.info? E=some i) (hsz:i.size=sz)
  (hx:opO e x=some (.arrC p g sz off len cap)) (hσ:σ[p]? =some (.arr sz g cs)) (hsz0:sz ≠ 0) (hc0:0 < cap) (hy:opO e y=some yv) (hsrc:Q2Q P σ yv sz m m ds) (hds:ds.length=m * sz) (h1:Zf ds=true) (hroom:len+m≤cap) (hfit:(off+(len+m)) * sz≤cs.length):
  AOp P σ e o (.arrC p g sz off (len+m) cap) (σ.set p (.arr sz g (cs.take (off * sz+len * sz)++ds++cs.drop (off * sz+len * sz+ds.length)))):=by
 intro s a hs gd hv K Q hk _
 subst hs
 subst hsz
 have hplt:p < s.σ.length:=(List.getElem?_eq_some_iff.1 hσ).1
 have hxv:=(Qp hx ▸ hv x (by simp [ho,Op.operands,Call.operands])).inv_arrC hσ
 have hyv:=Qp hy ▸ hv y (by simp [ho,Op.operands,Call.operands])
 obtain ⟨_,hA,hlc,hft⟩:=hxv
 have hlive:s.live p:=by
  unfold CS.live;rw [hσ]
  show (s.μ p).tot ≠ 0
  have:0 < (off+cap) * i.size:=Nat.mul_pos (by omega) (Nat.pos_of_ne_zero hsz0)
  omega
 obtain ⟨_,vs,T,hb,ht0,h7,h8,hpv⟩:=gd.rep hσ hlive
 obtain ⟨ws,hp,hl,hf⟩:=hsrc s _ rfl gd hyv
 have hwl:ws.length=ds.length:=hp.1
 have hfl:off * i.size+len * i.size+m * i.size≤cs.length:=by rw [Nat.add_assoc,←Nat.add_mul,←Nat.add_mul];exact hfit
 have hrun:=Kf (ty:=o.type) (b:=(s.μ p).b) (off:=(s.μ p).base+off * i.size) (sLen:=len) (sCap:=cap) (x:=a.eval y) (news:=ws) (cur:=vs) (T:=T) hd ht hu hi hl hf hroom hb (by omega) (UF hp h1)
 rw [show (s.μ p).base+off * i.size+len * i.size=(s.μ p).base+(off * i.size+len * i.size) by omega] at hrun
 have hsp:=Vk (vs:=vs) (news:=ws) (base:=(s.μ p).base) (i:=off * i.size+len * i.size) (L:=cs.length) (by omega) (by omega)
 have hps:=hpv.splice hp (off * i.size+len * i.size)
 have hcl:(cs.take (off * i.size+len * i.size)++ds++cs.drop (off * i.size+len * i.size+ds.length)).length=cs.length:=by
  simp only [List.length_append,List.length_take,List.length_drop];omega
 obtain ⟨s',e1,e2,g',x',hμ,hok⟩:=gd.setObj hσ hlive (o':=.arr i.size g (cs.take (off * i.size+len * i.size)++ds++cs.drop (off * i.size+len * i.size+ds.length))) (.arr _ _ _ _ _ (Nat.le_refl _) fun _=>hcl.symm) rfl
  (vs:=vs.take ((s.μ p).base+(off * i.size+len * i.size))++ws++vs.drop ((s.μ p).base+(off * i.size+len * i.size)+ws.length)) ⟨ht0,by simp only [List.length_append,List.length_take,List.length_drop];omega,by rw [hcl];exact h8,by rw [hcl,hsp];exact hps⟩
 refine Zn (w':=s'.w) (cv:=.slice (some ⟨(s.μ p).b,(s.μ p).base+off * i.size,none⟩) (len+m) cap) ?_ (hk _ _ s' ⟨rfl,e1⟩ g' x' ?_)
 ·rw [e2]
  simp only [execOp,ho,resolve,invoke,builtin,Sem.run_bind,Sem.run_pure,Result.andThen_ok,List.map_toArray,List.map_cons,List.map_nil,hA]
  rw [hrun];rfl
 ·refine .arrC _ _ _ _ _ _ _ rfl (.mk (cs:=cs.take (off * i.size+len * i.size)++ds++cs.drop (off * i.size+len * i.size+ds.length)) (by rw [e1];simp [hplt]) ⟨rfl,by rw [hμ],hroom,by rw [hμ];exact hft⟩)
theorem FR {x:Operand} {t E:TypeId} {z:Value} {sz p g off len:Nat} {cs:List AV} {c:Array TypeId} (ho:o.op= .call { callee:=.builtin .clear,args:= #[x],argTypes:=c}) (hc:c[0]? =some t) (ht:P.underlying t=some (.slice E)) (hz:∀ w,(zeroValue E).run P w=Result.ok z w) (hzs:z.cells.size=sz) (hz1:∀ v∈z.cells.toList,v.oneCell'=true)
  (hx:opO e x=some (.arr p g sz off len)) (hσ:σ[p]? =some (.arr sz g cs)) (hlen:0 < len) (hsz0:sz ≠ 0) (hfit:(off+len) * sz≤cs.length):
  AOp P σ e o (.tup []) (σ.set p (.arr sz g (cs.take (off * sz)++List.replicate (len * sz) .any++cs.drop (off * sz+len * sz)))):=by
 intro s a hs gd hv K Q hk _
 subst hs
 have hxv:=(Qp hx ▸ hv x (by simp [ho,Op.operands,Call.operands])).inv_arr hσ
 obtain ⟨_,⟨A,hA,h0⟩|⟨cap,hA,hlc,hft⟩⟩:=hxv
 ·omega
 ·have hlive:s.live p:=by
   unfold CS.live;rw [hσ]
   show (s.μ p).tot ≠ 0
   have:0 < (off+cap) * sz:=Nat.mul_pos (by omega) (Nat.pos_of_ne_zero hsz0)
   omega
  obtain ⟨_,vs,T,hb,ht0,h7,h8,hpv⟩:=gd.rep hσ hlive
  have hfl:off * sz+len * sz≤cs.length:=by rw [← Nat.add_mul];exact hfit
  have hwl:(Builtin.zeroCells z.cells len).toList.length=len * sz:=by rw [Array.length_toList,size_zeroCells,hzs]
  have hw1:∀ v∈(Builtin.zeroCells z.cells len).toList,v.oneCell'=true:=by
   intro v hv
   simp only [Builtin.zeroCells,Array.toList_map,List.mem_map,Array.toList_range,List.mem_range] at hv
   obtain ⟨j,hj,rfl⟩:=hv
   have hj2:j % z.cells.size < z.cells.size:=Nat.mod_lt _ (by rw [hzs];omega)
   rw [getElem!_pos z.cells (j % z.cells.size) hj2]
   exact hz1 _ (by simp)
  generalize hws:(Builtin.zeroCells z.cells len).toList=ws at hwl hw1
  obtain ⟨q,rfl⟩:∃ q,len=q+1:=⟨len - 1,by omega⟩
  have hst:=run_storeCells_at P (s.μ p).b ((s.μ p).base+off * sz) T ws 0 vs.toArray s.w hb (by simp;omega) hw1
  simp only [Nat.add_zero] at hst
  have hrun:(Builtin.clear_ c o.type #[.slice (some ⟨(s.μ p).b,(s.μ p).base+off * sz,none⟩) (q+1) cap]).run P s.w= .ok (.tuple #[]) (s.w.setRow (s.μ p).b (vs.take ((s.μ p).base+off * sz)++ws++vs.drop ((s.μ p).base+off * sz+ws.length)).toArray):=by
   simp [Builtin.clear_,hc,run_underlying ht,hz,hws,hst]
  have hsp:=Vk (vs:=vs) (news:=ws) (base:=(s.μ p).base) (i:=off * sz) (L:=cs.length) (by omega) (by omega)
  have hps:=hpv.splice (PW.anysN (s:=s) hwl) (off * sz)
  rw [List.length_replicate] at hps
  have hcl:(cs.take (off * sz)++List.replicate ((q+1) * sz) AV.any++cs.drop (off * sz+(q+1) * sz)).length=cs.length:=by
   simp only [List.length_append,List.length_take,List.length_drop,List.length_replicate];omega
  obtain ⟨s',e1,e2,g',x',hμ,hok⟩:=gd.setObj hσ hlive (o':=.arr sz g (cs.take (off * sz)++List.replicate ((q+1) * sz) AV.any++cs.drop (off * sz+(q+1) * sz))) (.arr _ _ _ _ _ (Nat.le_refl _) fun _=>hcl.symm) rfl
   (vs:=vs.take ((s.μ p).base+off * sz)++ws++vs.drop ((s.μ p).base+off * sz+ws.length)) ⟨ht0,by simp only [List.length_append,List.length_take,List.length_drop];omega,by rw [hcl];exact h8,by rw [hcl,hsp];exact hps⟩
  refine Zn (w':=s'.w) (cv:=.tuple #[]) ?_ (hk _ _ s' ⟨rfl,e1⟩ g' x' (V.tup (s:=s') [] [] rfl (fun i c v h _=>by simp at h)))
  rw [e2]
  simp only [execOp,ho,resolve,invoke,builtin,Sem.run_bind,Sem.run_pure,Result.andThen_ok,List.map_toArray,List.map_cons,List.map_nil,hA]
  rw [hrun];rfl
end Lg
namespace Lg
open Go Go.RowKit
variable [GLay]
variable {P:Program} {N:Nat} {e:Env} {σ l:List AO} {Q:QA} {o:Oper} {p:Nat} {x y z:AO} {f:FuncId} {args:List AV} {v:AV}
theorem QbO {n:Nat} (hn:l.length=n) (hp:p < σ.length) (h:ACalls P f args (σ.set p x++l) (Ret (.ptr (σ.set p x++l).length 0) ((σ.set p x++l).set p y++[z]))):
  ACalls P f args (σ.set p x++l) (Ret (.ptr (σ.length+n) 0) (σ.set p y++(l++[z]))):=by
 rw [List.set_append_left _ _ (by simpa using hp),List.set_set,List.length_append,List.length_set,hn,List.append_assoc] at h
 exact h
theorem QT {c:Code} (t k:Nat) {cs:List AV} (hl:Zc e.l t=some (.ptr (σ.length+k) 0)) (hk:l[k]? =some (.box cs)) (h:AWp P N c (e.put (some t) (.pp cs)) (σ.set p x++l.set k .gone) Q) (ht:t < N):AWp P N c e (σ.set p x++l) Q:=
 Q2O t (σ.length+k) 0 hl (by rw [ZJ];exact hk) (by rw [XN];exact h) ht
section
variable {T K E:TypeId} {a b c:Operand} {m:List (Int×AV)} {k:Int} {zv:Value}
theorem YW {q:Nat} {w:AV} (ho:o.op= .lookup T a b false) (hu:P.underlying T=some (.map K E)) (hK:P.underlying K=some (.int .i64)) (hz:∀ w,(zeroValue E).run P w=Result.ok zv w) (hx:opO e a=some (.mapv q)) (hy:opO e b=some (.int .i64 k))
  (hσ:σ[q]? =some (.map (Za m))) (hn:(Z9 m k).map (·.2)=some w):AOp P σ e o w σ:=by
 have h:=Q3t ho hu hK hz hx hy hσ
 rw [hn] at h;exact h
end
end Lg
namespace Lg
open Go Go.RowKit
variable [GLay]
section
variable {P:Program} {σ:List AO} {e:Env} {o:Oper}
end
end Lg
namespace Lg
open Go Go.RowKit
theorem WX {P:Program} (w:World) (tS tR e:TypeId) (ht:P.underlying tS=some (.slice e)) (size:Nat) (hz:∀ w,(Go.sizeOf e).run P w= .ok size w)
  (a b:Addr) (la ca lb cb:Nat) (hne:a.block ≠ b.block) (xa xb:Array Value) (tA tB:TypeId) (fr:Nat×Nat)
  (hsa:w.heap[a.block]? =some (.cells xa tA fr)) (hka:xa.size ≠ 0) (hsb:w.heap[b.block]? =some (.cells xb tB (0,0))):
  (Extern.SlicesOverlaps.overlaps #[tS,tS] #[tR] #[.slice (some a) la ca,.slice (some b) lb cb]).run P w= .ok (.bool false) w:=by
 have hnb:(a.block != b.block)=true:=by simpa using hne
 have hnb':(a.block == b.block)=false:=by simpa using hne
 have sa:w.shape? a.block=some (tA,xa.size):=by unfold World.shape?;rw [hsa]
 have sb:w.shape? b.block=some (tB,xb.size):=by unfold World.shape?;rw [hsb]
 have fb:∀ off sp,w.frozen? ⟨b.block,off,sp⟩=false:=fun off sp=>by unfold World.frozen?;rw [hsb];simp
 have fb':w.frozen? b=false:=fb b.off b.spot
 obtain ⟨ka,hka'⟩:∃ k,xa.size=k+1:=⟨xa.size - 1,by omega⟩
 change Sem.run P (α:=Value) (do
  let some t:=(#[tS,tS]:Array TypeId)[0]? |stuck "slices.overlaps: no parameter types"
  let .slice elem ←underlying t|stuck "slices.overlaps: slice type expected"
  let size ←sizeOf elem
  match (some a:Option Addr),(some b:Option Addr) with
  |some a,some b=>
   if la=0∨lb=0∨size=0 then pure (Value.bool false)
   else if a.block != b.block && (← frozen a) && (← frozen b) then unsupported .addressObserved
   else do
    if a.block != b.block then do
     noView a;noView b
     if ←mayBeOne a b then return Value.bool ((← choose (.extern "sameAddr.stringBytes" 2)) == 1)
    pure (Value.bool (a.block == b.block && a.off < b.off+lb * size && b.off < a.off+la * size))
  |_,_=>pure (Value.bool false)) w=_
 by_cases h0:la=0∨lb=0∨size=0
 ·simp [run_underlying ht,hz,h0]
 ·rw [hka'] at sa
  by_cases hfa:w.frozen? a=true
  ·simp [run_underlying ht,hz,h0,hnb,hnb',frozen,noView,viewAt,mayBeOne,stringish,shape,Sem.run,sa,sb,fb,fb',hfa]
  ·simp [run_underlying ht,hz,h0,hnb,hnb',frozen,noView,viewAt,mayBeOne,stringish,shape,Sem.run,sa,sb,fb,fb',hfa]
variable [GLay]
theorem WL {P:Program} {σ:List AO} {e:Env} {o:Oper} {f:FuncId} {fn:Func} {x y:Operand} {at_:Array TypeId} {tS tR E:TypeId} {fl:Bool} {sz p g off len cap:Nat} {r:List AV} {rs:List (List AV)} {cs:List AV} (ho:o.op= .call { callee:=.value (.func f),args:= #[x,y],argTypes:=at_})
  (hf:P.funcs[f]? =some fn) (hname:(fn.name == "runtime.NumGoroutine")=false) (hb:fn.body.isNone=true) (hnx:Extern.findNext fn=none) (hex:Extern.find fn=some (Extern.SlicesOverlaps.overlaps #[tS,tS] #[tR]))
  (hu:P.underlying tS=some (.slice E)) (hsz:∀ w,(Go.sizeOf E).run P w=Result.ok sz w) (hx:opO e x=some (.sl fl sz (r :: rs))) (hy:opO e y=some (.arrC p g sz off len cap)) (hp:σ[p]? =some (.arr sz g cs))
  (hsz0:sz ≠ 0) (hcap:cap ≠ 0):AOp P σ e o (.bool false) σ:=
 .of_run fun s a hs gd hv=>by
  subst hs
  have hxv:=(Qp hx ▸ hv x (by simp [ho,Op.operands,Call.operands])).inv_sl
  have hyv:=(Qp hy ▸ hv y (by simp [ho,Op.operands,Call.operands])).inv_arrC hp
  rcases hxv with ⟨ad,hA,hnil⟩|⟨b,offx,capx,vs,hA,hok,hel,hcell,hpw,hcapx,_⟩
  ·cases hnil
  ·obtain ⟨_,hB,hlen,hfit2⟩:=hyv
   have hposp:(s.μ p).tot ≠ 0:=by
    have:0 < (off+cap) * sz:=Nat.mul_pos (by omega) (by omega)
    omega
   have hlp:s.live p:=by unfold CS.live;rw [hp];exact hposp
   obtain ⟨hnok,vp,Tp,bp,rp⟩:=gd.rep hp hlp
   have hokb:s.ok b:=hok.resolve_left (by simp)
   have hne:b ≠ (s.μ p).b:=fun h=>hnok (h ▸ hokb)
   have hrl:=hel r (List.mem_cons_self ..)
   have hvl:0 < vs.length:=by
    rw [hpw.1,List.flatten_cons,List.length_append];omega
   obtain ⟨v0,hv0⟩:∃ v,vs[0]? =some v:=⟨_,List.getElem?_eq_getElem hvl⟩
   have hc0:=hcell 0 v0 hv0
   obtain ⟨xa,Ta,fr,hxa,hxs⟩:∃ xa Ta fr,s.w.heap[b]? =some (.cells xa Ta fr)∧xa.size ≠ 0:=by
    unfold World.cell? at hc0
    simp only at hc0
    split at hc0
    ·rename_i xa Ta fr hh
     refine ⟨xa,Ta,fr,hh,fun h0=>?_⟩
     split at hc0
     ·cases hc0
     ·rw [Array.getElem?_eq_none (by omega)] at hc0;cases hc0
    ·cases hc0
   refine ⟨.bool false,?_,.bool _⟩
   have hrun:=WX (P:=P) s.w tS tR E hu sz hsz ⟨b,offx,none⟩ ⟨(s.μ p).b,(s.μ p).base+off * sz,none⟩ (r :: rs).length capx len cap hne xa vp.toArray Ta Tp fr hxa hxs bp
   have hF:a.eval (.func f)= .func (.func f) #[] #[]:=rfl
   simp only [execOp,ho,resolve,Sem.run_bind,Sem.run_pure,Result.andThen_ok,List.map_toArray,List.map_cons,List.map_nil,hA,hB,hF,Deferred.ofValue,invoke]
   simp only [Array.append_empty,Array.empty_append]
   rw [run_callFunc_extern hf hname hb hnx hex,hrun];rfl
end Lg
