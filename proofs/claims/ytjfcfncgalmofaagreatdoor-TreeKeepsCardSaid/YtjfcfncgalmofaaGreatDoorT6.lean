/- A part of the proof of The tree's Apply, and what the reference says of it: the same answer and the same tree.: Lt7 Lt8 Lt9 Lt10 Lg64 A1 Lt11 A6 M1 Sh6 X1 A7 Lg57 Lg50 Lg51 Lg52 Lg56 Lg58 Lg59 Lg60 Lg61 Lt12 A8 A2. -/
import Derived.Test.YtjfcfncgalmofaaGreatDoorT5
import Derived.Test.YtjfcfncgalmofaaGreatDoorT4
import Derived.Test.YtjfcfncgalmofaaGreatDoorT3
import Derived.Test.YtjfcfncgalmofaaGreatDoorT2
import Derived.Shelf.Strings.SlTrimAscii
import Derived.Shelf.Strconv.Atoi
import Derived.Test.YtjfcfncgalmofaaGreatDoorProg
set_option linter.unusedVariables false
set_option linter.unusedSimpArgs false
set_option linter.unusedSectionVars false
namespace Lg
open Go
def YA (ks:List ByteArray) (key:ByteArray):Nat:=(ks.takeWhile fun a=>blt a key).length
def J9 (ks:List ByteArray) (key:ByteArray):Bool:=match ks[YA ks key]? with
 |some a=>decide (a=key)
 |none=>false
theorem Hy (m:List BJ) (key:ByteArray):QU m key=YA (m.map (·.1)) key:=by
 unfold QU YA;rw [List.takeWhile_map,List.length_map];rfl
theorem Ux (m:List BJ) (key:ByteArray):fnd m key=J9 (m.map (·.1)) key:=by
 unfold fnd J9;rw [Hy,List.getElem?_map]
 cases m[YA (m.map (·.1)) key]? <;>rfl
theorem Q4c (ks:List ByteArray) (key:ByteArray):YA ks key≤ks.length:=(List.takeWhile_sublist _).length_le
theorem K2 {ks:List ByteArray} {key:ByteArray} (h:J9 ks key=true):ks[YA ks key]? =some key:=by
 unfold J9 at h
 cases e:ks[YA ks key]? with
 |none=>rw [e] at h;cases h
 |some a=>rw [e] at h;rw [of_decide_eq_true h]
def tfo (t:JT) (nm:BL) (e:Bool):Bool:=if t.k=4 then Zr nm t.ch.length e else if t.k=5 then J9 t.ks (ba nm) else false
def tfk (t:JT) (nm:BL) (e:Bool):Nat:=if t.k=4 then (ZF nm t.ch.length e).toNat else if t.k=5 then YA t.ks (ba nm) else 0
theorem U3 {t:JT} {nm:BL} {e:Bool} (h:t.k=4):tfo t nm e=Zr nm t.ch.length e:=by unfold tfo;rw [if_pos h]
theorem Vm {t:JT} {nm:BL} {e:Bool} (h:t.k=5):tfo t nm e=J9 t.ks (ba nm):=by unfold tfo;rw [if_neg (by omega),if_pos h]
theorem HZ {t:JT} {nm:BL} {e:Bool} (h4:¬t.k=4) (h5:¬t.k=5):tfo t nm e=false:=by unfold tfo;rw [if_neg h4,if_neg h5]
theorem HY {t:JT} {nm:BL} {e:Bool} (h:t.k=4):tfk t nm e=(ZF nm t.ch.length e).toNat:=by unfold tfk;rw [if_pos h]
theorem VV {t:JT} {nm:BL} {e:Bool} (h:t.k=5):tfk t nm e=YA t.ks (ba nm):=by unfold tfk;rw [if_neg (by omega),if_pos h]
theorem Q9D (nm:BL) (n:Nat) (e:Bool):((ZF nm n e).toNat:Int)=ZF nm n e:=by
 unfold ZF;cases Uu nm n e<;>simp [Option.elim]
theorem HX {t:JT} (hw:TW t) {nm:BL} (h:tfo t nm false=true):∃ x,t.ch[tfk t nm false]? =some x:=by
 by_cases h4:t.k=4
 ·rw [U3 h4] at h
  obtain ⟨k,hk,hlt⟩:=Xw h
  rw [HY h4,hk,Int.toNat_natCast]
  exact ⟨_,List.getElem?_eq_getElem hlt⟩
 ·by_cases h5:t.k=5
  ·rw [Vm h5] at h
   have h1:=(List.getElem?_eq_some_iff.1 (K2 h)).1
   rw [Vr hw h5] at h1
   rw [VV h5]
   exact ⟨_,List.getElem?_eq_getElem h1⟩
  ·rw [HZ h4 h5] at h;cases h
def Xi:List BL→JT→Option JT
 |[],t=>some t
 |nm :: r,t=>match (if tfo t nm false=true then t.ch[tfk t nm false]? else none) with
  |some x=>Xi r x
  |none=>none
theorem H0 {nm:BL} {r:List BL} {t:JT} (h:tfo t nm false=false):Xi (nm :: r) t=none:=by rw [Xi,if_neg (by simp [h])]
theorem Q3J {nm:BL} {r:List BL} {t x:JT} (h:tfo t nm false=true) (hx:t.ch[tfk t nm false]? =some x):Xi (nm :: r) t=Xi r x:=by rw [Xi,if_pos h,hx]
theorem Q59 {α β:Type} {a:List α} {b:List β} {i:Nat} {x:α} {y:β} (hx:a[i]? =some x) (hy:b[i]? =some y):(a.zip b)[i]? =some (x,y):=by
 rw [List.getElem?_zip_eq_some];exact ⟨hx,hy⟩
theorem Q4Y {t:JT} (hw:TW t) {nm:BL} {x:JT} (h5:t.k=5) (h:J9 t.ks (ba nm)=true) (hx:t.ch[YA t.ks (ba nm)]? =some x):(tv t).m[QU (tv t).m (ba nm)]? =some (ba nm,tv x)∧fnd (tv t).m (ba nm)=true:=by
 refine ⟨?_,by rw [Ux,YO hw];exact h⟩
 rw [Hy,YO hw,U9 (by omega)]
 exact Q59 (K2 h) (YP hx)
section
variable [GLay]
theorem Km:∀ (l:List BL) {t:JT},TW t→match Xi l t with
  |some x=>Qz l (tv t)=(tv x,true)∧TW x
  |none=>Qz l (tv t)=(vz,false)
 |[],t,h=>⟨rfl,h⟩
 |nm :: r,t,h=>by
  by_cases h4:t.k=4
  ·have h4v:(tv t).kind=4:=by rw [XK];exact h4
   have hln:(tv t).l.length=t.ch.length:=by rw [Ko h4,Xz]
   by_cases ho:Zr nm t.ch.length false=true
   ·obtain ⟨k,hk,hlt⟩:=Xw ho
    have hx:t.ch[k]? =some t.ch[k]:=List.getElem?_eq_getElem hlt
    rw [Q3J (by rw [U3 h4];exact ho) (by rw [HY h4,hk,Int.toNat_natCast];exact hx),Hv h4v (by rw [hln];exact ho) (by rw [hln];exact hk) (by rw [Ko h4];exact YP hx)]
    exact Km r (JW h hx)
   ·rw [H0 (by rw [U3 h4];simpa using ho)]
    exact V7 h4v (by rw [hln];simpa using ho)
  ·have h4v:¬(tv t).kind=4:=by rw [XK];exact h4
   by_cases h5:t.k=5
   ·have h5v:(tv t).kind=5:=by rw [XK];exact h5
    have hs:=Gt (Jx t h)
    have hj:=J8 (key:=ba nm) h5v hs
    by_cases hf:J9 t.ks (ba nm)=true
    ·obtain ⟨x,hx⟩:=HX h (nm:=nm) (by rw [Vm h5];exact hf)
     rw [VV h5] at hx
     obtain ⟨e1,e2⟩:=Q4Y h h5 hf hx
     have hd:jfD (tv t) (ba nm)=tv x:=by
      unfold jfD Z7
      rw [if_pos h5v,Vt _ hs,if_pos e2,e1];rfl
     rw [Q3J (by rw [Vm h5];exact hf) (by rw [VV h5];exact hx),Hw h4v (by rw [hj];exact e2),hd]
     exact Km r (JW h hx)
    ·rw [H0 (by rw [Vm h5];simpa using hf)]
     exact Jn h4v (by rw [hj,Ux,YO h];simpa using hf)
   ·rw [H0 (HZ h4 h5)]
    exact Jn h4v (by unfold jfB Z7;rw [if_neg (by rw [XK];exact h5)];rfl)
end
def tup (t:JT) (id:Int) (ks:List ByteArray) (ch:List JT):JT:=.mk id t.k t.b t.n t.s ks ch
abbrev TR:=JT×Int×Bool
def twi (g:JT→Int→TR):List BL→JT→Int→TR
 |[],t,nx=>g t nx
 |nm :: r,t,nx=>match (if tfo t nm false=true then t.ch[tfk t nm false]? else none) with
  |none=>(t,nx,false)
  |some x=>if (twi g r x nx).2.2=true then (tup t (twi g r x nx).2.1 t.ks (t.ch.set (tfk t nm false) (twi g r x nx).1),(twi g r x nx).2.1+1,true) else (t,(twi g r x nx).2.1,false)
section
variable {g:JT→Int→TR} {nm:BL} {r:List BL} {t x:JT} {nx:Int}
theorem Ga (h:tfo t nm false=false):twi g (nm :: r) t nx=(t,nx,false):=by rw [twi,if_neg (by simp [h])]
theorem Ue (h:tfo t nm false=true) (hx:t.ch[tfk t nm false]? =some x) (hb:(twi g r x nx).2.2=false):twi g (nm :: r) t nx=(t,(twi g r x nx).2.1,false):=by rw [twi,if_pos h,hx];simp [hb]
theorem Fd (h:tfo t nm false=true) (hx:t.ch[tfk t nm false]? =some x) (hb:(twi g r x nx).2.2=true):twi g (nm :: r) t nx=(tup t (twi g r x nx).2.1 t.ks (t.ch.set (tfk t nm false) (twi g r x nx).1),(twi g r x nx).2.1+1,true):=by rw [twi,if_pos h,hx];simp [hb]
end
def YB (nm:BL) (x t:JT) (nx:Int):TR:=
 if t.k=4 then (if Zr nm t.ch.length true=true then (tup t nx t.ks (t.ch.take (ZF nm t.ch.length true).toNat++x :: t.ch.drop (ZF nm t.ch.length true).toNat),nx+1,true) else (t,nx,false)) else
 if t.k=5 then (if J9 t.ks (ba nm)=true then (tup t nx t.ks (t.ch.set (YA t.ks (ba nm)) x),nx+1,true) else
  (tup t nx (t.ks.take (YA t.ks (ba nm))++ba nm :: t.ks.drop (YA t.ks (ba nm))) (t.ch.take (YA t.ks (ba nm))++x :: t.ch.drop (YA t.ks (ba nm))),nx+1,true)) else (t,nx,false)
def XJ (nm:BL) (t:JT) (nx:Int):TR:=
 if tfo t nm false=true then (tup t nx (if t.k=5 then t.ks.take (tfk t nm false)++t.ks.drop (tfk t nm false+1) else t.ks) (t.ch.take (tfk t nm false)++t.ch.drop (tfk t nm false+1)),nx+1,true) else (t,nx,false)
def ZR (l:List BL) (x t:JT) (nx:Int):TR:=if l=[] then (x,nx,true) else twi (YB (l.getLastD []) x) l.dropLast t nx
def Z8 (l:List BL) (t:JT) (nx:Int):JT×Int×Int:=if l=[] then (t,nx,7) else ((twi (XJ (l.getLastD [])) l.dropLast t nx).1,(twi (XJ (l.getLastD [])) l.dropLast t nx).2.1,eC (twi (XJ (l.getLastD [])) l.dropLast t nx).2.2)
def Kn (l:List BL) (v:JV) (t:JT) (nx:Int):TR:=twi (fun _ n=>(tj v n,n+Q6 v,true)) l t nx
def Q6t (g:JT→Int→TR) (h:JV→JV×Bool):Prop:=∀ (t:JT) (nx:Int),TW t→(g t nx).2.2=(h (tv t)).2∧((g t nx).2.2=true→tv (g t nx).1=(h (tv t)).1∧TW (g t nx).1)
theorem Q3K {t:JT} {id:Int} {ch:List JT} (h:TW t) (hc:∀ x∈ch,TW x) (hl:ch.length=t.ch.length):TW (tup t id t.ks ch):=by
 unfold tup
 refine .mk _ _ _ _ _ _ _ (Uc h) (fun h5=>by rw [hl];exact Vr h h5) (fun h4 h5=>?_) (We h) hc
 have:=Q0c h h4 h5
 rw [this] at hl;exact List.length_eq_zero_iff.1 hl
theorem Q3F {t x:JT} {i:Nat} (h:TW t) (hx:TW x):∀ y∈t.ch.set i x,TW y:=fun y hy=>by
 rcases List.mem_or_eq_of_mem_set hy with hy|rfl
 ·exact ((Vq t).1 h).2.2.2.2 y hy
 ·exact hx
theorem Q1n (l:List JT) (i:Nat) (x:JT):tvs (l.set i x)=(tvs l).set i (tv x):=by rw [X7,X7,List.map_set]
theorem Ua (a b:List JT):tvs (a++b)=tvs a++tvs b:=by rw [X7,X7,X7,List.map_append]
theorem Vp (l:List JT) (i:Nat):tvs (l.take i)=(tvs l).take i:=by rw [X7,X7,List.map_take]
theorem Ub (l:List JT) (i:Nat):tvs (l.drop i)=(tvs l).drop i:=by rw [X7,X7,List.map_drop]
theorem Fb (id k:Int) (b:Bool) (n:JNum) (s:ByteArray) (ks:List ByteArray) (ch:List JT):tv (.mk id k b n s ks ch)= .mk k b n s (if k=4 then tvs ch else []) (if k=4 then [] else ks.zip (tvs ch)):=by rw [tv]
theorem Q1t {α β:Type}:∀ (a:List α) (b:List β) (i:Nat) (x:α) (y:β),a[i]? =some x→(a.zip b).set i (x,y)=a.zip (b.set i y)
 |[],b,i,x,y,h=>by simp at h
 |a :: r,[],i,x,y,h=>by simp
 |a :: r,c :: s,0,x,y,h=>by simp at h;subst h;simp
 |a :: r,c :: s,i+1,x,y,h=>by simp only [List.zip_cons_cons,List.set_cons_succ];rw [Q1t r s i x y (by simpa using h)]
theorem H1 [GLay] {g:JT→Int→TR} {h:JV→JV×Bool} (hg:Q6t g h):∀ l:List BL,Q6t (twi g l) (pwi h l)
 |[]=>hg
 |nm :: r=>fun t nx hw=>by
  have ih:=H1 hg r
  by_cases h4:t.k=4
  ·have h4v:(tv t).kind=4:=by rw [XK];exact h4
   have hln:(tv t).l.length=t.ch.length:=by rw [Ko h4,Xz]
   by_cases ho:Zr nm t.ch.length false=true
   ·obtain ⟨k,hk,hlt⟩:=Xw ho
    have hx:t.ch[k]? =some t.ch[k]:=List.getElem?_eq_getElem hlt
    have hf:tfo t nm false=true:=by rw [U3 h4];exact ho
    have hfk:tfk t nm false=k:=by rw [HY h4,hk,Int.toNat_natCast]
    have hxv:(tv t).l[k]? =some (tv t.ch[k]):=by rw [Ko h4];exact YP hx
    obtain ⟨i1,i2⟩:=ih t.ch[k] nx (JW hw hx)
    cases hb:(twi g r t.ch[k] nx).2.2 with
    |false=>
     rw [Ue hf (by rw [hfk];exact hx) hb,WP h4v (by rw [hln];exact hk) hxv (by rw [← i1];exact hb)]
     exact ⟨rfl,fun e=>by cases e⟩
    |true=>
     obtain ⟨i3,i4⟩:=i2 hb
     rw [Fd hf (by rw [hfk];exact hx) hb,Q2f h4v (by rw [hln];exact ho) (by rw [hln];exact hk) hxv (by rw [← i1];exact hb),hfk]
     refine ⟨rfl,fun _=>⟨?_,Q3K hw (Q3F hw i4) (by simp)⟩⟩
     show tv (tup _ _ _ _)=JV.mk _ _ _ _ _ _
     unfold tup
     rw [Fb,if_pos h4,if_pos h4,Q1n,i3,XK,Q2B,Q2D,Q2E,Ko h4,Q2C h4]
   ·rw [Ga (by rw [U3 h4];simpa using ho),WR h4v (by rw [hln];simpa using ho)]
    exact ⟨rfl,fun e=>by cases e⟩
  ·have h4v:¬(tv t).kind=4:=by rw [XK];exact h4
   by_cases h5:t.k=5
   ·have h5v:(tv t).kind=5:=by rw [XK];exact h5
    by_cases ho:J9 t.ks (ba nm)=true
    ·have hf:tfo t nm false=true:=by rw [Vm h5];exact ho
     have hfk:tfk t nm false=YA t.ks (ba nm):=VV h5
     obtain ⟨x,hx⟩:=HX hw hf
     rw [hfk] at hx
     obtain ⟨e1,e2⟩:=Q4Y hw h5 ho hx
     obtain ⟨i1,i2⟩:=ih x nx (JW hw hx)
     cases hb:(twi g r x nx).2.2 with
     |false=>
      rw [Ue hf (by rw [hfk];exact hx) hb,WQ h4v e1 (by rw [← i1];exact hb)]
      exact ⟨rfl,fun e=>by cases e⟩
     |true=>
      obtain ⟨i3,i4⟩:=i2 hb
      rw [Fd hf (by rw [hfk];exact hx) hb,Q2g h4v h5v e2 e1 (by rw [← i1];exact hb),hfk]
      refine ⟨rfl,fun _=>⟨?_,Q3K hw (Q3F hw i4) (by simp)⟩⟩
      show tv (tup _ _ _ _)=JV.mk _ _ _ _ _ _
      unfold tup
      rw [Fb,if_neg h4,if_neg h4,Q1n,i3,XK,Q2B,Q2D,Q2E,Fa h4,Hy,YO hw,U9 h4,Q1t _ _ _ _ _ (K2 ho)]
    ·rw [Ga (by rw [Vm h5];simpa using ho),WS h4v (by rw [Ux,YO hw];simpa using ho)]
     exact ⟨rfl,fun e=>by cases e⟩
   ·rw [Ga (HZ h4 h5),Q2h h4v (by rw [XK];exact h5)]
    exact ⟨rfl,fun e=>by cases e⟩
theorem GO {α:Type} {l:List α} {i:Nat} {x y:α} (h:y∈l.take i++x :: l.drop i):y=x∨y∈l:=by
 rcases List.mem_append.1 h with h|h
 ·exact .inr (List.mem_of_mem_take h)
 ·rcases List.mem_cons.1 h with h|h
  ·exact .inl h
  ·exact .inr (List.mem_of_mem_drop h)
theorem Q0K {α:Type} {l:List α} {i:Nat} {y:α} (h:y∈l.take i++l.drop (i+1)):y∈l:=by
 rcases List.mem_append.1 h with h|h
 ·exact List.mem_of_mem_take h
 ·exact List.mem_of_mem_drop h
theorem Q2K {α β:Type} (a:List α) (b:List β) (i:Nat):(a.zip b).take i=(a.take i).zip (b.take i):=List.take_zipWith
theorem Q2J {α β:Type} (a:List α) (b:List β) (i:Nat):(a.zip b).drop i=(a.drop i).zip (b.drop i):=List.drop_zipWith
theorem Q1s {α β:Type}:∀ (a a':List α) (b b':List β),a.length=b.length→(a++a').zip (b++b')=a.zip b++a'.zip b'
 |[],a',[],b',_=>rfl
 |x :: a,a',y :: b,b',h=>by simp only [List.cons_append,List.zip_cons_cons];rw [Q1s a a' b b' (by simpa using h)]
 |[],_,_ :: _,_,h=>by simp at h
 |_ :: _,_,[],_,h=>by simp at h
theorem Q9H {ks:List ByteArray} {key:ByteArray} {j:Nat} {p:ByteArray} (hj:j < YA ks key) (hp:ks[j]? =some p):blt p key=true:=by
 have h1:(ks.takeWhile fun q=>blt q key)[j]? =some p:=by
  obtain ⟨t,ht⟩:=List.takeWhile_prefix (fun q:ByteArray=>blt q key) (l:=ks)
  rw [← ht,List.getElem?_append_left hj] at hp
  exact hp
 exact List.all_eq_true.1 (List.all_takeWhile (p:=fun q=>blt q key) (l:=ks)) p (List.mem_of_getElem? h1)
theorem Q4b [GLay]:∀ {ks:List ByteArray} {key:ByteArray},(ks.Pairwise fun p q=>blt p q=true)→J9 ks key=false→∀ p∈ks.drop (YA ks key),blt key p=true
 |[],key,_,_,p,hp=>by simp at hp
 |a :: r,key,hs,hf,p,hp=>by
  by_cases hb:blt a key=true
  ·have e:YA (a :: r) key=YA r key+1:=by unfold YA;rw [List.takeWhile_cons,if_pos hb];rfl
   rw [e] at hp
   refine Q4b (List.pairwise_cons.1 hs).2 ?_ p (by simpa using hp)
   unfold J9 at hf ⊢
   rw [e] at hf;simpa using hf
  ·have e:YA (a :: r) key=0:=by unfold YA;rw [List.takeWhile_cons,if_neg hb];rfl
   have hne:¬a=key:=fun h=>by unfold J9 at hf;rw [e] at hf;simp [h] at hf
   have h1:=GE hb hne
   rw [e] at hp
   rcases List.mem_cons.1 (by simpa using hp:p∈a :: r) with rfl|hp
   ·exact h1
   ·exact XQ h1 ((List.pairwise_cons.1 hs).1 p hp)
theorem Q9x [GLay] {ks:List ByteArray} {key:ByteArray} (hs:ks.Pairwise fun p q=>blt p q=true) (hf:J9 ks key=false):(ks.take (YA ks key)++key :: ks.drop (YA ks key)).Pairwise fun p q=>blt p q=true:=by
 have h1:∀ p∈ks.take (YA ks key),blt p key=true:=fun p hp=>by
  obtain ⟨j,hj⟩:=List.getElem?_of_mem hp
  rw [List.getElem?_take] at hj
  split at hj
  ·rename_i hlt;exact Q9H hlt hj
  ·cases hj
 have h2:=Q4b hs hf
 rw [List.pairwise_append]
 refine ⟨hs.sublist (List.take_sublist _ _),List.pairwise_cons.2 ⟨h2,hs.sublist (List.drop_sublist _ _)⟩,fun a ha b hb=>?_⟩
 rcases List.mem_cons.1 hb with rfl|hb
 ·exact h1 a ha
 ·exact XQ (h1 a ha) (h2 b hb)
section
variable [GLay]
theorem Q6d (nm:BL) {x:JT} (hx:TW x):Q6t (YB nm x) (Vf nm (tv x)):=fun t nx hw=>by
 have hlk:=((Vq t).1 hw).2.2.2.2
 by_cases h4:t.k=4
 ·have h4v:(tv t).kind=4:=by rw [XK];exact h4
  have hln:(tv t).l.length=t.ch.length:=by rw [Ko h4,Xz]
  unfold YB
  rw [if_pos h4]
  by_cases ho:Zr nm t.ch.length true=true
  ·obtain ⟨k,hk,hkl⟩:=WG ho
   rw [if_pos ho,Q0U h4v (by rw [hln];exact ho) (by rw [hln];exact hk),hk,Int.toNat_natCast]
   refine ⟨rfl,fun _=>⟨?_,?_⟩⟩
   ·show tv (tup _ _ _ _)=JV.mk _ _ _ _ _ _
    unfold tup
    rw [Fb,if_pos h4,if_pos h4,Ua,tvs,Vp,Ub,XK,Q2B,Q2D,Q2E,Ko h4,Q2C h4]
   ·exact .mk _ _ _ _ _ _ _ (Uc hw) (fun h5=>absurd h5 (by omega)) (fun h _=>absurd h4 h) (We hw) (fun y hy=>(GO hy).elim (fun e=>e ▸ hx) (hlk y))
  ·rw [if_neg ho,GS h4v (by rw [hln];simpa using ho)];exact ⟨rfl,fun e=>by cases e⟩
 ·have h4v:¬(tv t).kind=4:=by rw [XK];exact h4
  by_cases h5:t.k=5
  ·have h5v:(tv t).kind=5:=by rw [XK];exact h5
   unfold YB
   rw [if_neg h4,if_pos h5,Q0V h5v]
   unfold Ve
   rw [Ux,Hy,YO hw]
   by_cases ho:J9 t.ks (ba nm)=true
   ·rw [if_pos ho,if_pos ho]
    refine ⟨rfl,fun _=>⟨?_,Q3K hw (Q3F hw hx) (by simp)⟩⟩
    show tv (tup _ _ _ _)=JV.mk _ _ _ _ _ _
    unfold tup
    rw [Fb,if_neg h4,if_neg h4,Q1n,XK,Q2B,Q2D,Q2E,Fa h4,U9 h4,Q1t _ _ _ _ _ (K2 ho)]
   ·rw [if_neg ho,if_neg ho]
    have hkl:=Vr hw h5
    have hpl:=Q4c t.ks (ba nm)
    refine ⟨rfl,fun _=>⟨?_,?_⟩⟩
    ·show tv (tup _ _ _ _)=JV.mk _ _ _ _ _ _
     unfold tup
     rw [Fb,if_neg h4,if_neg h4,Ua,tvs,Vp,Ub,XK,Q2B,Q2D,Q2E,Fa h4,U9 h4,Q1s _ _ _ _ (by rw [List.length_take,List.length_take,Xz];omega),List.zip_cons_cons,Q2K,Q2J]
    ·refine .mk _ _ _ _ _ _ _ (fun h=>absurd h5 h) (fun _=>?_) (fun _ h=>absurd h5 h) (Q9x (We hw) (by simpa using ho)) (fun y hy=>(GO hy).elim (fun e=>e ▸ hx) (hlk y))
     simp;omega
  ·unfold YB
   rw [if_neg h4,if_neg h5,Q0W h4v (by rw [XK];exact h5)];exact ⟨rfl,fun e=>by cases e⟩
theorem Q6g (nm:BL):Q6t (XJ nm) (KE nm):=fun t nx hw=>by
 have hlk:=((Vq t).1 hw).2.2.2.2
 by_cases h4:t.k=4
 ·have h4v:(tv t).kind=4:=by rw [XK];exact h4
  have hln:(tv t).l.length=t.ch.length:=by rw [Ko h4,Xz]
  unfold XJ
  rw [U3 h4,HY h4,if_neg (show ¬t.k=5 by omega)]
  by_cases ho:Zr nm t.ch.length false=true
  ·obtain ⟨k,hk,hkl⟩:=Xw ho
   rw [if_pos ho,Q11 h4v (by rw [hln];exact ho) (by rw [hln];exact hk),hk,Int.toNat_natCast]
   refine ⟨rfl,fun _=>⟨?_,?_⟩⟩
   ·show tv (tup _ _ _ _)=JV.mk _ _ _ _ _ _
    unfold tup
    rw [Fb,if_pos h4,if_pos h4,Ua,Vp,Ub,XK,Q2B,Q2D,Q2E,Ko h4,Q2C h4]
   ·exact .mk _ _ _ _ _ _ _ (Uc hw) (fun h5=>absurd h5 (by omega)) (fun h _=>absurd h4 h) (We hw) (fun y hy=>hlk y (Q0K hy))
  ·rw [if_neg ho,GU h4v (by rw [hln];simpa using ho)];exact ⟨rfl,fun e=>by cases e⟩
 ·have h4v:¬(tv t).kind=4:=by rw [XK];exact h4
  by_cases h5:t.k=5
  ·have h5v:(tv t).kind=5:=by rw [XK];exact h5
   unfold XJ
   rw [Vm h5,VV h5,if_pos h5]
   by_cases ho:J9 t.ks (ba nm)=true
   ·have hkl:=Vr hw h5
    have hpl:=(List.getElem?_eq_some_iff.1 (K2 ho)).1
    rw [if_pos ho,Q12 h5v (by rw [Ux,YO hw];exact ho),Hy,YO hw]
    refine ⟨rfl,fun _=>⟨?_,?_⟩⟩
    ·show tv (tup _ _ _ _)=JV.mk _ _ _ _ _ _
     unfold tup
     rw [Fb,if_neg h4,if_neg h4,Ua,Vp,Ub,XK,Q2B,Q2D,Q2E,Fa h4,U9 h4,Q1s _ _ _ _ (by rw [List.length_take,List.length_take,Xz];omega),Q2K,Q2J]
    ·refine .mk _ _ _ _ _ _ _ (fun h=>absurd h5 h) (fun _=>?_) (fun _ h=>absurd h5 h) ((We hw).sublist ?_) (fun y hy=>hlk y (Q0K hy))
     ·simp;omega
     ·rw [← List.eraseIdx_eq_take_drop_succ];exact List.eraseIdx_sublist _ _
   ·rw [if_neg ho,WO h5v (by rw [Ux,YO hw];simpa using ho)];exact ⟨rfl,fun e=>by cases e⟩
  ·unfold XJ
   rw [HZ h4 h5,if_neg (by decide),Q13 h4v (by rw [XK];exact h5)];exact ⟨rfl,fun e=>by cases e⟩
theorem Q6i {v:JV} (hv:jst v):Q6t (fun _ n=>(tj v n,n+Q6 v,true)) (fun _=>(v,true)):=fun t nx hw=>⟨rfl,fun _=>⟨Q0b v nx hv,Q2w v nx hv⟩⟩
end
end Lg
namespace Lg
open Go
def tE (r:TR):JT×Int×Int:=(r.1,r.2.1,eC r.2.2)
def tmv (t:JT) (o:JOp) (nx:Int):JT×Int×Int:=
 if o.fr.length < o.pa.length∧o.pa.take o.fr.length=o.fr then (t,nx,9) else
 match Xi o.fr t with
 |none=>(t,nx,6)
 |some x=>if o.pa=o.fr then (t,nx,0) else if (Z8 o.fr t nx).2.2 ≠ 0 then Z8 o.fr t nx else tE (ZR o.pa x (Z8 o.fr t nx).1 (Z8 o.fr t nx).2.1)
noncomputable def tdo (t:JT) (o:JOp) (nx:Int):JT×Int×Int:=open Classical in
 if o.op=1 then tE (ZR o.pa (tj o.v nx) t (nx+Q6 o.v)) else
 if o.op=2 then Z8 o.pa t nx else
 if o.op=3 then tE (Kn o.pa o.v t nx) else
 if o.op=4 then tmv t o nx else
 match Xi (if o.op=6 then o.pa else o.fr) t with
 |none=>(t,nx,6)
 |some x=>if o.op=5 then tE (ZR o.pa x t nx) else if tv x=o.v then (t,nx,0) else (t,nx,8)
theorem Kw {l:List BL} (h:¬l=[]):l=l.dropLast++[l.getLastD []]:=by
 rcases List.eq_nil_or_concat l with rfl|⟨l0,nm,rfl⟩
 ·exact absurd rfl h
 ·rw [List.concat_eq_append,List.dropLast_concat,List.getLastD_concat]
section
variable [GLay]
theorem UY (l:List BL) {x t:JT} (nx:Int) (hx:TW x) (hw:TW t):eC (ZR l x t nx).2.2=(jed 1 (tv x) l (tv t)).2∧(eC (ZR l x t nx).2.2=0→tv (ZR l x t nx).1=(jed 1 (tv x) l (tv t)).1∧TW (ZR l x t nx).1):=by
 unfold ZR
 by_cases h:l=[]
 ·subst h;rw [if_pos rfl,Vx (by decide)];exact ⟨rfl,fun _=>⟨rfl,hx⟩⟩
 ·rw [if_neg h]
  have h1:=GG (tv x) l.dropLast (l.getLastD []) (tv t) (Jx t hw)
  rw [← Kw h] at h1
  obtain ⟨h2,h3⟩:=H1 (Q6d (l.getLastD []) hx) l.dropLast t nx hw
  rw [h1,←h2]
  refine ⟨rfl,fun e=>?_⟩
  have hb:(twi (YB (l.getLastD []) x) l.dropLast t nx).2.2=true:=by
   cases hq:(twi (YB (l.getLastD []) x) l.dropLast t nx).2.2 with
   |true=>rfl
   |false=>rw [hq] at e;exact absurd e (show ¬eC false=0 by decide)
  exact h3 hb
theorem G7 (l:List BL) {t:JT} (nx:Int) (hw:TW t):(Z8 l t nx).2.2=(jed 2 vz l (tv t)).2∧((Z8 l t nx).2.2=0→tv (Z8 l t nx).1=(jed 2 vz l (tv t)).1∧TW (Z8 l t nx).1):=by
 unfold Z8
 by_cases h:l=[]
 ·subst h;rw [if_pos rfl,V5];exact ⟨rfl,fun e=>absurd e (show ¬(7:Int)=0 by decide)⟩
 ·rw [if_neg h]
  have h1:=Vy vz l.dropLast (l.getLastD []) (tv t) (Jx t hw)
  rw [← Kw h] at h1
  obtain ⟨h2,h3⟩:=H1 (Q6g (l.getLastD [])) l.dropLast t nx hw
  rw [h1,←h2]
  refine ⟨rfl,fun e=>?_⟩
  have hb:(twi (XJ (l.getLastD [])) l.dropLast t nx).2.2=true:=by
   cases hq:(twi (XJ (l.getLastD [])) l.dropLast t nx).2.2 with
   |true=>rfl
   |false=>rw [hq] at e;exact absurd e (show ¬eC false=0 by decide)
  exact h3 hb
theorem Q6h (l:List BL) {t:JT} (nx:Int) {v:JV} (hv:jst v) (hw:TW t):eC (Kn l v t nx).2.2=(jed 3 v l (tv t)).2∧(eC (Kn l v t nx).2.2=0→tv (Kn l v t nx).1=(jed 3 v l (tv t)).1∧TW (Kn l v t nx).1):=by
 have h1:=GH v l (tv t) (Jx t hw)
 obtain ⟨h2,h3⟩:=H1 (Q6i hv) l t nx hw
 unfold Kn
 rw [h1,←h2]
 refine ⟨rfl,fun e=>?_⟩
 have hb:(twi (fun _ n=>(tj v n,n+Q6 v,true)) l t nx).2.2=true:=by
  cases hq:(twi (fun _ n=>(tj v n,n+Q6 v,true)) l t nx).2.2 with
  |true=>rfl
  |false=>rw [hq] at e;exact absurd e (show ¬eC false=0 by decide)
 exact h3 hb
theorem QaS (o:JOp) {t:JT} (nx:Int) (hw:TW t):(tmv t o nx).2.2=(pmv (tv t) o).2∧((tmv t o nx).2.2=0→tv (tmv t o nx).1=(pmv (tv t) o).1∧TW (tmv t o nx).1):=by
 unfold tmv
 by_cases ha:o.fr.length < o.pa.length∧o.pa.take o.fr.length=o.fr
 ·rw [if_pos ha,Q8a ha];exact ⟨rfl,fun e=>absurd e (show ¬(9:Int)=0 by decide)⟩
 ·rw [if_neg ha]
  have hg:=Km o.fr hw
  cases e:Xi o.fr t with
  |none=>
   rw [e] at hg;simp only at hg ⊢
   rw [Q8b ha (by rw [hg])];exact ⟨rfl,fun e=>absurd e (show ¬(6:Int)=0 by decide)⟩
  |some x=>
   rw [e] at hg;simp only at hg ⊢
   obtain ⟨hg1,hx⟩:=hg
   have hg0:¬(Qz o.fr (tv t)).2=false:=by rw [hg1];simp
   by_cases hp:o.pa=o.fr
   ·rw [if_pos hp,Q8d ha hg0 hp];exact ⟨rfl,fun _=>⟨rfl,hw⟩⟩
   ·rw [if_neg hp]
    obtain ⟨r1,r2⟩:=G7 o.fr nx hw
    by_cases hr:(Z8 o.fr t nx).2.2=0
    ·obtain ⟨r3,r4⟩:=r2 hr
     rw [if_neg (fun z=>z hr),QcK ha hg0 hp (by rw [← r1];exact hr),hg1,←r3]
     exact UY o.pa (Z8 o.fr t nx).2.1 hx r4
    ·rw [if_pos hr,Q8c ha hg0 hp (by rw [← r1];exact hr)]
     exact ⟨r1,fun e=>absurd e hr⟩
theorem Q4S {o:JOp} (hob:OPB o) {t:JT} (nx:Int) (hw:TW t):(tdo t o nx).2.2=(pdo (tv t) o).2∧((tdo t o nx).2.2=0→tv (tdo t o nx).1=(pdo (tv t) o).1∧TW (tdo t o nx).1):=by
 have hlo:=hob.lo
 have hhi:=hob.hi
 unfold tdo
 by_cases h1:o.op=1
 ·rw [if_pos h1,QdN h1]
  have:=UY o.pa (nx+Q6 o.v) (Q2w o.v nx hob.st) hw
  rw [Q0b o.v nx hob.st] at this;exact this
 by_cases h2:o.op=2
 ·rw [if_neg h1,if_pos h2,QdO h2]
  have:=G7 o.pa nx hw
  have e:jed 2 o.v o.pa (tv t)=jed 2 vz o.pa (tv t):=by
   rcases List.eq_nil_or_concat o.pa with h|⟨l0,nm,h⟩
   ·rw [h];rfl
   ·rw [h,List.concat_eq_append,Vy _ _ _ _ (Jx t hw),Vy _ _ _ _ (Jx t hw)]
  rw [e];exact this
 by_cases h3:o.op=3
 ·rw [if_neg h1,if_neg h2,if_pos h3,QdP h3];exact Q6h o.pa nx hob.st hw
 by_cases h4:o.op=4
 ·rw [if_neg h1,if_neg h2,if_neg h3,if_pos h4,QdQ h4];exact QaS o nx hw
 rw [if_neg h1,if_neg h2,if_neg h3,if_neg h4]
 have hg:=Km (if o.op=6 then o.pa else o.fr) hw
 by_cases h6:o.op=6
 ·rw [if_pos h6] at hg ⊢
  rw [QdS h6]
  cases e:Xi o.pa t with
  |none=>
   rw [e] at hg;simp only at hg ⊢
   rw [QdV (by rw [hg])];exact ⟨rfl,fun e=>absurd e (show ¬(6:Int)=0 by decide)⟩
  |some x=>
   rw [e] at hg;simp only at hg ⊢
   rw [if_neg (show ¬o.op=5 by omega)]
   by_cases hs:tv x=o.v
   ·rw [if_pos hs,QdU (by rw [hg.1];simp) (by rw [hg.1];exact hs)];exact ⟨rfl,fun _=>⟨rfl,hw⟩⟩
   ·rw [if_neg hs,QdW (by rw [hg.1];simp) (by rw [hg.1];exact hs)];exact ⟨rfl,fun e=>absurd e (show ¬(8:Int)=0 by decide)⟩
 ·have h5:o.op=5:=by omega
  rw [if_neg h6] at hg ⊢
  cases e:Xi o.fr t with
  |none=>
   rw [e] at hg;simp only at hg ⊢
   rw [QcI h5 (by rw [hg])];exact ⟨rfl,fun e=>absurd e (show ¬(6:Int)=0 by decide)⟩
  |some x=>
   rw [e] at hg;simp only at hg ⊢
   rw [if_pos h5,QdR h5 (by rw [hg.1];simp),hg.1]
   exact UY o.pa nx hg.2 hw
end
def Cb (g:JT→Int→TR) (c:Int):Prop:=∀ t nx,nx≤(g t nx).2.1∧(g t nx).2.1≤nx+c
theorem G9 {g:JT→Int→TR} {c:Int} (hc:0≤c) (hg:Cb g c):∀ l:List BL,Cb (twi g l) (c+l.length)
 |[]=>fun t nx=>by have:=hg t nx;rw [twi];simpa using this
 |nm :: r=>fun t nx=>by
  rw [List.length_cons]
  by_cases h:tfo t nm false=true
  ·cases hx:t.ch[tfk t nm false]? with
   |none=>rw [twi,if_pos h,hx];simp only;omega
   |some x=>
    have:=G9 hc hg r x nx
    cases hb:(twi g r x nx).2.2 with
    |false=>rw [Ue h hx hb];simp only;omega
    |true=>rw [Fd h hx hb];simp only;omega
  ·rw [Ga (by simpa using h)];simp only;omega
theorem Q1i (nm:BL) (x:JT):Cb (YB nm x) 1:=fun t nx=>by
 unfold YB
 split
 ·split<;>(simp only;omega)
 ·split
  ·split<;>(simp only;omega)
  ·simp only;omega
theorem Q1m (nm:BL):Cb (XJ nm) 1:=fun t nx=>by unfold XJ;split<;>(simp only;omega)
theorem HU (l:List BL) (x:JT):Cb (ZR l x) l.length:=fun t nx=>by
 unfold ZR
 by_cases h:l=[]
 ·rw [if_pos h];simp only;omega
 ·rw [if_neg h]
  have h1:=G9 (by decide) (Q1i (l.getLastD []) x) l.dropLast t nx
  have h2:l.dropLast.length+1=l.length:=by have:=congrArg List.length (Kw h);simpa using this.symm
  omega
theorem U7 (l:List BL) (t:JT) (nx:Int):nx≤(Z8 l t nx).2.1∧(Z8 l t nx).2.1≤nx+l.length:=by
 unfold Z8
 by_cases h:l=[]
 ·rw [if_pos h];simp only;omega
 ·rw [if_neg h]
  have h1:=G9 (by decide) (Q1m (l.getLastD [])) l.dropLast t nx
  have h2:l.dropLast.length+1=l.length:=by have:=congrArg List.length (Kw h);simpa using this.symm
  simp only;omega
theorem Q90 (l:List BL) (v:JV):Cb (Kn l v) (Q6 v+l.length):=by
 have:=Qi v
 exact G9 (by omega) (fun t nx=>by simp only;omega) l
def Jy (o:JOp):Int:=(o.pa.length:Int)+1+(if o.op=4 then (o.fr.length:Int)+1 else 0)+Q6 o.v
theorem GQ (o:JOp):0≤Jy o:=by unfold Jy;have:=Qi o.v;split<;>omega
theorem Q8S (t:JT) (o:JOp) (nx:Int):nx≤(tdo t o nx).2.1∧(tdo t o nx).2.1≤nx+Jy o:=by
 have hv:=Qi o.v
 have hm:=GQ o
 have hm1:(o.pa.length:Int)+Q6 o.v≤Jy o:=by unfold Jy;split<;>omega
 unfold tdo
 split
 ·have:=HU o.pa (tj o.v nx) t (nx+Q6 o.v);simp only [tE];omega
 split
 ·have:=U7 o.pa t nx;omega
 split
 ·have:=Q90 o.pa o.v t nx;simp only [tE];omega
 split
 ·rename_i h4
  have hm2:(o.pa.length:Int)+o.fr.length≤Jy o:=by unfold Jy;rw [if_pos h4];omega
  unfold tmv
  split
  ·simp only;omega
  ·split
   ·simp only;omega
   ·split
    ·simp only;omega
    ·have h1:=U7 o.fr t nx
     split
     ·omega
     ·rename_i x _ _ _
      have:=HU o.pa x (Z8 o.fr t nx).1 (Z8 o.fr t nx).2.1;simp only [tE];omega
 ·split
  ·simp only;omega
  ·split
   ·rename_i x _ _
    have:=HU o.pa x t nx;simp only [tE];omega
   ·split<;>(simp only;omega)
inductive Con (G:Int→JV) (N:Int):JT→Prop where
 |mk (id k:Int) (b:Bool) (n:JNum) (s:ByteArray) (ks:List ByteArray) (ch:List JT) (h0:0≤id) (h1:id < N) (hG:G id=tv (.mk id k b n s ks ch)) (hc:∀ x∈ch,Con G N x):Con G N (.mk id k b n s ks ch)
theorem KY {G:Int→JV} {N:Int} (t:JT):Con G N t↔0≤t.id∧t.id < N∧G t.id=tv t∧∀ x∈t.ch,Con G N x:=by
 constructor
 ·intro h
  cases h with
  |mk id k b n s ks ch h0 h1 hG hc=>exact ⟨h0,h1,hG,hc⟩
 ·intro h
  cases t with
  |mk id k b n s ks ch=>exact .mk id k b n s ks ch h.1 h.2.1 h.2.2.1 h.2.2.2
def Ag (G:Int→JV) (N:Int) (G':Int→JV):Prop:=∀ i,i < N→G' i=G i
theorem Ag.rfl' {G:Int→JV} {N:Int}:Ag G N G:=fun _ _=>rfl
theorem Ag.tr {G G1 G2:Int→JV} {N N1:Int} (h:Ag G N G1) (h1:Ag G1 N1 G2) (hN:N≤N1):Ag G N G2:=fun i hi=>(h1 i (by omega)).trans (h i hi)
mutual
theorem YS {G G':Int→JV} {N N':Int} (hN:N≤N') (hG:Ag G N G'):∀ t:JT,Con G N t→Con G' N' t
 | .mk id k b n s ks ch,h=>by
  obtain ⟨h0,h1,h2,h3⟩:=(KY _).1 h
  exact .mk _ _ _ _ _ _ _ h0 (Int.lt_of_lt_of_le h1 hN) ((hG id h1).trans h2) (fun x hx=>FH hN hG ch h3 x hx)
theorem FH {G G':Int→JV} {N N':Int} (hN:N≤N') (hG:Ag G N G'):∀ l:List JT,(∀ x∈l,Con G N x)→∀ x∈l,Con G' N' x
 |[],_,x,hx=>by cases hx
 |y :: r,h,x,hx=>by
  rcases List.mem_cons.1 hx with e|hx
  ·rw [e];exact YS hN hG y (h y (List.mem_cons_self ..))
  ·exact FH hN hG r (fun z hz=>h z (List.mem_cons_of_mem _ hz)) x hx
end
theorem Hb {G:Int→JV} {N:Int} (t:JT) (hN:0≤N) (ks:List ByteArray) (ch:List JT) (hc:∀ x∈ch,Con G N x):∃ G',Ag G N G'∧Con G' (N+1) (tup t N ks ch):=by
 have ha:Ag G N (fun i=>if i=N then tv (tup t N ks ch) else G i):=fun i hi=>by show (if i=N then _ else _)=_;rw [if_neg (by omega)]
 refine ⟨_,ha,?_⟩
 unfold tup
 refine .mk _ _ _ _ _ _ _ hN (by omega) (by show (if N=N then _ else _)=_;rw [if_pos rfl]) (fun x hx=>YS (by omega) ha x (hc x hx))
mutual
theorem Ha:∀ (v:JV) (id:Int) (G:Int→JV),0≤id→∃ G',Ag G id G'∧Con G' (id+Q6 v) (tj v id)
 | .mk k b n s l m,id,G,h=>by
  have hl:=Ze l
  have hm:=Zh m
  obtain ⟨G1,a1,c1⟩:=Q3U l (id+1) (fun i=>if i=id then tv (tj (.mk k b n s l m) id) else G i) (by omega)
  obtain ⟨G2,a2,c2⟩:=Q3V m (id+1+Qm l) G1 (by omega)
  refine ⟨G2,fun i hi=>?_,?_⟩
  ·rw [a2 i (by omega),a1 i (by omega)];exact if_neg (by omega)
  ·have e:G2 id=tv (tj (.mk k b n s l m) id):=by rw [a2 id (by omega),a1 id (by omega)];exact if_pos rfl
   rw [tj] at e ⊢
   rw [Q6]
   refine .mk _ _ _ _ _ _ _ h (by omega) e (fun x hx=>?_)
   rcases List.mem_append.1 hx with hx|hx
   ·exact YS (by omega) a2 x (c1 x hx)
   ·have:=c2 x hx
    rw [show id+1+Qm l+Qw m=id+(1+Qm l+Qw m) by omega] at this;exact this
theorem Q3U:∀ (l:List JV) (id:Int) (G:Int→JV),0≤id→∃ G',Ag G id G'∧∀ x∈tjl l id,Con G' (id+Qm l) x
 |[],id,G,_=>⟨G,Ag.rfl',fun x hx=>by cases hx⟩
 |y :: r,id,G,h=>by
  have hy:=Qi y
  have hr:=Ze r
  obtain ⟨G1,a1,c1⟩:=Ha y id G h
  obtain ⟨G2,a2,c2⟩:=Q3U r (id+Q6 y) G1 (by omega)
  refine ⟨G2,a1.tr a2 (by omega),fun x hx=>?_⟩
  rw [tjl] at hx
  rw [Qm]
  rcases List.mem_cons.1 hx with rfl|hx
  ·exact YS (by omega) a2 _ c1
  ·have:=c2 x hx
   rw [show id+Q6 y+Qm r=id+(Q6 y+Qm r) by omega] at this;exact this
theorem Q3V:∀ (l:List (ByteArray×JV)) (id:Int) (G:Int→JV),0≤id→∃ G',Ag G id G'∧∀ x∈tjm l id,Con G' (id+Qw l) x
 |[],id,G,_=>⟨G,Ag.rfl',fun x hx=>by cases hx⟩
 |(a,y) :: r,id,G,h=>by
  have hy:=Qi y
  have hr:=Zh r
  obtain ⟨G1,a1,c1⟩:=Ha y id G h
  obtain ⟨G2,a2,c2⟩:=Q3V r (id+Q6 y) G1 (by omega)
  refine ⟨G2,a1.tr a2 (by omega),fun x hx=>?_⟩
  rw [tjm] at hx
  rw [Qw]
  rcases List.mem_cons.1 hx with rfl|hx
  ·exact YS (by omega) a2 _ c1
  ·have:=c2 x hx
   rw [show id+Q6 y+Qw r=id+(Q6 y+Qw r) by omega] at this;exact this
end
section
variable {G:Int→JV} {N:Int}
theorem Q0n {t x:JT} {i:Nat} (h:Con G N t) (hx:t.ch[i]? =some x):Con G N x:=((KY t).1 h).2.2.2 x (List.mem_of_getElem? hx)
theorem Q0m:∀ (l:List BL) {t x:JT},Con G N t→Xi l t=some x→Con G N x
 |[],t,x,h,e=>by rw [Xi] at e;cases e;exact h
 |nm :: r,t,x,h,e=>by
  rw [Xi] at e
  split at e
  ·rename_i y hy
   split at hy
   ·exact Q0m r (Q0n h hy) e
   ·cases hy
  ·cases e
def Mk (g:JT→Int→TR) (G:Int→JV) (N:Int):Prop:=∀ t,Con G N t→(g t N).2.2=true→∃ G',Ag G N G'∧Con G' (g t N).2.1 (g t N).1
theorem Q1o {g:JT→Int→TR} {c:Int} (hc:0≤c) (hcb:Cb g c) (h0:0≤N) (hg:Mk g G N):∀ l:List BL,Mk (twi g l) G N
 |[]=>hg
 |nm :: r=>fun t ht hk=>by
  by_cases h:tfo t nm false=true
  ·cases hx:t.ch[tfk t nm false]? with
   |none=>rw [twi,if_pos h,hx] at hk;cases hk
   |some x=>
    cases hb:(twi g r x N).2.2 with
    |false=>rw [Ue h hx hb] at hk;cases hk
    |true=>
     rw [Fd h hx hb]
     obtain ⟨G1,a1,c1⟩:=Q1o hc hcb h0 hg r x (Q0n ht hx) hb
     have hn:=(G9 hc hcb r x N).1
     obtain ⟨G2,a2,c2⟩:=Hb (G:=G1) t (N:=(twi g r x N).2.1) (by omega) t.ks (t.ch.set (tfk t nm false) (twi g r x N).1) (fun y hy=>by
      rcases List.mem_or_eq_of_mem_set hy with hy|rfl
      ·exact YS hn a1 y (((KY t).1 ht).2.2.2 y hy)
      ·exact c1)
     exact ⟨G2,a1.tr a2 hn,c2⟩
  ·rw [Ga (by simpa using h)] at hk;cases hk
theorem QaL (nm:BL) {x:JT} (h0:0≤N) (hx:Con G N x):Mk (YB nm x) G N:=fun t ht hk=>by
 have hks:=((KY t).1 ht).2.2.2
 unfold YB at hk ⊢
 by_cases h4:t.k=4
 ·rw [if_pos h4] at hk ⊢
  by_cases ho:Zr nm t.ch.length true=true
  ·rw [if_pos ho]
   exact Hb t h0 _ _ (fun y hy=>(GO hy).elim (fun e=>e ▸ hx) (hks y))
  ·rw [if_neg ho] at hk;cases hk
 ·rw [if_neg h4] at hk ⊢
  by_cases h5:t.k=5
  ·rw [if_pos h5]
   by_cases hf:J9 t.ks (ba nm)=true
   ·rw [if_pos hf]
    exact Hb t h0 _ _ (fun y hy=>by
     rcases List.mem_or_eq_of_mem_set hy with hy|rfl
     ·exact hks y hy
     ·exact hx)
   ·rw [if_neg hf]
    exact Hb t h0 _ _ (fun y hy=>(GO hy).elim (fun e=>e ▸ hx) (hks y))
  ·rw [if_neg h5] at hk;cases hk
theorem QaW (nm:BL) (h0:0≤N):Mk (XJ nm) G N:=fun t ht hk=>by
 have hks:=((KY t).1 ht).2.2.2
 unfold XJ at hk ⊢
 by_cases h:tfo t nm false=true
 ·rw [if_pos h];exact Hb t h0 _ _ (fun y hy=>hks y (Q0K hy))
 ·rw [if_neg h] at hk;cases hk
theorem HV (l:List BL) {x:JT} (h0:0≤N) (hx:Con G N x):Mk (ZR l x) G N:=fun t ht hk=>by
 unfold ZR at hk ⊢
 by_cases h:l=[]
 ·rw [if_pos h];exact ⟨G,Ag.rfl',hx⟩
 ·rw [if_neg h] at hk ⊢
  exact Q1o (by decide) (Q1i _ x) h0 (QaL _ h0 hx) _ t ht hk
theorem Q2y (l:List BL) {t:JT} (h0:0≤N) (ht:Con G N t) (hk:(Z8 l t N).2.2=0):∃ G',Ag G N G'∧Con G' (Z8 l t N).2.1 (Z8 l t N).1:=by
 unfold Z8 at hk ⊢
 by_cases h:l=[]
 ·rw [if_pos h] at hk;exact absurd hk (show ¬(7:Int)=0 by decide)
 ·rw [if_neg h] at hk ⊢
  refine Q1o (by decide) (Q1m _) h0 (QaW _ h0) _ t ht ?_
  cases hq:(twi (XJ (l.getLastD [])) l.dropLast t N).2.2 with
  |true=>rfl
  |false=>rw [hq] at hk;exact absurd hk (show ¬eC false=0 by decide)
theorem Q6X {b:Bool} (h:eC b=0):b=true:=by cases b;exact absurd h (by decide);rfl
theorem Qd3 (o:JOp) {t:JT} (h0:0≤N) (ht:Con G N t) (hk:(tdo t o N).2.2=0):∃ G',Ag G N G'∧Con G' (tdo t o N).2.1 (tdo t o N).1:=by
 have hv:=Qi o.v
 unfold tdo at hk ⊢
 by_cases h1:o.op=1
 ·rw [if_pos h1] at hk ⊢
  obtain ⟨G1,a1,c1⟩:=Ha o.v N G h0
  obtain ⟨G2,a2,c2⟩:=HV o.pa (by omega) c1 t (YS (by omega) a1 t ht) (Q6X hk)
  exact ⟨G2,a1.tr a2 (by omega),c2⟩
 rw [if_neg h1] at hk ⊢
 by_cases h2:o.op=2
 ·rw [if_pos h2] at hk ⊢;exact Q2y o.pa h0 ht hk
 rw [if_neg h2] at hk ⊢
 by_cases h3:o.op=3
 ·rw [if_pos h3] at hk ⊢
  exact Q1o (g:=fun _ n=>(tj o.v n,n+Q6 o.v,true)) (c:=Q6 o.v) (by omega) (fun t nx=>by simp only;omega) h0 (fun t _ _=>Ha o.v N G h0) o.pa t ht (Q6X hk)
 rw [if_neg h3] at hk ⊢
 by_cases h4:o.op=4
 ·rw [if_pos h4] at hk ⊢
  unfold tmv at hk ⊢
  by_cases ha:o.fr.length < o.pa.length∧o.pa.take o.fr.length=o.fr
  ·rw [if_pos ha] at hk;exact absurd hk (show ¬(9:Int)=0 by decide)
  ·rw [if_neg ha] at hk ⊢
   cases e:Xi o.fr t with
   |none=>rw [e] at hk;exact absurd hk (show ¬(6:Int)=0 by decide)
   |some x=>
    rw [e] at hk;simp only at hk ⊢
    by_cases hp:o.pa=o.fr
    ·rw [if_pos hp];exact ⟨G,Ag.rfl',ht⟩
    ·rw [if_neg hp] at hk ⊢
     by_cases hr:(Z8 o.fr t N).2.2=0
     ·rw [if_neg (fun z=>z hr)] at hk ⊢
      obtain ⟨G1,a1,c1⟩:=Q2y o.fr h0 ht hr
      have hn:=(U7 o.fr t N).1
      obtain ⟨G2,a2,c2⟩:=HV o.pa (N:=(Z8 o.fr t N).2.1) (by omega) (YS hn a1 x (Q0m o.fr ht e)) _ c1 (Q6X hk)
      exact ⟨G2,a1.tr a2 hn,c2⟩
     ·rw [if_pos hr] at hk;exact absurd hk hr
 rw [if_neg h4] at hk ⊢
 cases e:Xi (if o.op=6 then o.pa else o.fr) t with
 |none=>rw [e] at hk;exact absurd hk (show ¬(6:Int)=0 by decide)
 |some x=>
  rw [e] at hk;simp only at hk ⊢
  by_cases h5:o.op=5
  ·rw [if_pos h5] at hk ⊢
   exact HV o.pa h0 (Q0m _ ht e) t ht (Q6X hk)
  ·rw [if_neg h5] at hk ⊢
   split
   ·exact ⟨G,Ag.rfl',ht⟩
   ·rename_i hs;rw [if_neg hs] at hk;exact absurd hk (show ¬(8:Int)=0 by decide)
end
noncomputable def tap:List JOp→JT→Int→Nat→JT×Int×Int×Int
 |[],t,nx,_=>(t,nx,0,0)
 |o :: r,t,nx,i=>if Xm (tv (tdo t o nx).1,(tdo t o nx).2.2) ≠ 0 then (t,nx,Xm (tv (tdo t o nx).1,(tdo t o nx).2.2),(i:Int)) else tap r (tdo t o nx).1 (tdo t o nx).2.1 (i+1)
theorem Q3I {o:JOp} {r:List JOp} {t:JT} {nx:Int} {i:Nat} (h:Xm (tv (tdo t o nx).1,(tdo t o nx).2.2)=0):tap (o :: r) t nx i=tap r (tdo t o nx).1 (tdo t o nx).2.1 (i+1):=by rw [tap,if_neg (by simp [h])]
theorem Q1j {o:JOp} {r:List JOp} {t:JT} {nx:Int} {i:Nat} (h:¬Xm (tv (tdo t o nx).1,(tdo t o nx).2.2)=0):tap (o :: r) t nx i=(t,nx,Xm (tv (tdo t o nx).1,(tdo t o nx).2.2),(i:Int)):=by rw [tap,if_pos h]
def Xf:List JOp→Int
 |[]=>0
 |o :: r=>Jy o+Xf r
theorem Vd:∀ l,0≤Xf l
 |[]=>Int.le_refl _
 |o :: r=>by have:=GQ o;have:=Vd r;rw [Xf];omega
section
variable [GLay]
theorem Q1l {o:JOp} (hob:OPB o) {t:JT} (nx:Int) (hw:TW t):Xm (tv (tdo t o nx).1,(tdo t o nx).2.2)=Xm (jdo (tv t) o)∧(Xm (jdo (tv t) o)=0→tv (tdo t o nx).1=(jdo (tv t) o).1∧TW (tdo t o nx).1∧(tdo t o nx).2.2=0):=by
 obtain ⟨h1,h2⟩:=Q4S hob nx hw
 have h3:=GT (v:=tv t) hob
 by_cases h0:(tdo t o nx).2.2=0
 ·obtain ⟨h4,h5⟩:=h2 h0
  have e:(tv (tdo t o nx).1,(tdo t o nx).2.2)=pdo (tv t) o:=by rw [h4,h1]
  rw [e]
  refine ⟨h3.1,fun hc=>⟨?_,h5,h0⟩⟩
  rw [h4,h3.2 hc]
 ·have hp:¬(pdo (tv t) o).2=0:=by rw [← h1];exact h0
  rw [Q0A (show ¬(tv (tdo t o nx).1,(tdo t o nx).2.2).2=0 from h0),←h3.1,Q0A hp]
  exact ⟨h1,fun hc=>absurd hc hp⟩
theorem Q1k:∀ (l:List JOp) {t:JT} (nx:Int) (i:Nat),(∀ o∈l,OPB o)→TW t→(tap l t nx i).2.2=(jap l (tv t) i).2∧((tap l t nx i).2.2.1=0→tv (tap l t nx i).1=(jap l (tv t) i).1∧TW (tap l t nx i).1)
 |[],t,nx,i,_,hw=>⟨rfl,fun _=>⟨rfl,hw⟩⟩
 |o :: r,t,nx,i,hl,hw=>by
  obtain ⟨h1,h2⟩:=Q1l (hl o (List.mem_cons_self ..)) nx hw
  by_cases hc:Xm (jdo (tv t) o)=0
  ·obtain ⟨h3,h4,h5⟩:=h2 hc
   rw [Q3I (by rw [h1];exact hc),Ht hc,←h3]
   exact Q1k r _ _ (fun p hp=>hl p (List.mem_cons_of_mem _ hp)) h4
  ·rw [Q1j (by rw [h1];exact hc),WA rfl hc,h1]
   exact ⟨rfl,fun e=>absurd e hc⟩
theorem Q8O:∀ (l:List JOp) {t:JT} {G:Int→JV} {nx:Int} (i:Nat),(∀ o∈l,OPB o)→TW t→0≤nx→Con G nx t→(tap l t nx i).2.2.1=0→(∃ G',Ag G nx G'∧Con G' (tap l t nx i).2.1 (tap l t nx i).1)∧nx≤(tap l t nx i).2.1∧(tap l t nx i).2.1≤nx+Xf l
 |[],t,G,nx,i,_,hw,h0,ht,_=>⟨⟨G,Ag.rfl',ht⟩,Int.le_refl _,by show nx≤nx+0;omega⟩
 |o :: r,t,G,nx,i,hl,hw,h0,ht,hk=>by
  obtain ⟨h1,h2⟩:=Q1l (hl o (List.mem_cons_self ..)) nx hw
  by_cases hc:Xm (jdo (tv t) o)=0
  ·obtain ⟨h3,h4,h5⟩:=h2 hc
   rw [Q3I (by rw [h1];exact hc)] at hk ⊢
   obtain ⟨G1,a1,c1⟩:=Qd3 o h0 ht h5
   have hn:=Q8S t o nx
   obtain ⟨⟨G2,a2,c2⟩,n1,n2⟩:=Q8O r (i+1) (fun p hp=>hl p (List.mem_cons_of_mem _ hp)) h4 (by omega) c1 hk
   exact ⟨⟨G2,a1.tr a2 hn.1,c2⟩,by omega,by rw [Xf];omega⟩
  ·rw [Q1j (by rw [h1];exact hc),h1] at hk;exact absurd hk hc
end
end Lg
namespace Lg
open Go
section
variable {t:JT} {nx:Int} (h5:t.k=5) (hw:TW t)
include h5
include hw
end
end Lg
namespace Lg
open Go
abbrev LS:=List (Int×AV)×Int×Int
def lk1 (frm id:Int) (v:JV) (S:LS):LS:=if (Z9 S.1 id).isSome=true then (S.1,S.2.1,max S.2.2 id) else (S.1++[(id,.agg (Qf v))],S.2.1+(if frm≤id then 1 else 0),max S.2.2 id)
mutual
def lk (frm:Int):JT→LS→LS
 | .mk id k b n s ks ch,S=>lk1 frm id (tv (.mk id k b n s ks ch)) (lks frm ch S)
def lks (frm:Int):List JT→LS→LS
 |[],S=>S
 |x :: r,S=>lks frm r (lk frm x S)
end
theorem Qbb (frm:Int) (t:JT) (S:LS):lk frm t S=lk1 frm t.id (tv t) (lks frm t.ch S):=by cases t;rw [lk];rfl
theorem Q4g (frm:Int):∀ (a b:List JT) (S:LS),lks frm (a++b) S=lks frm b (lks frm a S)
 |[],b,S=>rfl
 |x :: r,b,S=>by rw [List.cons_append,lks,lks,Q4g frm r b]
theorem Q1V {frm:Int} {l:List JT} {i:Nat} {x:JT} (h:l[i]? =some x) (S:LS):lks frm (l.take (i+1)) S=lk frm x (lks frm (l.take i) S):=by
 rw [QV h,Q4g];rfl
def cnt (frm:Int) (M:List (Int×AV)):Nat:=(M.filter fun q=>decide (frm≤q.1)).length
theorem Q5t {m r:List (Int×AV)} {k:Int} (h:(Z9 m k).isSome=true):Z9 (m++r) k=Z9 m k:=by
 induction m with
 |nil=>cases h
 |cons q m ih=>
  obtain ⟨a,b⟩:=q
  rw [List.cons_append,Z9,Z9] at *
  by_cases e:k=a
  ·rw [if_pos e,if_pos e]
  ·rw [if_neg e] at h ⊢
   rw [if_neg e,ih (by simpa using h)]
theorem Q1M {m:List (Int×AV)} {k:Int}:∀ {z:Nat×AV},Z9 m k=some z→(k,z.2)∈m:=by
 induction m with
 |nil=>intro z h;cases h
 |cons q m ih=>
  intro z h
  obtain ⟨a,b⟩:=q
  rw [Z9] at h
  by_cases e:k=a
  ·rw [if_pos e] at h;cases h;rw [e];exact List.mem_cons_self ..
  ·rw [if_neg e] at h
   cases hg:Z9 m k with
   |none=>rw [hg] at h;cases h
   |some y=>rw [hg] at h;cases h;have h9:=ih hg;exact List.mem_cons_of_mem _ h9
theorem Q5w {m:List (Int×AV)} {k:Int} {a:AV} (h:(k,a)∈m):(Z9 m k).isSome=true:=by
 induction m with
 |nil=>cases h
 |cons q m ih=>
  obtain ⟨c,b⟩:=q
  rw [Z9]
  by_cases e:k=c
  ·rw [if_pos e];rfl
  ·rw [if_neg e]
   rcases List.mem_cons.1 h with h|h
   ·cases h;exact absurd rfl e
   ·have:=ih h
    cases hg:Z9 m k with
    |none=>rw [hg] at this;cases this
    |some y=>rfl
variable [GLay]
structure SG (G:Int→JV) (N:Int) (M:List (Int×AV)):Prop where
 val:∀ q∈M,q.2= .agg (Qf (G q.1))∧0≤q.1∧q.1 < N
 nd:(M.map (·.1)).Nodup
theorem SG.mono {G G':Int→JV} {N N':Int} {M:List (Int×AV)} (h:SG G N M) (hN:N≤N') (hG:Ag G N G'):SG G' N' M:=
 ⟨fun q hq=>by obtain ⟨h1,h2,h3⟩:=h.val q hq;exact ⟨by rw [hG q.1 h3];exact h1,h2,by omega⟩,h.nd⟩
structure LR (G:Int→JV) (N frm:Int) (S S':LS) (c:Int):Prop where
 sg:SG G N S'.1
 ext:∃ r,S'.1=S.1++r
 len:(S'.1.length:Int)≤S.1.length+c
 new:S'.2.1=S.2.1+cnt frm S'.1 - cnt frm S.1
 last:S.2.2 < N→S'.2.2 < N
 lge:S.2.2≤S'.2.2
theorem LR.tr {G:Int→JV} {N frm:Int} {S S1 S2:LS} {c c1:Int} (h:LR G N frm S S1 c) (k:LR G N frm S1 S2 c1):LR G N frm S S2 (c+c1):=
 ⟨k.sg,by obtain ⟨r,hr⟩:=h.ext;obtain ⟨r2,hr2⟩:=k.ext;exact ⟨r++r2,by rw [hr2,hr,List.append_assoc]⟩,by have:=h.len;have:=k.len;omega,by have:=h.new;have:=k.new;omega,fun z=>k.last (h.last z),by have:=h.lge;have:=k.lge;omega⟩
theorem Qcm {G:Int→JV} {N frm id:Int} {S:LS} (h0:0≤id) (h1:id < N) (hs:SG G N S.1):LR G N frm S (lk1 frm id (G id) S) 1∧(Z9 (lk1 frm id (G id) S).1 id).map (·.2)=some (.agg (Qf (G id))):=by
 unfold lk1
 by_cases h:(Z9 S.1 id).isSome=true
 ·rw [if_pos h]
  refine ⟨⟨hs,⟨[],by simp⟩,by simp only;omega,by simp only;omega,fun z=>by simp only at z ⊢;omega,by simp only;omega⟩,?_⟩
  cases hg:Z9 S.1 id with
  |none=>rw [hg] at h;cases h
  |some z=>have:=(hs.val _ (Q1M hg)).1;simp only at this;show some z.2=_;rw [this]
 ·have hn:∀ q∈S.1,¬q.1=id:=fun q hq e=>h (by rw [← e];exact Q5w (a:=q.2) hq)
  rw [if_neg h]
  refine ⟨⟨⟨fun q hq=>?_,?_⟩,⟨_,rfl⟩,by simp,?_,fun z=>by simp only at z ⊢;omega,by simp only;omega⟩,Q5u hn _⟩
  ·rcases List.mem_append.1 hq with hq|hq
   ·exact hs.val q hq
   ·rw [List.mem_singleton] at hq;subst hq;exact ⟨rfl,h0,h1⟩
  ·rw [List.map_append,List.nodup_append]
   refine ⟨hs.nd,by simp,fun a ha b hb=>?_⟩
   simp at hb;subst hb
   obtain ⟨q,hq,rfl⟩:=List.mem_map.1 ha
   exact hn q hq
  ·simp only [cnt,List.filter_append,List.length_append]
   by_cases hf:frm≤id
   ·rw [if_pos hf,List.filter_cons_of_pos (by simpa using hf)];simp;omega
   ·rw [if_neg hf,List.filter_cons_of_neg (by simpa using hf)];simp
mutual
theorem Q1U {G:Int→JV} {N frm:Int}:∀ (t:JT) (S:LS),TW t→Con G N t→SG G N S.1→LR G N frm S (lk frm t S) (Q6 (tv t))∧(Z9 (lk frm t S).1 t.id).map (·.2)=some (.agg (Qf (tv t)))
 | .mk id k b n s ks ch,S,hw,hc,hs=>by
  obtain ⟨c0,c1,c2,c3⟩:=(KY _).1 hc
  have h1:=Q3c (frm:=frm) ch S ((Vq _).1 hw).2.2.2.2 c3 hs
  have c2':G id=tv (.mk id k b n s ks ch):=c2
  have h2:=Qcm (frm:=frm) (S:=lks frm ch S) c0 c1 h1.sg
  have hz:Q6 (tv (.mk id k b n s ks ch))=Qm (tvs ch)+1:=by rw [Jo,KM hw,Int.add_comm];rfl
  rw [hz,lk,←c2']
  exact ⟨h1.tr h2.1,h2.2⟩
theorem Q3c {G:Int→JV} {N frm:Int}:∀ (l:List JT) (S:LS),(∀ x∈l,TW x)→(∀ x∈l,Con G N x)→SG G N S.1→LR G N frm S (lks frm l S) (Qm (tvs l))
 |[],S,_,_,hs=>⟨hs,⟨[],by simp [lks]⟩,by simp [lks,Qm,tvs],by rw [lks];omega,fun z=>z,Int.le_refl _⟩
 |x :: r,S,hw,hc,hs=>by
  have h1:=(Q1U (frm:=frm) x S (hw x (List.mem_cons_self ..)) (hc x (List.mem_cons_self ..)) hs).1
  have h2:=Q3c (frm:=frm) r (lk frm x S) (fun y hy=>hw y (List.mem_cons_of_mem _ hy)) (fun y hy=>hc y (List.mem_cons_of_mem _ hy)) h1.sg
  rw [lks,tvs,Qm]
  exact h1.tr h2
end
theorem Q3g:∀ (n:Nat) (a:Int) (l:List Int),l.Nodup→(∀ x∈l,a≤x∧x < a+n)→l.length≤n
 |0,a,l,_,h=>by
  cases l with
  |nil=>simp
  |cons x r=>have:=h x (List.mem_cons_self ..);omega
 |n+1,a,l,hn,h=>by
  by_cases hm:a+n∈l
  ·have h1:=Q3g n a (l.erase (a+n)) (hn.erase _) (fun x hx=>by
    have h2:=h x (List.mem_of_mem_erase hx)
    have h3:¬x=a+n:=fun e=>by subst e;exact (List.Nodup.not_mem_erase hn) hx
    omega)
   rw [List.length_erase_of_mem hm] at h1
   omega
  ·have:=Q3g n a l hn (fun x hx=>by
    have h2:=h x hx
    have h3:¬x=a+n:=fun e=>by subst e;exact hm hx
    omega)
   omega
theorem Q9m {G:Int→JV} {N frm:Int} {M:List (Int×AV)} (h:SG G N M) (hf:frm≤N):(cnt frm M:Int)≤N - frm:=by
 obtain ⟨n,hn⟩:∃ n:Nat,N=frm+n:=⟨(N - frm).toNat,by omega⟩
 have h1:=Q3g n frm ((M.filter fun q=>decide (frm≤q.1)).map (·.1)) (h.nd.sublist (List.Sublist.map _ List.filter_sublist)) (fun x hx=>by
  obtain ⟨q,hq,rfl⟩:=List.mem_map.1 hx
  obtain ⟨hq1,hq2⟩:=List.mem_filter.1 hq
  have:=(h.val q hq1).2.2
  exact ⟨of_decide_eq_true hq2,by omega⟩)
 rw [List.length_map] at h1
 unfold cnt;omega
theorem Qdo {G:Int→JV} {N frm:Int} {M:List (Int×AV)} (h:SG G N M) (hf:N≤frm):cnt frm M=0:=by
 unfold cnt
 rw [List.length_eq_zero_iff,List.filter_eq_nil_iff]
 intro q hq
 have:=(h.val q hq).2.2
 simp;omega
theorem LR.get {G:Int→JV} {N frm:Int} {S S':LS} {c:Int} (h:LR G N frm S S' c) {k:Int} {a:AV} (hg:(Z9 S.1 k).map (·.2)=some a):(Z9 S'.1 k).map (·.2)=some a:=by
 obtain ⟨r,hr⟩:=h.ext
 rw [hr,Q5t (by cases hq:Z9 S.1 k with|none=>rw [hq] at hg;cases hg|some z=>rfl)];exact hg
end Lg
namespace Lg
open Go Go.RowKit
variable [GLay]
theorem Q45 {m:List (Int×AV)} {k:Int} {z:Nat×AV} (h:Z9 m k=some z):m[z.1]? =some (k,z.2):=by
 induction m generalizing z with
 |nil=>cases h
 |cons q m ih=>
  obtain ⟨a,b⟩:=q
  rw [Z9] at h
  by_cases e:k=a
  ·rw [if_pos e] at h;cases h;rw [e];rfl
  ·rw [if_neg e] at h
   cases hg:Z9 m k with
   |none=>rw [hg] at h;cases h
   |some y=>rw [hg] at h;cases h;exact ih hg
theorem FU {s:CS} {k:Int} {v:AV} {x:Value} (hx:V s v x):∀ (m:List (Int×AV)) (es:List MapEntry) (j:Nat),m[j]? =some (k,v)→PW s (ZH (Za m)) (ZH (es.map fun e=>(e.key,e.val)))→
  PW s (ZH (Za m)) (ZH ((es.modify j fun e=>{ e with key:=.int .i64 k,val:=x}).map fun e=>(e.key,e.val)))
 |[],es,j,h,_=>by simp at h
 |q :: m,[],j,_,h=>by have:=h.1;simp [Za,ZH] at this
 |(y,w) :: m,a :: r,j,hj,h=>by
  have h':PW s (.int .i64 y :: w :: ZH (Za m)) (a.key :: a.val :: ZH (r.map fun e=>(e.key,e.val))):=h
  obtain ⟨q,qs,e1,p1,h2⟩:=h'.inv_cons
  obtain ⟨q2,qs2,e2,p2,h3⟩:=h2.inv_cons
  cases e1;cases e2
  cases j with
  |zero=>
   simp at hj;obtain ⟨rfl,rfl⟩:=hj
   exact PW.cons (.int .i64 y) (PW.cons hx h3)
  |succ j=>exact PW.cons p1 (PW.cons p2 (FU hx m r j (by simpa using hj) h3))
theorem Q8h {s:CS} {k:Int} {v:AV}:∀ (m:List (Int×AV)) (es:List MapEntry) (j:Nat),m[j]? =some (k,v)→PW s (ZH (Za m)) (ZH (es.map fun e=>(e.key,e.val)))→∃ e0,es[j]? =some e0∧e0.key= .int .i64 k
 |[],es,j,h,_=>by simp at h
 |q :: m,[],j,_,h=>by have:=h.1;simp [Za,ZH] at this
 |(y,w) :: m,a :: r,j,hj,h=>by
  have h':PW s (.int .i64 y :: w :: ZH (Za m)) (a.key :: a.val :: ZH (r.map fun e=>(e.key,e.val))):=h
  have k1:=h'.2 0 _ _ rfl rfl
  obtain ⟨q,qs,e1,p1,h2⟩:=h'.inv_cons
  obtain ⟨q2,qs2,e2,p2,h3⟩:=h2.inv_cons
  cases e1;cases e2
  cases j with
  |zero=>simp at hj;obtain ⟨rfl,rfl⟩:=hj;exact ⟨a,rfl,k1.inv_int⟩
  |succ j=>exact Q8h m r j (by simpa using hj) h3
variable {P:Program} {N:Nat} {σ:List AO} {e:Env} {o:Oper} {p:Nat} {T K E:TypeId} {a b c:Operand} {m:List (Int×AV)} {k:Int}
theorem X5 {v:AV} {j:Nat} (ho:o.op= .mapUpdate T a b c) (hu:P.underlying T=some (.map K E)) (hK:P.underlying K=some (.int .i64)) (hx:opO e a=some (.mapv p)) (hy:opO e b=some (.int .i64 k)) (hc:opO e c=some v)
  (hσ:σ[p]? =some (.map (Za m))) (hn:Z9 m k=some (j,v)):AOp P σ e o .any (σ.set p (.map (Za m))):=by
 intro s ac hs g hv Kk Q hk _
 subst hs
 have h1:=Qp hx ▸ hv a (by simp [ho,Op.operands])
 have h2:=(Qp hy ▸ hv b (by simp [ho,Op.operands])).inv_int
 have h3:=Qp hc ▸ hv c (by simp [ho,Op.operands])
 have h1':=h1.inv_mapv
 obtain ⟨hnok,es,ck,hb,hpw⟩:=g.obj p _ hσ
 obtain ⟨r,hr,hm⟩:=JY k m es 0 hpw
 rw [hn] at hm
 obtain ⟨cv,rfl,hcv⟩:=hm
 have hcc:(Instr.checkKey false 10000 K (.int .i64 k)).run P s.w= .ok () s.w:=MapKept.run_checkKey (k:=.int .i64 k) hK (by simp [MapKept.IsKey]) false 9999
 have hf:(Instr.findKey K (.int .i64 k) es).run P s.w= .ok (some (0+j,cv)) s.w:=MapKept.run_findKey hK hr
 obtain ⟨s',e1,e2,g',x'⟩:=g.setMap hσ (l':=Za m) (es:=es.modify (0+j) fun e=>{ e with key:=.int .i64 k,val:=ac.eval c}) (c:=ck) (by
  rw [Nat.zero_add];exact FU h3 m es j (Q45 hn) hpw)
 refine Uf (w':=s'.w) ?_ (hk .any undef s' ⟨rfl,e1⟩ g' x' (.any _))
 rw [e2]
 obtain ⟨e0,he0,hk0⟩:=Q8h m es j (Q45 hn) hpw
 have hst:(Instr.keyThatStays (.int .i64 k) (.int .i64 k)).run P s.w= .ok (.int .i64 k) s.w:=MapKept.run_keyThatStays (k:=.int .i64 k) (d:=.int .i64) (by simp [MapKept.IsKey])
 simp [execOp,ho,h1',h2,Instr.mapUpdate,run_underlying hu,MapKept.run_getObj_map hb,hcc,hf,he0,hk0,hst,MapKept.run_setObj_map _ hb,Result.andThen]
end Lg
set_option maxRecDepth 20000
set_option maxHeartbeats 4000000
namespace Lg
open Go Go.Proofs Go.RowKit
variable [GLay]
theorem Q6R (f:Bool) (rows:List (List AV)) (σ:List AO) (hel:∀ r∈rows,r.length=1) (hone:Zf rows.flatten=true) (hlt:∀ n,AV.ltL n rows.flatten) (hn:rows.length≤1000000):ACalls Tryz.prog 100 [.sl f 1 rows] σ (fun o σ'=>o= .ret (.arr σ.length 0 1 0 rows.length)∧σ'=σ++[.arr 1 0 rows.flatten]):=by
 refine Qc Tryz.func100 rfl Tryz.ntmps100 (XE Tryz.results100) (Nat.le_of_ble_eq_true rfl) (fun hcl hal=>?_)
 refine zw1 ?_
 refine Q0 ?_
 refine zu1 ?_
 refine ztR rfl (Q23 rfl Tryz.underlying51 rfl) (fun v1_1 s1_1 hr=>?_) (fun v1_1 s1_1 hr=>?_)
 rotate_left
 ·exact hr.elim
 obtain ⟨hs,b,rfl,hb⟩:=hr
 rw [hs]
 refine zon ?_
 refine Q2 rfl (fun h1=>?_) (fun h1=>?_)
 ·(try rw [h1]);replace h1:=zcl h1
  refine zw1 ?_
  have hnil:=hb h1
  subst hnil
  refine Kq 2 1 rfl ?_ (by decide)
  refine zrt ?_
  refine Yc (v:=.arr σ.length 0 1 0 0) (σ.length+1) (by omega) rfl (Qh 1 hcl ?_) (by simp [AV.lt]) ⟨rfl,Qo 1⟩
  simp [ownLt,AO.cells,AV.ltL]
 ·(try rw [h1]);replace h1:=zcl h1
  refine Q1 ?_
  refine zsr ?_
  refine zt rfl (Jr (sz:=1) rfl Tryz.underlying51 Tryz.sizeOf9) ?_
  refine zg1 ?_
  refine zt rfl (KD (sz:=1) (m:=rows.length) (cs:=rows.flatten) rfl (.inr ⟨_,rfl⟩) Tryz.underlying51 Tryz.underlying51 Tryz.type9 rfl rfl rfl (by decide) (.inr rfl) (by rfl) rfl hone (by show rows.length * 16≤_;omega) (by omega) (QJ hel)) ?_
  refine zv1 ?_
  refine zrt ?_
  refine Yc (v:=.arr σ.length 0 1 0 rows.length) (σ.length+1) (by omega) rfl (Qh 1 hcl ?_) (by simp [AV.lt]) ⟨rfl,Qo 1⟩
  simp [ownLt,AO.cells,AV.ltL];exact hlt _

theorem Q6P (f:Bool) (rows:List (List AV)) (σ:List AO) (hel:∀ r∈rows,r.length=1) (hone:Zf rows.flatten=true) (hlt:∀ n,AV.ltL n rows.flatten) (hn:rows.length≤1000000):ACalls Tryz.prog 101 [.sl f 1 rows] σ (fun o σ'=>o= .ret (.arr σ.length 0 1 0 rows.length)∧σ'=σ++[.arr 1 0 rows.flatten]):=by
 refine Qc Tryz.func101 rfl Tryz.ntmps101 (XE Tryz.results101) (Nat.le_of_ble_eq_true rfl) (fun hcl hal=>?_)
 refine zw1 ?_
 refine Q0 ?_
 refine zu1 ?_
 refine ztR rfl (Q23 rfl Tryz.underlying55 rfl) (fun v1_1 s1_1 hr=>?_) (fun v1_1 s1_1 hr=>?_)
 rotate_left
 ·exact hr.elim
 obtain ⟨hs,b,rfl,hb⟩:=hr
 rw [hs]
 refine zon ?_
 refine Q2 rfl (fun h1=>?_) (fun h1=>?_)
 ·(try rw [h1]);replace h1:=zcl h1
  refine zw1 ?_
  have hnil:=hb h1
  subst hnil
  refine Kq 2 1 rfl ?_ (by decide)
  refine zrt ?_
  refine Yc (v:=.arr σ.length 0 1 0 0) (σ.length+1) (by omega) rfl (Qh 1 hcl ?_) (by simp [AV.lt]) ⟨rfl,Qo 1⟩
  simp [ownLt,AO.cells,AV.ltL]
 ·(try rw [h1]);replace h1:=zcl h1
  refine Q1 ?_
  refine zsr ?_
  refine zt rfl (Jr (sz:=1) rfl Tryz.underlying55 Tryz.sizeOf34) ?_
  refine zg1 ?_
  refine zt rfl (KD (sz:=1) (m:=rows.length) (cs:=rows.flatten) rfl (.inr ⟨_,rfl⟩) Tryz.underlying55 Tryz.underlying55 Tryz.type34 rfl rfl rfl (by decide) (.inr rfl) (by rfl) rfl hone (by show rows.length * 8≤_;omega) (by omega) (QJ hel)) ?_
  refine zv1 ?_
  refine zrt ?_
  refine Yc (v:=.arr σ.length 0 1 0 rows.length) (σ.length+1) (by omega) rfl (Qh 1 hcl ?_) (by simp [AV.lt]) ⟨rfl,Qo 1⟩
  simp [ownLt,AO.cells,AV.ltL];exact hlt _
end Lg
namespace Lg
open Go
variable [GLay]
mutual
theorem VU (m:Nat):∀ t:JT,AV.ltL m (tc t)
 | .mk id k b n s ks ch=>by
  rw [tc,H7]
  refine ⟨trivial,trivial,trivial,trivial,trivial,trivial,trivial,trivial,trivial,?_,?_,trivial⟩
  ·show AV.ltLL m (ZC ks)
   rw [AV.ltLL_iff];intro e he;simp [ZC] at he;obtain ⟨a,_,rfl⟩:=he;exact ⟨trivial,trivial⟩
  ·exact G4 m ch
theorem G4 (m:Nat):∀ l:List JT,AV.ltLL m (tcs l)
 |[]=>trivial
 |x :: r=>by rw [tcs];exact ⟨⟨VU m x,trivial⟩,G4 m r⟩
end
@[simp] theorem tc_lt' (m:Nat) (t:JT):AV.ltL m (tc t):=VU m t
@[simp] theorem tcs_lt' (m:Nat) (l:List JT):AV.ltLL m (tcs l):=G4 m l
@[simp] theorem Q0l (m:Nat) (l:List ByteArray):AV.ltLL m (ZC l):=by
 rw [AV.ltLL_iff];intro e he;simp [ZC] at he;obtain ⟨a,_,rfl⟩:=he;exact ⟨trivial,trivial⟩
theorem Q1I {m:Nat} {l:List (List AV)} (h:AV.ltLL m l):AV.ltL m l.flatten:=by
 rw [AV.ltL_iff];intro a ha
 obtain ⟨r,hr,ha⟩:=List.mem_flatten.1 ha
 exact (AV.ltL_iff _ _).1 ((AV.ltLL_iff _ _).1 h r hr) a ha
@[simp] theorem QaR (m:Nat) (l:List JT):AV.ltL m (tcs l).flatten:=Q1I (G4 m l)
@[simp] theorem Q6J (m:Nat) (l:List ByteArray):AV.ltL m (ZC l).flatten:=Q1I (Q0l m l)
theorem Q4q {l:List (List AV)} (h:∀ r∈l,Zf r=true):Zf l.flatten=true:=by
 rw [K5];intro a ha
 obtain ⟨r,hr,ha⟩:=List.mem_flatten.1 ha
 exact (K5 _).1 (h r hr) a ha
theorem HW (l:List JT):Zf (tcs l).flatten=true:=Q4q fun r hr=>by
 rw [Yb] at hr;simp at hr;obtain ⟨a,_,rfl⟩:=hr;rfl
theorem Uo (l:List ByteArray):Zf (ZC l).flatten=true:=Q4q fun r hr=>by
 simp [ZC] at hr;obtain ⟨a,_,rfl⟩:=hr;rfl
theorem Kl (l:List JT):(tcs l).flatten.length=l.length:=by rw [QJ (Wb l),X0,Nat.mul_one]
theorem Yk (l:List ByteArray):(ZC l).flatten.length=l.length:=by rw [QJ (JC l),ZD,Nat.mul_one]
theorem QaQ (l:List JT) (i:Nat) (x:JT):tcs (l.set i x)=(tcs l).set i [.pp (tc x)]:=by rw [Yb,Yb,List.map_set]
theorem FM:∀ (l:List (List AV)) (i:Nat) (a:AV),(∀ r∈l,r.length=1)→l.flatten.set i a=(l.set i [a]).flatten
 |[],i,a,_=>rfl
 |[b] :: l,0,a,h=>rfl
 |[b] :: l,i+1,a,h=>by
  show b :: l.flatten.set i a=b :: (l.set i [a]).flatten
  rw [FM l i a (fun r hr=>h r (List.mem_cons_of_mem _ hr))]
 |[] :: l,i,a,h=>absurd (h [] (List.mem_cons_self ..)) (by simp)
 |(_ :: _ :: _) :: l,i,a,h=>absurd (h _ (List.mem_cons_self ..)) (by simp)
theorem Q2v (l:List JT) (i:Nat) (x:JT):(tcs l).flatten.set i (.pp (tc x))=(tcs (l.set i x)).flatten:=by
 rw [FM _ _ _ (Wb l),QaQ]
theorem QaP (l:List JT) (i:Nat) (x:JT):(tcs l).take i++[AV.pp (tc x)] :: (tcs l).drop i=tcs (l.take i++x :: l.drop i):=by
 simp [Yb,List.map_take,List.map_drop]
theorem QaO (l:List JT) (i:Nat):(tcs l).take i++(tcs l).drop (i+1)=tcs (l.take i++l.drop (i+1)):=by
 simp [Yb,List.map_take,List.map_drop]
theorem Q6I (l:List ByteArray) (i:Nat) (x:ByteArray):(ZC l).take i++[AV.str x] :: (ZC l).drop i=ZC (l.take i++x :: l.drop i):=by
 simp [ZC,List.map_take,List.map_drop]
theorem Q6H (l:List ByteArray) (i:Nat):(ZC l).take i++(ZC l).drop (i+1)=ZC (l.take i++l.drop (i+1)):=by
 simp [ZC,List.map_take,List.map_drop]
theorem Ud {t:JT} (h:TW t) {n:Int} (hs:Q6 (tv t)≤n):(t.ch.length:Int)≤n∧(t.ks.length:Int)≤n:=by
 have h1:=Jo (tv t)
 rw [KM h] at h1
 have h2:=Yu (tvs t.ch)
 rw [Xz] at h2
 refine ⟨by omega,?_⟩
 by_cases h5:t.k=5
 ·rw [Vr h h5];omega
 ·rw [Uc h h5];have:=Qi (tv t);simp;omega
theorem Gv {t x:JT} (h:TW t) {i:Nat} (hx:t.ch[i]? =some x) {n:Int} (hs:Q6 (tv t)≤n):Q6 (tv x)≤n:=by
 have h1:=Jo (tv t)
 rw [KM h] at h1
 have h2:=ZG (YP hx)
 omega
theorem Q6k {t x:JT} (h:TW t) {i:Nat} (hx:t.ch[i]? =some x) (hj:jb (tv t)):jb (tv x):=by
 obtain ⟨hb1,hb2,hb3,hb4,hb5,hb6⟩:=(Zy (tv t)).1 hj
 by_cases h4:t.k=4
 ·refine Ys hb5 (i:=i) ?_
  rw [Ko h4];exact YP hx
 ·by_cases h5:t.k=5
  ·have hl:=Vr h h5
   have hi:=(List.getElem?_eq_some_iff.1 hx).1
   have:=(JR hb6 (i:=i) (q:=(t.ks[i]'(by omega),tv x)) (by rw [U9 h4];exact Q59 (List.getElem?_eq_getElem (by omega)) (YP hx))).2
   exact this
  ·rw [Q0c h h4 h5] at hx;simp at hx
end Lg
namespace Lg
open Go
section
variable [GLay]
theorem Q7r {ks:List ByteArray} (h:ks.Pairwise fun p q=>blt p q=true) {i j:Nat} {p q:ByteArray} (hij:i < j) (hp:ks[i]? =some p) (hq:ks[j]? =some q):blt p q=true:=by
 obtain ⟨h1,rfl⟩:=List.getElem?_eq_some_iff.1 hp
 obtain ⟨h2,rfl⟩:=List.getElem?_eq_some_iff.1 hq
 exact List.pairwise_iff_getElem.1 h i j h1 h2 hij
theorem Q7s {ks:List ByteArray} {key:ByteArray} {k:Nat} (hk:k≤ks.length) (h1:∀ (j:Nat) q,j < k→ks[j]? =some q→blt q key=true) (h2:∀ (j:Nat) q,k≤j→ks[j]? =some q→blt q key=false):YA ks key=k:=Q94 hk h1 h2
def tgA:Option JT→AV
 |some x=>.pp (tc x)
 |none=>.nilp
end
end Lg
set_option maxRecDepth 20000
set_option maxHeartbeats 4000000
namespace Lg
open Go Go.Proofs Go.RowKit
variable [GLay]
def KU (b:Bool):AV:=if b=true then .nili else .iface 96 (.int .i64 6)
theorem UK {P:Program} {σ:List AO} {e:Env} {o:Oper} {T T':TypeId} {x:Operand} {ms:Array (String×TypeId)} {z:Bool} (ho:o.op= .binOp .neq T x (.const .nilIface) T') (hu:P.underlying T=some (.interface ms)) (hx:opO e x=some (KU z)):AOp P σ e o (.bool (!z)) σ:=by
  cases z with
  |true=>exact UL ho hu hx
  |false=>exact Q0Q ho hu hx
theorem Yq (n:Nat) (b:Bool):(KU b).lt n:=by cases b<;>simp [KU,AV.lt]
def KT (k:Int):AV:=if k=0 then .nili else .iface 96 (.int .i64 k)
theorem Q2Y (b:Bool):KU b=KT (eC b):=by cases b<;>rfl
theorem YL (n:Nat) (k:Int):(KT k).lt n:=by unfold KT;split<;>trivial
theorem Q27 {P:Program} {σ:List AO} {e:Env} {o:Oper} {T T':TypeId} {x:Operand} {ms:Array (String×TypeId)} {k:Int} (ho:o.op= .binOp .neq T x (.const .nilIface) T') (hu:P.underlying T=some (.interface ms)) (hx:opO e x=some (KT k)):AOp P σ e o (.bool (decide (¬k=0))) σ:=by
  unfold KT at hx
  by_cases h:k=0
  · rw [if_pos h] at hx;rw [decide_eq_false (fun z=>z h)];exact UL ho hu hx
  · rw [if_neg h] at hx;rw [decide_eq_true h];exact Q0Q ho hu hx
theorem Q6Q (f:Bool) (ks:List ByteArray) (n p:Nat) (x:AO) (σ l:List AO) (hl:l.length=n) (hk:ks.length≤1000000):ACalls Tryz.prog 100 [.sl f 1 (ZC ks)] (σ.set p x++l) (Ret (.arr (σ.length+n) 0 1 0 ks.length) (σ.set p x++(l++[.arr 1 0 (ZC ks).flatten]))):=by
  have h:=Q6R f (ZC ks) (σ.set p x++l) (JC ks) (Uo ks) (fun n=>Q6J n ks) (by rw [ZD];exact hk)
  rw [List.length_append,List.length_set,hl,ZD,List.append_assoc] at h;exact h
theorem Q6O (f:Bool) (c:List JT) (n p:Nat) (x:AO) (σ l:List AO) (hl:l.length=n) (hk:c.length≤1000000):ACalls Tryz.prog 101 [.sl f 1 (tcs c)] (σ.set p x++l) (Ret (.arr (σ.length+n) 0 1 0 c.length) (σ.set p x++(l++[.arr 1 0 (tcs c).flatten]))):=by
  have h:=Q6P f (tcs c) (σ.set p x++l) (Wb c) (HW c) (fun n=>QaR n c) (by rw [X0];exact hk)
  rw [List.length_append,List.length_set,hl,X0,List.append_assoc] at h;exact h
theorem Q78 (t:JT) (next:Int) (p:Nat) (σ:List AO) (hσ:σ[p]? =some (.box [.int .i64 next])) (hb:0≤next∧next≤1000000000000) (h1:t.ks.length≤1000000) (h2:t.ch.length≤1000000):ACalls Tryz.prog 57 [.ptr p 0,.agg (tc t)] σ (Ret (.ptr σ.length 0) (σ.set p (.box [.int .i64 (next+1)])++[.box [.int .i64 next,.int .i64 t.k,.bool t.b,.bool t.n.neg,.str t.n.digits,.int .i64 t.n.exp,.str t.s,.nils,.nils,.arr (σ.length+1) 0 1 0 t.ks.length,.arr (σ.length+2) 0 1 0 t.ch.length],.arr 1 0 (ZC t.ks).flatten,.arr 1 0 (tcs t.ch).flatten])):=by
 have hp:p < σ.length:=(List.getElem?_eq_some_iff.1 hσ).1
 refine Qc Tryz.func57 rfl Tryz.ntmps57 (XE Tryz.results57) (Nat.le_of_ble_eq_true rfl) (fun hcl hal=>?_)
 rw [G0 t]
 refine Qn (QO hσ) ?_
 refine zw2 ?_
 refine zw6 ?_
 refine zw8 ?_
 refine Q0 ?_
 refine Qb #[0,1,3,0,8,31,63,127,255,511] Tryz.mixed (by decide +kernel) (by decide +kernel) ?_
 refine zd1 ?_
 refine zp1 ?_
 refine yE rfl rfl (zc rfl (Q6Q _ t.ks 1 p _ σ _ rfl h1)) (⟨.inl rfl,trivial⟩) (trivial) ?_
 refine zd1 ?_
 refine yP rfl rfl (zoa) (⟨.inr zoa,trivial⟩) ?_
 refine yE rfl rfl (zc rfl (Q6O _ t.ch 2 p _ σ _ rfl h2)) (⟨.inl rfl,⟨.inl rfl,trivial⟩⟩) (⟨rfl,trivial⟩) ?_
 refine zd1 ?_
 refine yEN rfl rfl rfl (zoa) (⟨.inl rfl,⟨.inl rfl,trivial⟩⟩) (⟨rfl,⟨rfl,trivial⟩⟩) ?_
 refine zd1 ?_
 refine yEN rfl rfl rfl (zoa) (⟨.inl rfl,⟨.inl rfl,trivial⟩⟩) (⟨rfl,⟨rfl,⟨rfl,trivial⟩⟩⟩) ?_
 refine RP.nil rfl ?_
 refine zw1 ?_
 refine zrt ?_
 refine Yc (v:=.ptr (σ.length+0) 0) (σ.length+3) (by omega) rfl (Xu (x:=.box [.int .i64 (next+1)]) 3 hcl (by simp [AO.cells,AV.ltL,AV.lt]) (by simp [ownLt,AO.cells,AV.ltL,AV.lt])) (by simp [AV.lt]) ?_
 rw [Yo]
 exact ⟨rfl,rfl⟩

theorem Qct (a:ByteArray) (σ:List AO):ACalls Tryz.prog 187 [.str a] σ (Ret (.bool false) σ):=by
 refine Qc Tryz.func187 rfl Tryz.ntmps187 (XE Tryz.results187) (Nat.le_of_ble_eq_true rfl) (fun hcl hal=>?_)
 refine zw1 ?_
 refine zu2 ?_
 refine zt rfl (Q29 rfl rfl rfl rfl) ?_
 refine zv1 ?_
 refine zrt ?_
 exact Qr rfl hcl (by simp [AV.lt,AV.ltL]) ⟨rfl,rfl⟩

theorem Q9Z (a:ByteArray) (σ:List AO):ACalls Tryz.prog 192 [.str a] σ (Ret (.bool false) σ):=by
 refine Qc Tryz.func192 rfl Tryz.ntmps192 (XE Tryz.results192) (Nat.le_of_ble_eq_true rfl) (fun hcl hal=>?_)
 refine zw1 ?_
 refine zu2 ?_
 refine zt rfl (Q29 rfl rfl rfl rfl) ?_
 refine zv1 ?_
 refine zrt ?_
 exact Qr rfl hcl (by simp [AV.lt,AV.ltL]) ⟨rfl,rfl⟩

theorem Q9S (a b:ByteArray) (σ:List AO):ACalls Tryz.prog 191 [.str a,.str b] σ (Ret (.bool (blt a b)) σ):=by
 refine Qc Tryz.func191 rfl Tryz.ntmps191 (XE Tryz.results191) (Nat.le_of_ble_eq_true rfl) (fun hcl hal=>?_)
 refine zw1 ?_
 refine zu1 ?_
 refine zt rfl (zc rfl (Qct _ _)) ?_
 refine J7 ?_
 refine zg1 ?_
 refine zon ?_
 refine zrt ?_
 exact Qr rfl hcl (by simp [AV.lt,AV.ltL]) ⟨rfl,rfl⟩

theorem Qdm (ks:List ByteArray) (key:ByteArray) (σ:List AO) (hm:ks.length≤1000000) (hs:ks.Pairwise fun p q=>blt p q=true):ACalls Tryz.prog 151 [.sl false 1 (ZC ks),.str key] σ (Ret (.tup [.int .i64 (YA ks key:Int),.bool (J9 ks key)]) σ):=by
 refine Qc Tryz.func151 rfl Tryz.ntmps151 (J5 Tryz.results151) (Nat.le_of_ble_eq_true rfl) (fun hcl hal=>?_)
 have hml:=ZD ks
 refine zw2 ?_
 refine zw3 ?_
 refine zw3 ?_
 refine Q0 ?_
 refine Qa ?_
 refine Qs (ι:=Nat×Nat) (fun z=>z.1≤z.2∧z.2≤ks.length∧(∀ (j:Nat) q,j < z.1→ks[j]? =some q→blt q key=true)∧(∀ (j:Nat) q,z.2≤j→ks[j]? =some q→blt q key=false)) (fun z=>⟨[],[(0,.sl false 1 (ZC ks)),(1,.str key),(4,.int .i64 0),(5,.bool false),(6,.int .i64 ((ZC ks).length:Int)),(7,.int .i64 (z.1:Int)),(8,.int .i64 (z.2:Int))]⟩) (fun z=>σ) (fun z=>z.2 - z.1) ((0,ks.length)) (⟨Nat.zero_le _,Nat.le_refl _,fun j q h=>by omega,fun j q h hq=>by have:=(List.getElem?_eq_some_iff.1 hq).1;omega⟩) ?_ rfl (fun z hz=>?_)
 ·refine ⟨rfl,rfl,rfl,rfl,rfl,rfl,rfl,?_,trivial⟩
  rw [← hml];rfl
 obtain ⟨lo,hi⟩:=z
 obtain ⟨hz1,hz2,hz3,hz4⟩:=hz
 simp only at hz1 hz2 hz3 hz4 ⊢
 refine Q0 ?_
 refine zw3 ?_
 refine Q2 rfl (fun h1=>?_) (fun h1=>?_)
 ·(try rw [h1]);replace h1:=zcl h1
  obtain ⟨q,hq⟩:∃ q,ks[(lo+hi) / 2]? =some q:=⟨_,List.getElem?_eq_getElem (show (lo+hi) / 2 < ks.length by omega)⟩
  have hqr:=Wm hq
  refine Q1 ?_
  refine Qa ?_
  refine zu3 ?_
  refine zt rfl (UH rfl (by rw [Tryz.underlying3];rfl) Tryz.underlying223 rfl (Q3O (by omega) (by omega))) ?_
  refine zt rfl (QcC (r:=((lo:Int)+(hi:Int)) / 2) rfl rfl rfl (by decide) rfl) ?_
  refine zt rfl (UH rfl (by rw [Tryz.underlying223];rfl) Tryz.underlying3 rfl (Yp (by omega) (by omega))) ?_
  refine zv1 ?_
  refine Q0 ?_
  rw [show ((lo:Int)+(hi:Int)) / 2=(((lo+hi) / 2:Nat):Int) by omega]
  refine Q4 ?_
  refine zg2 ?_
  refine zt rfl (Qe rfl Tryz.underlying51 Tryz.sizeOf9 rfl rfl (by omega) (hqr)) ?_
  refine zg2 ?_
  refine zt rfl (zc rfl (Q9S q key _)) ?_
  refine zon ?_
  refine Q2 rfl (fun h2=>?_) (fun h2=>?_)
  ·(try rw [h2]);replace h2:=zcl h2
   refine Q4 ?_
   refine zv3 ?_
   refine ⟨((lo+hi) / 2+1,hi),σ.length,⟨by simp only;omega,hz2,fun j p hj hp=>?_,hz4⟩,by simp only;omega,Nat.le_refl _,⟨rfl,rfl,rfl,rfl,rfl,rfl,rfl,rfl,trivial⟩,hcl,?_,List.take_length⟩
   ·by_cases hje:j=(lo+hi) / 2
    ·subst hje;rw [hq] at hp;cases hp;exact h2
    ·exact XQ (Q7r hs (by simp only at hj;omega) hp hq) h2
   ·simp [ltE,AV.lt,AV.ltL,AV.ltLL]
  ·(try rw [h2]);replace h2:=zcl h2
   refine Q4 ?_
   refine zv2 ?_
   have hb2:blt q key=false:=by simpa using h2
   refine ⟨(lo,(lo+hi) / 2),σ.length,⟨by simp only;omega,by simp only;omega,hz3,fun j p hj hp=>?_⟩,by simp only;omega,Nat.le_refl _,⟨rfl,rfl,rfl,rfl,rfl,rfl,rfl,rfl,trivial⟩,hcl,?_,List.take_length⟩
   ·by_cases hje:j=(lo+hi) / 2
    ·subst hje;rw [hq] at hp;cases hp;exact hb2
    ·cases hbx:blt p key with
     |false=>rfl
     |true=>rw [XQ (Q7r hs (by simp only at hj;omega) hq hp) hbx] at hb2;cases hb2
   ·simp [ltE,AV.lt,AV.ltL,AV.ltLL]
 ·(try rw [h1]);replace h1:=zcl h1
  refine Qg ?_
  refine Q0 ?_
  have hk:=Q7s (key:=key) (ks:=ks) (k:=lo) (by omega) hz3 (fun j q hj=>hz4 j q (by omega))
  refine Q4 ?_
  refine zg5 ?_
  refine zsp 35 rfl (fun h3=>?_) fun h3=>?_
  ·rw [h3];replace h3:=zcl h3
   obtain ⟨q,hq⟩:∃ q,ks[lo]? =some q:=⟨_,List.getElem?_eq_getElem (show lo < ks.length by omega)⟩
   have hqr:=Wm hq
   refine zg2 ?_
   refine ztG rfl rfl (Qe rfl Tryz.underlying51 Tryz.sizeOf9 rfl rfl (by omega) (hqr)) ?_
   refine zg4 ?_
   refine zsp 42 rfl (fun h4=>?_) fun h4=>?_
   ·rw [h4];replace h4:=zcl h4
    refine J7 ?_
    refine zg3 ?_
    refine zon ?_
    refine zrt ?_
    have hf:J9 ks key=true:=by unfold J9;rw [hk,hq];simp only;exact decide_eq_true h4
    rw [hk,hf]
    exact QM rfl rfl hcl (by simp [AV.lt,AV.ltL]) (Q8 rfl)
   ·rw [h4];replace h4:=zcl h4
    refine zg2 ?_
    refine ztG rfl rfl (Qe rfl Tryz.underlying51 Tryz.sizeOf9 rfl rfl (by omega) (hqr)) ?_
    refine zg1 ?_
    refine ztG rfl rfl (zc rfl (Q9Z _ _)) ?_
    refine zv8 ?_
    refine zrt ?_
    have hf:J9 ks key=false:=by unfold J9;rw [hk,hq];simp only;exact decide_eq_false h4
    rw [hk,hf]
    exact QM rfl rfl hcl (by simp [AV.lt,AV.ltL]) (Q8 rfl)
  ·rw [h3];replace h3:=zcl h3
   refine Q9b ?_
   refine zon ?_
   refine zrt ?_
   have hf:J9 ks key=false:=by unfold J9;rw [hk,List.getElem?_eq_none (by omega)]
   rw [hk,hf]
   exact QM rfl rfl hcl (by simp [AV.lt,AV.ltL]) (Q8 rfl)
end Lg
set_option maxRecDepth 20000
set_option maxHeartbeats 4000000
namespace Lg
open Go Go.Proofs Go.RowKit
variable [GLay]
theorem YK {nm:BL}:(ba nm=⟨#[]⟩)=(nm=[]):=propext ⟨fun h=>by have:=congrArg ByteArray.size h;rw [ZY] at this;exact List.eq_nil_of_length_eq_zero this,fun h=>by subst h;rfl⟩
theorem Wk {nm:BL}:(ba nm=⟨#[45]⟩)=(nm=[45]):=propext ⟨fun h=>by have:=congrArg (fun b=>b.data.toList) h;rwa [Zu] at this,fun h=>by subst h;rfl⟩
theorem QF {nm:BL}:WF nm↔(nm.length=0∨¬Xh (ba nm) 0=nm.length∨(1 < nm.length∧(bat (ba nm) 0).toNat=48)∨18 < nm.length):=by unfold WF;rw [List.length_eq_zero_iff]
theorem Q8p (nm:BL) (n:Nat) (e:Bool) (σ:List AO) (hs:nm.length≤1000000) (hn:n≤1000000000):ACalls Tryz.prog 53 [.str (ba nm),.int .i64 (n:Int),.bool e] σ (Ret (.tup [.int .i64 (ZF nm n e),.bool (Zr nm n e)]) σ):=by
 refine Qc Tryz.func53 rfl Tryz.ntmps53 (J5 Tryz.results53) (Nat.le_of_ble_eq_true rfl) (fun hcl hal=>?_)
 have hbs:=ZY nm
 refine zw2 ?_
 refine QE (ι:=Unit) (fun b=>¬(e=true∧nm=[45])) (fun b=>⟨[],[(0,.str (ba nm)),(1,.int .i64 (n:Int)),(2,.bool e),(6,.int .i64 0),(7,.bool false)]⟩) (fun b=>σ) ?_ (fun b hj=>?_)
 ·skip
  refine zu2 ?_
  refine zsp 11 rfl (fun h1=>?_) fun h1=>?_
  ·rw [h1];replace h1:=zcl h1
   refine zv3 ?_
   refine Q2 rfl (fun h2=>?_) (fun h2=>?_)
   ·(try rw [h2]);replace h2:=zcl h2
    refine zw3 ?_
    refine zrt ?_
    obtain ⟨q1,q2⟩:=FP (n:=n) (e:=true) rfl (Wk ▸ h2)
    rw [q1,q2]
    exact QM rfl rfl hcl (by simp [AV.lt,AV.ltL]) (Q8 rfl)
   ·(try rw [h2]);replace h2:=zcl h2
    refine Q1 ?_
    exact ⟨(),(fun x=>h2 (Wk ▸ x.2)),⟨rfl,rfl,rfl,rfl,rfl,rfl,trivial⟩,rfl⟩
  ·rw [h1];replace h1:=zcl h1
   refine zv3 ?_
   refine Qd rfl ?_
   refine Q1 ?_
   exact ⟨(),(fun x=>by cases x.1),⟨rfl,rfl,rfl,rfl,rfl,rfl,trivial⟩,rfl⟩
 ·skip
  have hj0:=hj
  clear hj
  refine Q0 ?_
  refine QE (ι:=Bool) (fun b=>b=decide (WF nm)) (fun b=>⟨[],[(0,.str (ba nm)),(1,.int .i64 (n:Int)),(2,.bool e),(6,.int .i64 0),(7,.bool false),(39,.bool b)]⟩) (fun b=>σ) ?_ (fun b hj=>?_)
  ·skip
   refine Q4 ?_
   refine zg3 ?_
   refine zsp 18 rfl (fun h3=>?_) fun h3=>?_
   ·rw [h3];replace h3:=zcl h3
    refine Q9b ?_
    refine zg1 ?_
    refine zon ?_
    refine ⟨_,?_,⟨rfl,rfl,rfl,rfl,rfl,rfl,rfl,trivial⟩,rfl⟩
    (try rw [YK,←List.length_eq_zero_iff] at h3)
    (try rw [show ((0:Int).toNat)=0 from rfl] at h4)
    (try rw [show ((0:Int).toNat)=0 from rfl] at h6)
    first|exact (decide_eq_true (QF.2 (by omega))).symm|exact (decide_eq_false (fun x=>by have:=QF.1 x;omega)).symm|exact decide_eq_decide.2 (by rw [QF];omega)
   ·rw [h3];replace h3:=zcl h3
    refine zg1 ?_
    refine ztG rfl rfl (zc rfl (Q8y _ _ _ (by omega) (by omega) (by omega))) ?_
    refine zg5 ?_
    refine zsp 25 rfl (fun h4=>?_) fun h4=>?_
    ·rw [h4];replace h4:=zcl h4
     refine J7 ?_
     refine zg4 ?_
     refine zon ?_
     refine ⟨_,?_,⟨rfl,rfl,rfl,rfl,rfl,rfl,rfl,trivial⟩,rfl⟩
     (try rw [YK,←List.length_eq_zero_iff] at h3)
     (try rw [show ((0:Int).toNat)=0 from rfl] at h4)
     (try rw [show ((0:Int).toNat)=0 from rfl] at h6)
     first|exact (decide_eq_true (QF.2 (by omega))).symm|exact (decide_eq_false (fun x=>by have:=QF.1 x;omega)).symm|exact decide_eq_decide.2 (by rw [QF];omega)
    ·rw [h4];replace h4:=zcl h4
     refine zg4 ?_
     refine zsp 29 rfl (fun h5=>?_) fun h5=>?_
     ·rw [h5];replace h5:=zcl h5
      refine zg6 ?_
      refine zsp 35 rfl (fun h6=>?_) fun h6=>?_
      ·rw [h6];replace h6:=zcl h6
       refine zv4 ?_
       refine ⟨_,?_,⟨rfl,rfl,rfl,rfl,rfl,rfl,rfl,trivial⟩,rfl⟩
       (try rw [YK,←List.length_eq_zero_iff] at h3)
       (try rw [show ((0:Int).toNat)=0 from rfl] at h4)
       (try rw [show ((0:Int).toNat)=0 from rfl] at h6)
       first|exact (decide_eq_true (QF.2 (by omega))).symm|exact (decide_eq_false (fun x=>by have:=QF.1 x;omega)).symm|exact decide_eq_decide.2 (by rw [QF];omega)
      ·rw [h6];replace h6:=zcl h6
       refine zv4 ?_
       refine ⟨_,?_,⟨rfl,rfl,rfl,rfl,rfl,rfl,rfl,trivial⟩,rfl⟩
       (try rw [YK,←List.length_eq_zero_iff] at h3)
       (try rw [show ((0:Int).toNat)=0 from rfl] at h4)
       (try rw [show ((0:Int).toNat)=0 from rfl] at h6)
       first|exact (decide_eq_true (QF.2 (by omega))).symm|exact (decide_eq_false (fun x=>by have:=QF.1 x;omega)).symm|exact decide_eq_decide.2 (by rw [QF];omega)
     ·rw [h5];replace h5:=zcl h5
      refine J7 ?_
      refine zon ?_
      refine ⟨_,?_,⟨rfl,rfl,rfl,rfl,rfl,rfl,rfl,trivial⟩,rfl⟩
      (try rw [YK,←List.length_eq_zero_iff] at h3)
      (try rw [show ((0:Int).toNat)=0 from rfl] at h4)
      (try rw [show ((0:Int).toNat)=0 from rfl] at h6)
      first|exact (decide_eq_true (QF.2 (by omega))).symm|exact (decide_eq_false (fun x=>by have:=QF.1 x;omega)).symm|exact decide_eq_decide.2 (by rw [QF];omega)
  ·skip
   subst hj
   refine Q2 rfl (fun h7=>?_) (fun h7=>?_)
   ·(try rw [h7]);replace h7:=zcl h7
    refine zw2 ?_
    refine zrt ?_
    obtain ⟨q1,q2⟩:=Q48 (n:=n) hj0 (by simpa using h7)
    rw [q1,q2]
    exact QM rfl rfl hcl (by simp [AV.lt,AV.ltL]) (Q8 rfl)
   ·(try rw [h7]);replace h7:=zcl h7
    have hb:¬WF nm:=by simpa using h7
    obtain ⟨hd,hl0,hl18⟩:=Q0C hb
    have hv0:=H4 hd
    refine Q1 ?_
    refine zw1 ?_
    refine Q0 ?_
    refine zw1 ?_
    refine Qa ?_
    refine Qs (ι:=Nat) (fun i=>i≤nm.length) (fun i=>⟨[],[(0,.str (ba nm)),(1,.int .i64 (n:Int)),(2,.bool e),(6,.int .i64 0),(7,.bool false),(8,.int .i64 (Xe 0 (nm.take i))),(9,.int .i64 (i:Int))]⟩) (fun i=>σ) (fun i=>nm.length - i) (0) (Nat.zero_le _) ?_ rfl (fun i hi=>?_)
    ·repeat' first|rfl|trivial|constructor
    refine Q0 ?_
    refine zw4 ?_
    refine Q2 rfl (fun h8=>?_) (fun h8=>?_)
    ·(try rw [h8]);replace h8:=zcl h8
     obtain ⟨c,hc⟩:∃ c,nm[i]? =some c:=⟨_,List.getElem?_eq_getElem (show i < nm.length by omega)⟩
     have hb1:=Q6n hd hl18 (show i < nm.length by omega)
     have hc256:=c.toNat_lt
     have hbc:bat (ba nm) i=c:=by rw [Un,List.getD_eq_getElem?_getD,hc];rfl
     have hbt:(bat (ba nm) (i:Int).toNat).toNat=c.toNat:=by rw [Int.toNat_natCast,hbc]
     refine Q1 ?_
     refine Q0 ?_
     refine Qa ?_
     refine Q4 ?_
     refine zv9 ?_
     refine Q4 ?_
     refine zv3 ?_
     refine ⟨i+1,σ.length,by omega,by omega,Nat.le_refl _,⟨rfl,rfl,rfl,rfl,rfl,rfl,?_,rfl,trivial⟩,hcl,by simp [ltE,AV.lt],List.take_length⟩
     have hst:=Q6m hc
     rw [← hbt] at hst
     rw [hst];rfl
    ·(try rw [h8]);replace h8:=zcl h8
     have hie:i=nm.length:=by omega
     subst hie
     rw [List.take_length]
     refine Qg ?_
     refine Q0 ?_
     refine zu4 ?_
     refine zsp 57 rfl (fun h9=>?_) fun h9=>?_
     ·rw [h9];replace h9:=zcl h9
      refine zv7 ?_
      refine Qj rfl ?_
      refine zw3 ?_
      refine zrt ?_
      obtain ⟨q1,q2⟩:=GL hj0 hb hv0.1 (.inl h9)
      rw [q1,q2]
      exact QM rfl rfl hcl (by simp [AV.lt,AV.ltL]) (Q8 rfl)
     ·rw [h9];replace h9:=zcl h9
      refine zg4 ?_
      refine zsp 61 rfl (fun h10=>?_) fun h10=>?_
      ·rw [h10];replace h10:=zcl h10
       refine zv3 ?_
       refine Q2 rfl (fun h11=>?_) (fun h11=>?_)
       ·(try rw [h11]);replace h11:=zcl h11
        refine zw3 ?_
        refine zrt ?_
        subst h11
        obtain ⟨q1,q2⟩:=GL hj0 hb hv0.1 (.inr ⟨h10,rfl⟩)
        rw [q1,q2]
        exact QM rfl rfl hcl (by simp [AV.lt,AV.ltL]) (Q8 rfl)
       ·(try rw [h11]);replace h11:=zcl h11
        refine Q1 ?_
        refine zw2 ?_
        refine zrt ?_
        have he:e=false:=by simpa using h11
        subst he
        obtain ⟨q1,q2⟩:=GK (n:=n) hj0 hb (fun x=>x.elim (by omega) (fun y=>by cases y.2))
        rw [q1,q2]
        exact QM rfl rfl hcl (by simp [AV.lt,AV.ltL]) (Q8 rfl)
      ·rw [h10];replace h10:=zcl h10
       refine zv3 ?_
       refine Qd rfl ?_
       refine Q1 ?_
       refine zw2 ?_
       refine zrt ?_
       obtain ⟨q1,q2⟩:=GK hj0 hb (fun x=>x.elim (by omega) (fun y=>h10 y.1))
       rw [q1,q2]
       exact QM rfl rfl hcl (by simp [AV.lt,AV.ltL]) (Q8 rfl)
end Lg
set_option maxRecDepth 20000
set_option maxHeartbeats 4000000
namespace Go.Proofs
open Go.Shelf
def Tryz.lays160_ren:Go.Shelf.Ren:=⟨fun|160=>189|232=>219|231=>218|227=>220|234=>222|233=>221|236=>224|235=>223|228=>262|271=>264|151=>263|197=>211|120=>290|152=>289|260=>250|137=>156|119=>301|224=>283|225=>282|217=>195|266=>229|n=>n,fun|9=>9|4=>4|3=>3|5=>5|117=>286|116=>285|0=>0|124=>289|21=>21|105=>278|46=>223|119=>335|139=>338|138=>337|n=>n,fun|3=>3|4=>4|n=>n⟩
theorem Tryz.lays160:Go.Proofs.Lays.n160 Tryz.prog Tryz.lays160_ren:={
 mixed:=by kernel_rfl,f119:=Tryz.func301.trans (congrArg some (by kernel_rfl)),f120:=Tryz.func290.trans (congrArg some (by kernel_rfl)),f137:=Tryz.func156.trans (congrArg some (by kernel_rfl)),f151:=Tryz.func263.trans (congrArg some (by kernel_rfl)),f152:=Tryz.func289.trans (congrArg some (by kernel_rfl)),f160:=Tryz.func189.trans (congrArg some (by kernel_rfl)),f197:=Tryz.func211.trans (congrArg some (by kernel_rfl)),f217:=Tryz.func195.trans (congrArg some (by kernel_rfl)),f224:=Tryz.func283.trans (congrArg some (by kernel_rfl)),f225:=Tryz.func282.trans (congrArg some (by kernel_rfl)),f227:=Tryz.func220.trans (congrArg some (by kernel_rfl)),f228:=Tryz.func262.trans (congrArg some (by kernel_rfl)),f231:=Tryz.func218.trans (congrArg some (by kernel_rfl)),f232:=Tryz.func219.trans (congrArg some (by kernel_rfl)),f233:=Tryz.func221.trans (congrArg some (by kernel_rfl)),f234:=Tryz.func222.trans (congrArg some (by kernel_rfl)),f235:=Tryz.func223.trans (congrArg some (by kernel_rfl)),f236:=Tryz.func224.trans (congrArg some (by kernel_rfl)),f260:=Tryz.func250.trans (congrArg some (by kernel_rfl)),f266:=Tryz.func229.trans (congrArg some (by kernel_rfl)),f271:=Tryz.func264.trans (congrArg some (by kernel_rfl)),t0:=Tryz.underlying0,a0:=Tryz.isAgg0,z0:=Tryz.sizeOf0,v0:=Tryz.zeroValue0,t3:=Tryz.underlying3,a3:=Tryz.isAgg3,z3:=Tryz.sizeOf3,v3:=Tryz.zeroValue3,t4:=Tryz.underlying4,a4:=Tryz.isAgg4,z4:=Tryz.sizeOf4,v4:=Tryz.zeroValue4,t5:=Tryz.underlying5,a5:=Tryz.isAgg5,z5:=Tryz.sizeOf5,v5:=Tryz.zeroValue5,t9:=Tryz.underlying9,a9:=Tryz.isAgg9,z9:=Tryz.sizeOf9,v9:=Tryz.zeroValue9,t21:=Tryz.underlying21,a21:=Tryz.isAgg21,z21:=Tryz.sizeOf21,v21:=Tryz.zeroValue21,t46:=Tryz.underlying223,a46:=Tryz.isAgg223,z46:=Tryz.sizeOf223,v46:=Tryz.zeroValue223,t105:=Tryz.underlying278,a105:=Tryz.isAgg278,z105:=Tryz.sizeOf278,v105:=Tryz.zeroValue278,t116:=Tryz.underlying285,a116:=Tryz.isAgg285,z116:=Tryz.sizeOf285,t117:=Tryz.underlying286,a117:=Tryz.isAgg286,z117:=Tryz.sizeOf286,v117:=Tryz.zeroValue286,t119:=Tryz.underlying335,a119:=Tryz.isAgg335,z119:=Tryz.sizeOf335,t124:=Tryz.underlying289,a124:=Tryz.isAgg289,z124:=Tryz.sizeOf289,v124:=Tryz.zeroValue289,t138:=Tryz.underlying337,a138:=Tryz.isAgg337,z138:=Tryz.sizeOf337,v138:=Tryz.zeroValue337,t139:=Tryz.underlying338,a139:=Tryz.isAgg338,z139:=Tryz.sizeOf338,v139:=Tryz.zeroValue338,g3:=by kernel_rfl,g4:=by kernel_rfl}
def Tryz.lays172_ren:Go.Shelf.Ren:=⟨fun|172=>190|244=>225|245=>226|247=>265|279=>266|280=>267|281=>268|282=>269|287=>291|316=>292|171=>128|205=>293|321=>302|322=>303|243=>173|246=>201|283=>242|284=>243|285=>244|286=>245|129=>241|317=>276|318=>277|319=>278|320=>279|337=>297|338=>298|n=>n,fun|9=>9|3=>3|75=>43|76=>165|4=>4|5=>5|167=>318|37=>116|0=>0|85=>319|2=>2|168=>321|53=>307|175=>342|46=>223|210=>345|127=>168|145=>358|143=>356|21=>21|171=>308|173=>310|212=>332|51=>305|20=>20|213=>333|232=>360|233=>361|80=>120|n=>n,fun|15=>5|16=>6|17=>2|18=>7|19=>8|n=>n⟩
theorem Tryz.lays172:Go.Proofs.Lays.n172 Tryz.prog Tryz.lays172_ren:={
 mixed:=by kernel_rfl,f129:=Tryz.func241.trans (congrArg some (by kernel_rfl)),f171:=Tryz.func128.trans (congrArg some (by kernel_rfl)),f172:=Tryz.func190.trans (congrArg some (by kernel_rfl)),f205:=Tryz.func293.trans (congrArg some (by kernel_rfl)),f243:=Tryz.func173.trans (congrArg some (by kernel_rfl)),f244:=Tryz.func225.trans (congrArg some (by kernel_rfl)),f245:=Tryz.func226.trans (congrArg some (by kernel_rfl)),f246:=Tryz.func201.trans (congrArg some (by kernel_rfl)),f247:=Tryz.func265.trans (congrArg some (by kernel_rfl)),f279:=Tryz.func266.trans (congrArg some (by kernel_rfl)),f280:=Tryz.func267.trans (congrArg some (by kernel_rfl)),f281:=Tryz.func268.trans (congrArg some (by kernel_rfl)),f282:=Tryz.func269.trans (congrArg some (by kernel_rfl)),f283:=Tryz.func242.trans (congrArg some (by kernel_rfl)),f284:=Tryz.func243.trans (congrArg some (by kernel_rfl)),f285:=Tryz.func244.trans (congrArg some (by kernel_rfl)),f286:=Tryz.func245.trans (congrArg some (by kernel_rfl)),f287:=Tryz.func291.trans (congrArg some (by kernel_rfl)),f316:=Tryz.func292.trans (congrArg some (by kernel_rfl)),f317:=Tryz.func276.trans (congrArg some (by kernel_rfl)),f318:=Tryz.func277.trans (congrArg some (by kernel_rfl)),f319:=Tryz.func278.trans (congrArg some (by kernel_rfl)),f320:=Tryz.func279.trans (congrArg some (by kernel_rfl)),f321:=Tryz.func302.trans (congrArg some (by kernel_rfl)),f322:=Tryz.func303.trans (congrArg some (by kernel_rfl)),f337:=Tryz.func297.trans (congrArg some (by kernel_rfl)),f338:=Tryz.func298.trans (congrArg some (by kernel_rfl)),t0:=Tryz.underlying0,a0:=Tryz.isAgg0,z0:=Tryz.sizeOf0,v0:=Tryz.zeroValue0,t2:=Tryz.underlying2,a2:=Tryz.isAgg2,z2:=Tryz.sizeOf2,v2:=Tryz.zeroValue2,t3:=Tryz.underlying3,a3:=Tryz.isAgg3,z3:=Tryz.sizeOf3,v3:=Tryz.zeroValue3,t4:=Tryz.underlying4,a4:=Tryz.isAgg4,z4:=Tryz.sizeOf4,v4:=Tryz.zeroValue4,t5:=Tryz.underlying5,a5:=Tryz.isAgg5,z5:=Tryz.sizeOf5,v5:=Tryz.zeroValue5,t9:=Tryz.underlying9,a9:=Tryz.isAgg9,z9:=Tryz.sizeOf9,v9:=Tryz.zeroValue9,t20:=Tryz.underlying20,a20:=Tryz.isAgg20,z20:=Tryz.sizeOf20,v20:=Tryz.zeroValue20,t21:=Tryz.underlying21,a21:=Tryz.isAgg21,z21:=Tryz.sizeOf21,v21:=Tryz.zeroValue21,t37:=Tryz.underlying116,a37:=Tryz.isAgg116,z37:=Tryz.sizeOf116,v37:=Tryz.zeroValue116,t46:=Tryz.underlying223,a46:=Tryz.isAgg223,z46:=Tryz.sizeOf223,v46:=Tryz.zeroValue223,t51:=Tryz.underlying305,a51:=Tryz.isAgg305,z51:=Tryz.sizeOf305,v51:=Tryz.zeroValue305,t53:=Tryz.underlying307,a53:=Tryz.isAgg307,z53:=Tryz.sizeOf307,v53:=Tryz.zeroValue307,t75:=Tryz.underlying43,a75:=Tryz.isAgg43,z75:=Tryz.sizeOf43,v75:=Tryz.zeroValue43,t76:=Tryz.underlying165,a76:=Tryz.isAgg165,z76:=Tryz.sizeOf165,v76:=Tryz.zeroValue165,t85:=Tryz.underlying319,a85:=Tryz.isAgg319,z85:=Tryz.sizeOf319,v85:=Tryz.zeroValue319,t127:=Tryz.underlying168,a127:=Tryz.isAgg168,z127:=Tryz.sizeOf168,v127:=Tryz.zeroValue168,t143:=Tryz.underlying356,a143:=Tryz.isAgg356,z143:=Tryz.sizeOf356,v143:=Tryz.zeroValue356,t145:=Tryz.underlying358,a145:=Tryz.isAgg358,z145:=Tryz.sizeOf358,v145:=Tryz.zeroValue358,t167:=Tryz.underlying318,a167:=Tryz.isAgg318,z167:=Tryz.sizeOf318,v167:=Tryz.zeroValue318,t168:=Tryz.underlying321,a168:=Tryz.isAgg321,z168:=Tryz.sizeOf321,v168:=Tryz.zeroValue321,t171:=Tryz.underlying308,a171:=Tryz.isAgg308,z171:=Tryz.sizeOf308,v171:=Tryz.zeroValue308,t173:=Tryz.underlying310,a173:=Tryz.isAgg310,z173:=Tryz.sizeOf310,v173:=Tryz.zeroValue310,t175:=Tryz.underlying342,a175:=Tryz.isAgg342,z175:=Tryz.sizeOf342,v175:=Tryz.zeroValue342,t210:=Tryz.underlying345,a210:=Tryz.isAgg345,z210:=Tryz.sizeOf345,v210:=Tryz.zeroValue345,t212:=Tryz.underlying332,a212:=Tryz.isAgg332,z212:=Tryz.sizeOf332,v212:=Tryz.zeroValue332,t213:=Tryz.underlying333,a213:=Tryz.isAgg333,z213:=Tryz.sizeOf333,t232:=Tryz.underlying360,a232:=Tryz.isAgg360,z232:=Tryz.sizeOf360,v232:=Tryz.zeroValue360,t233:=Tryz.underlying361,a233:=Tryz.isAgg361,z233:=Tryz.sizeOf361,v233:=Tryz.zeroValue361,g15:=by kernel_rfl,g16:=by kernel_rfl,g17:=by kernel_rfl,g18:=by kernel_rfl,g19:=by kernel_rfl}
end Go.Proofs
namespace Lg
open Go Go.Proofs Go.RowKit
variable [GLay]
theorem QaX (s:ByteArray) (σ:List AO) (hs:s.size≤1000000):ACalls Tryz.prog 189 [.str s,.str ⟨#[48,49,50,51,52,53,54,55,56,57]⟩] σ (Ret (.str ⟨(Lib.trimS s.data.toList dgs).toArray⟩) σ):=
 Wg fun st cargs g hp=>by
  obtain ⟨q,qs,rfl,h1,h2⟩:=hp.inv_cons
  obtain ⟨q2,qs2,rfl,h3,h4⟩:=h2.inv_cons
  obtain rfl:=h4.inv_nil
  obtain rfl:=h1.inv_str
  obtain rfl:=h3.inv_str
  exact ⟨_,fun _=>.str _,Any.strings_Trim_laid Tryz.lays160 (by kernel_rfl) s ⟨#[48,49,50,51,52,53,54,55,56,57]⟩ st.w (by omega) (by decide) (ascii_of_all (by decide))⟩
theorem PW.str1' {s:CS} {b:ByteArray} {vs:List Value} (h:PW s [.str b] vs):vs=[.string b]:=by
 obtain ⟨h1,h2⟩:=h
 match vs,h1 with
 |[v],_=>rw [(h2 0 (.str b) v rfl rfl).inv_str]
theorem QbI (s:ByteArray) (n:Int) (σ:List AO) (hs:s.size≤18) (h:Go.Lib.atoi s.data.toList=some n):ACalls Tryz.prog 190 [.str s] σ (Ret (.tup [.int .i64 n,.nili]) σ):=
 Wg fun st cargs g hp=>by
  rw [hp.str1']
  refine ⟨.tuple #[.int .i64 n,.nilIface],fun _=>?_,(Any.strconv_Atoi Tryz.lays172 s n hs h st.w).mono ?_⟩
  rotate_left
  ·rintro e w' ⟨rfl,t,rfl⟩
   exact ⟨rfl,rfl,rfl,rfl,by rw [Go.Lib.bytesWorld_size];omega,fun j hj=>Go.Lib.bytesWorld_at_old st.w _ t j hj⟩
  ·exact .tup [.int .i64 n,.nili] [.int .i64 n,.nilIface] rfl (fun i c v h1 h2=>by
    match i,h1,h2 with
    |0,h1,h2=>cases h1;cases h2;exact .int _ _
    |1,h1,h2=>cases h1;cases h2;exact .nili)
end Lg
set_option maxRecDepth 20000
set_option maxHeartbeats 4000000
namespace Lg
open Go Go.Proofs Go.RowKit
variable [GLay]
theorem Q4W (nm:BL) (σ:List AO) (hs:nm.length≤1000000):ACalls Tryz.prog 189 [.str (ba nm),.str ⟨#[48,49,50,51,52,53,54,55,56,57]⟩] σ (Ret (.str (trE nm)) σ):=by
  have h:=QaX (ba nm) σ (by rw [ZY];exact hs)
  rw [Zu] at h;exact h
theorem QcJ (nm:BL) (n:Nat) (e:Bool) (σ:List AO) (hs:nm.length≤1000000) (hn:n≤1000000000):ACalls Tryz.prog 150 [.str (ba nm),.int .i64 (n:Int),.bool e] σ (Ret (.tup [.int .i64 (ZF nm n e),.bool (Zr nm n e)]) σ):=by
 refine Qc Tryz.func150 rfl Tryz.ntmps150 (J5 Tryz.results150) (Nat.le_of_ble_eq_true rfl) (fun hcl hal=>?_)
 have hbs:=ZY nm
 refine zw2 ?_
 refine QE (ι:=Unit) (fun b=>¬(e=true∧nm=[45])) (fun b=>⟨[],[(0,.str (ba nm)),(1,.int .i64 (n:Int)),(2,.bool e),(6,.int .i64 0),(7,.bool false)]⟩) (fun b=>σ) ?_ (fun b hj=>?_)
 ·skip
  refine zu2 ?_
  refine zsp 11 rfl (fun h1=>?_) fun h1=>?_
  ·rw [h1];replace h1:=zcl h1
   refine zv3 ?_
   refine Q2 rfl (fun h2=>?_) (fun h2=>?_)
   ·(try rw [h2]);replace h2:=zcl h2
    refine zw3 ?_
    refine zrt ?_
    obtain ⟨q1,q2⟩:=FP (n:=n) (e:=true) rfl (Wk ▸ h2)
    rw [q1,q2]
    exact QM rfl rfl hcl (by simp [AV.lt,AV.ltL]) (Q8 rfl)
   ·(try rw [h2]);replace h2:=zcl h2
    refine Q1 ?_
    exact ⟨(),(fun x=>h2 (Wk ▸ x.2)),⟨rfl,rfl,rfl,rfl,rfl,rfl,trivial⟩,rfl⟩
  ·rw [h1];replace h1:=zcl h1
   refine zv3 ?_
   refine Qd rfl ?_
   refine Q1 ?_
   exact ⟨(),(fun x=>by cases x.1),⟨rfl,rfl,rfl,rfl,rfl,rfl,trivial⟩,rfl⟩
 ·skip
  have hj0:=hj
  clear hj
  refine Q0 ?_
  refine QE (ι:=Bool) (fun b=>b=decide (WF nm)) (fun b=>⟨[],[(0,.str (ba nm)),(1,.int .i64 (n:Int)),(2,.bool e),(6,.int .i64 0),(7,.bool false),(37,.bool b)]⟩) (fun b=>σ) ?_ (fun b hj=>?_)
  ·skip
   refine Q4 ?_
   refine zg3 ?_
   refine zsp 18 rfl (fun h3=>?_) fun h3=>?_
   ·rw [h3];replace h3:=zcl h3
    refine J7 ?_
    refine zg9 ?_
    refine zon ?_
    refine ⟨_,?_,⟨rfl,rfl,rfl,rfl,rfl,rfl,rfl,trivial⟩,rfl⟩
    (try rw [YK,←List.length_eq_zero_iff] at h3)
    (try rw [show ((0:Int).toNat)=0 from rfl] at *)
    by_cases hx:Xh (ba nm) 0=nm.length
    ·have hy:=YN.2 hx
     (try simp only [hy,decide_true,Bool.not_true,ne_eq,not_true,decide_false])
     first|exact (decide_eq_true (QF.2 (by omega))).symm|exact (decide_eq_false (fun x=>by have:=QF.1 x;omega)).symm
    ·have hy:¬trE nm=⟨#[]⟩:=fun z=>hx (YN.1 z)
     (try simp only [hy,decide_false,Bool.not_false,ne_eq,not_false_iff,decide_true])
     first|exact (decide_eq_true (QF.2 (by omega))).symm|exact (decide_eq_false (fun x=>by have:=QF.1 x;omega)).symm
   ·rw [h3];replace h3:=zcl h3
    refine zg5 ?_
    refine zsp 23 rfl (fun h4=>?_) fun h4=>?_
    ·rw [h4];replace h4:=zcl h4
     refine J7 ?_
     refine zg4 ?_
     refine zon ?_
     refine ⟨_,?_,⟨rfl,rfl,rfl,rfl,rfl,rfl,rfl,trivial⟩,rfl⟩
     (try rw [YK,←List.length_eq_zero_iff] at h3)
     (try rw [show ((0:Int).toNat)=0 from rfl] at *)
     by_cases hx:Xh (ba nm) 0=nm.length
     ·have hy:=YN.2 hx
      (try simp only [hy,decide_true,Bool.not_true,ne_eq,not_true,decide_false])
      first|exact (decide_eq_true (QF.2 (by omega))).symm|exact (decide_eq_false (fun x=>by have:=QF.1 x;omega)).symm
     ·have hy:¬trE nm=⟨#[]⟩:=fun z=>hx (YN.1 z)
      (try simp only [hy,decide_false,Bool.not_false,ne_eq,not_false_iff,decide_true])
      first|exact (decide_eq_true (QF.2 (by omega))).symm|exact (decide_eq_false (fun x=>by have:=QF.1 x;omega)).symm
    ·rw [h4];replace h4:=zcl h4
     refine zg4 ?_
     refine zsp 27 rfl (fun h5=>?_) fun h5=>?_
     ·rw [h5];replace h5:=zcl h5
      refine zg6 ?_
      refine zsp 33 rfl (fun h6=>?_) fun h6=>?_
      ·rw [h6];replace h6:=zcl h6
       refine zv4 ?_
       refine ⟨_,?_,⟨rfl,rfl,rfl,rfl,rfl,rfl,rfl,trivial⟩,rfl⟩
       (try rw [YK,←List.length_eq_zero_iff] at h3)
       (try rw [show ((0:Int).toNat)=0 from rfl] at *)
       by_cases hx:Xh (ba nm) 0=nm.length
       ·have hy:=YN.2 hx
        (try simp only [hy,decide_true,Bool.not_true,ne_eq,not_true,decide_false])
        first|exact (decide_eq_true (QF.2 (by omega))).symm|exact (decide_eq_false (fun x=>by have:=QF.1 x;omega)).symm
       ·have hy:¬trE nm=⟨#[]⟩:=fun z=>hx (YN.1 z)
        (try simp only [hy,decide_false,Bool.not_false,ne_eq,not_false_iff,decide_true])
        first|exact (decide_eq_true (QF.2 (by omega))).symm|exact (decide_eq_false (fun x=>by have:=QF.1 x;omega)).symm
      ·rw [h6];replace h6:=zcl h6
       refine zg1 ?_
       refine ztG rfl rfl (zc rfl (Q4W nm _ hs)) ?_
       refine zv2 ?_
       refine ⟨_,?_,⟨rfl,rfl,rfl,rfl,rfl,rfl,rfl,trivial⟩,rfl⟩
       (try rw [YK,←List.length_eq_zero_iff] at h3)
       (try rw [show ((0:Int).toNat)=0 from rfl] at *)
       by_cases hx:Xh (ba nm) 0=nm.length
       ·have hy:=YN.2 hx
        (try simp only [hy,decide_true,Bool.not_true,ne_eq,not_true,decide_false])
        first|exact (decide_eq_true (QF.2 (by omega))).symm|exact (decide_eq_false (fun x=>by have:=QF.1 x;omega)).symm
       ·have hy:¬trE nm=⟨#[]⟩:=fun z=>hx (YN.1 z)
        (try simp only [hy,decide_false,Bool.not_false,ne_eq,not_false_iff,decide_true])
        first|exact (decide_eq_true (QF.2 (by omega))).symm|exact (decide_eq_false (fun x=>by have:=QF.1 x;omega)).symm
     ·rw [h5];replace h5:=zcl h5
      refine zg7 ?_
      refine ztG rfl rfl (zc rfl (Q4W nm _ hs)) ?_
      refine zv2 ?_
      refine ⟨_,?_,⟨rfl,rfl,rfl,rfl,rfl,rfl,rfl,trivial⟩,rfl⟩
      (try rw [YK,←List.length_eq_zero_iff] at h3)
      (try rw [show ((0:Int).toNat)=0 from rfl] at *)
      by_cases hx:Xh (ba nm) 0=nm.length
      ·have hy:=YN.2 hx
       (try simp only [hy,decide_true,Bool.not_true,ne_eq,not_true,decide_false])
       first|exact (decide_eq_true (QF.2 (by omega))).symm|exact (decide_eq_false (fun x=>by have:=QF.1 x;omega)).symm
      ·have hy:¬trE nm=⟨#[]⟩:=fun z=>hx (YN.1 z)
       (try simp only [hy,decide_false,Bool.not_false,ne_eq,not_false_iff,decide_true])
       first|exact (decide_eq_true (QF.2 (by omega))).symm|exact (decide_eq_false (fun x=>by have:=QF.1 x;omega)).symm
  ·skip
   subst hj
   refine Q2 rfl (fun h7=>?_) (fun h7=>?_)
   ·(try rw [h7]);replace h7:=zcl h7
    refine zw2 ?_
    refine zrt ?_
    obtain ⟨q1,q2⟩:=Q48 (n:=n) hj0 (by simpa using h7)
    rw [q1,q2]
    exact QM rfl rfl hcl (by simp [AV.lt,AV.ltL]) (Q8 rfl)
   ·(try rw [h7]);replace h7:=zcl h7
    have hb:¬WF nm:=by simpa using h7
    obtain ⟨hd,hl0,hl18⟩:=Q0C hb
    have hv0:=H4 hd
    refine Q1 ?_
    refine zu1 ?_
    refine zt rfl (zc rfl (QbI (ba nm) (Xe 0 nm) _ (by omega) (by rw [Zu];exact Q6y hd hl0))) ?_
    refine zv5 ?_
    refine Q0 ?_
    refine zu8 ?_
    refine zsp 50 rfl (fun h8=>?_) fun h8=>?_
    ·rw [h8];replace h8:=zcl h8
     refine zv8 ?_
     refine Qj rfl ?_
     refine zw2 ?_
     refine zrt ?_
     obtain ⟨q1,q2⟩:=GK (n:=n) (e:=e) hj0 hb (fun x=>x.elim (by omega) (fun y=>by have:=y.1;omega))
     rw [q1,q2]
     exact QM rfl rfl hcl (by simp [AV.lt,AV.ltL]) (Q8 rfl)
    ·rw [h8];replace h8:=zcl h8
     refine zg4 ?_
     refine zsp 54 rfl (fun h9=>?_) fun h9=>?_
     ·rw [h9];replace h9:=zcl h9
      refine zv4 ?_
      refine Q2 rfl (fun h10=>?_) (fun h10=>?_)
      ·(try rw [h10]);replace h10:=zcl h10
       refine zw2 ?_
       refine zrt ?_
       have he:e=false:=by simpa using h10
       subst he
       obtain ⟨q1,q2⟩:=GK (n:=n) hj0 hb (fun x=>x.elim (by omega) (fun y=>by cases y.2))
       rw [q1,q2]
       exact QM rfl rfl hcl (by simp [AV.lt,AV.ltL]) (Q8 rfl)
      ·(try rw [h10]);replace h10:=zcl h10
       refine Q1 ?_
       refine zw3 ?_
       refine zrt ?_
       have he:e=true:=by simpa using h10
       subst he
       obtain ⟨q1,q2⟩:=GL (n:=n) hj0 hb hv0.1 (.inr ⟨h9,rfl⟩)
       rw [q1,q2]
       exact QM rfl rfl hcl (by simp [AV.lt,AV.ltL]) (Q8 rfl)
     ·rw [h9];replace h9:=zcl h9
      refine zv4 ?_
      refine Qd rfl ?_
      refine Q1 ?_
      refine zw3 ?_
      refine zrt ?_
      obtain ⟨q1,q2⟩:=GL (n:=n) hj0 hb hv0.1 (.inl (by omega))
      rw [q1,q2]
      exact QM rfl rfl hcl (by simp [AV.lt,AV.ltL]) (Q8 rfl)

end Lg
set_option maxRecDepth 20000
set_option maxHeartbeats 4000000
namespace Lg
open Go Go.Proofs Go.RowKit
variable [GLay]
theorem GZ (t:JT) (nm:BL) (e:Bool) (σ:List AO) (hw:TW t) (hl1:t.ks.length≤1000000) (hl2:t.ch.length≤1000000) (hnm:nm.length≤1000000):ACalls Tryz.prog 103 [.pp (tc t),.str (ba nm),.bool e] σ (Ret (.tup [.int .i64 (tfk t nm e:Int),.bool (tfo t nm e)]) σ):=by
 have hix:∀ (τ:List AO),ACalls Tryz.prog 150 [.str (ba nm),.int .i64 ((tcs t.ch).length:Int),.bool e] τ (Ret (.tup [.int .i64 (ZF nm t.ch.length e),.bool (Zr nm t.ch.length e)]) τ):=by
  intro τ;rw [X0];exact QcJ nm t.ch.length e τ hnm (by omega)
 refine Qc Tryz.func103 rfl Tryz.ntmps103 (J5 Tryz.results103) (Nat.le_of_ble_eq_true rfl) (fun hcl hal=>?_)
 rw [G0 t]
 refine zw2 ?_
 refine Q0 ?_
 refine zw5 ?_
 refine Qa ?_
 refine zw2 ?_
 refine Q2 rfl (fun h1=>?_) (fun h1=>?_)
 ·(try rw [h1]);replace h1:=zcl h1
  refine zu7 ?_
  refine zt rfl (zc rfl (hix _)) ?_
  refine zv4 ?_
  refine zrt ?_
  rw [HY h1,U3 h1,Q9D]
  exact QM rfl rfl hcl (by simp [AV.lt,AV.ltL]) (Q8 rfl)
 ·(try rw [h1]);replace h1:=zcl h1
  refine zw2 ?_
  refine Q2 rfl (fun h2=>?_) (fun h2=>?_)
  ·(try rw [h2]);replace h2:=zcl h2
   refine zu5 ?_
   refine zt rfl (zc rfl (Qdm t.ks (ba nm) _ hl1 (We hw))) ?_
   refine zv4 ?_
   refine zrt ?_
   rw [VV h2,Vm h2]
   exact QM rfl rfl hcl (by simp [AV.lt,AV.ltL]) (Q8 rfl)
  ·(try rw [h2]);replace h2:=zcl h2
   refine Q1 ?_
   refine zw2 ?_
   refine zrt ?_
   rw [HZ h1 h2,show tfk t nm e=0 by unfold tfk;rw [if_neg h1,if_neg h2]]
   exact QM rfl rfl hcl (by simp [AV.lt,AV.ltL]) (Q8 rfl)

theorem Hf {α:Type} {l:List α} {i:Nat} {x:α} (h:l[i]? =some x):l.drop i=x :: l.drop (i+1):=by
  have hi:=(List.getElem?_eq_some_iff.1 h).1
  rw [List.drop_eq_getElem_cons hi];congr 1
  have:=List.getElem?_eq_getElem hi
  rw [h] at this;exact (Option.some.inj this).symm
theorem Q8V (l:List BL) (f:Bool) (t:JT) (σ:List AO) (hw:TW t) (hs:Q6 (tv t)≤10000) (hll:l.length≤2000000) (hl:∀ n∈l,n.length≤1000000):ACalls Tryz.prog 63 [.pp (tc t),.sl f 1 (Qy l)] σ (Ret (.tup [tgA (Xi l t),KU (Xi l t).isSome]) σ):=by
 refine Qc Tryz.func63 rfl Tryz.ntmps63 (J5 Tryz.results63) (Nat.le_of_ble_eq_true rfl) (fun hcl hal=>?_)
 have hsl:=Zd l
 refine zw2 ?_
 refine Q0 ?_
 refine zw3 ?_
 refine Qa ?_
 refine Qs (ι:=Nat×JT) (fun z=>z.1≤l.length∧Xi (l.drop z.1) z.2=Xi l t∧TW z.2∧Q6 (tv z.2)≤10000) (fun z=>⟨[],[(0,.pp (tc z.2)),(10,.sl f 1 (Qy l)),(11,.int .i64 ((Qy l).length:Int)),(12,.int .i64 (z.1:Int))]⟩) (fun z=>σ) (fun z=>l.length - z.1) ((0,t)) (⟨Nat.zero_le _,by rw [List.drop_zero],hw,hs⟩) ?_ rfl (fun z hz=>?_)
 ·exact ⟨rfl,rfl,rfl,rfl,rfl,trivial⟩
 obtain ⟨i,u⟩:=z
 obtain ⟨hz1,hz2,hz3,hz4⟩:=hz
 simp only at hz1 hz2 hz3 hz4 ⊢
 have hsm:=Ud hz3 hz4
 refine zw1 ?_
 refine Q0 ?_
 refine Q2 rfl (fun h1=>?_) (fun h1=>?_)
 ·(try rw [h1]);replace h1:=zcl h1
  obtain ⟨nm,hnm⟩:∃ nm,l[i]? =some nm:=⟨_,List.getElem?_eq_getElem (show i < l.length by omega)⟩
  have hxr:=U0 hnm
  rw [Hf hnm] at hz2
  have hnl:=hl nm (List.mem_of_getElem? hnm)
  refine Q1 ?_
  refine Q0 ?_
  refine Qa ?_
  refine zsr ?_
  refine zt rfl (Qe rfl Tryz.underlying51 Tryz.sizeOf9 rfl rfl (by omega) (hxr)) ?_
  refine zv2 ?_
  refine zu2 ?_
  refine zt rfl (zc rfl (GZ u nm false _ hz3 (by omega) (by omega) hnl)) ?_
  refine zv5 ?_
  refine Q0 ?_
  refine zw2 ?_
  refine Q2 rfl (fun h2=>?_) (fun h2=>?_)
  ·(try rw [h2]);replace h2:=zcl h2
   have h2:tfo u nm false=false:=by simpa using h2
   refine zw3 ?_
   refine zrt ?_
   rw [← hz2,H0 h2]
   exact QM rfl rfl hcl (by simp [AV.lt,AV.ltL,tgA,KU]) (Q8 rfl)
  ·(try rw [h2]);replace h2:=zcl h2
   have h2:tfo u nm false=true:=by simpa using h2
   obtain ⟨x,hx⟩:=HX hz3 h2
   have hxg:=KK hx
   refine Q1 ?_
   rw [G0 u]
   refine Q4 ?_
   refine zg5 ?_
   refine zt rfl (Qe rfl Tryz.underlying55 Tryz.sizeOf34 rfl rfl (by omega) (hxg)) ?_
   refine zv2 ?_
   refine Q4 ?_
   refine zv2 ?_
   refine ⟨(i+1,x),σ.length,⟨by simp only;omega,?_,JW hz3 hx,Gv hz3 hx hz4⟩,by simp only;omega,Nat.le_refl _,⟨rfl,rfl,rfl,rfl,rfl,trivial⟩,hcl,by simp [ltE,AV.lt],List.take_length⟩
   rw [← hz2,Q3J h2 hx]
 ·(try rw [h1]);replace h1:=zcl h1
  have hie:i=l.length:=by omega
  subst hie
  rw [List.drop_length,Xi] at hz2
  refine Qg ?_
  refine zw3 ?_
  refine zrt ?_
  rw [← hz2]
  exact QM rfl rfl hcl (by simp [AV.lt,AV.ltL,tgA,KU]) (Q8 rfl)
end Lg
namespace Lg
open Go Go.RowKit
variable [GLay]
section
variable {P:Program} {N:Nat} {ops:Array Oper} {tb:Array Nat} {QR:Env→List AO→Prop} {X:AV→List AO→Prop} {i:Nat} {e:Env} {o:Oper} {σ:List AO} {past:List (Nat×List AO)} {held:List (Nat×(List AO→Prop))}
end
end Lg
namespace Lg
open Go Go.RowKit
variable [GLay]
end Lg
namespace Lg
open Go Go.RowKit
variable [GLay]
def PastG (P:Program) (tb:Array Nat) (i:Nat) (e:Env) (o:Oper) (v:AV):List (Nat×(Bool→List AO))→Prop
 |[]=>True
 |(j,σ) :: r=>(Zv tb j i=true∨∀ b,AOp P (σ b) e o v (σ b))∧PastG P tb i e o v r
def HeldG (tb:Array Nat) (i:Nat) (σ:Bool→List AO):List (Nat×(List AO→Prop))→Prop
 |[]=>True
 |(k,p) :: r=>(Zv tb k i=true∨∀ b,p (σ b))∧HeldG tb i σ r
def ChainG (tb:Array Nat) (i:Nat):List (Nat×(Bool→List AO))→Prop
 |[]=>True
 |(j,_) :: r=>Zv tb j i=true∧ChainG tb i r
inductive RT (P:Program) (N:Nat) (ops:Array Oper) (tb:Array Nat) (Q:Env→List AO→Prop):Nat→Env→List AO→Prop
 |nil {i e σ} (hi:i=ops.size) (h:Q e σ):RT P N ops tb Q i e σ
 |op {i e σ} (o:Oper) (v:AV) (σ':List AO) (ho:ops[i]? =some o) (hg:ZB ops N e o true) (hd:∀ d,o.dst=some d→d < N) (h:AOp P σ e o v σ') (hall:((List.range i).all fun j=>Zv tb j i)=true)
   (k:RT P N ops tb Q (i+1) (e.put o.dst v) σ'):RT P N ops tb Q i e σ
def QbF (B:AO) (L:Nat) (σ:Bool→List AO):Prop:=(σ false).length=L∧σ true=σ false++[B]
inductive RG (P:Program) (N:Nat) (ops:Array Oper) (tb:Array Nat) (B:AO) (L:Nat) (Q:Env→List AO→Prop):Nat→Env→(Bool→List AO)→List (Nat×(Bool→List AO))→List (Nat×(List AO→Prop))→Prop
 |pure {i e σ past held} (o:Oper) (v:AV) (ho:ops[i]? =some o) (hg:ZB ops N e o true) (hd:∀ d,o.dst=some d→d < N) (h:∀ b,AOp P (σ b) e o v (σ b)) (hp:PastG P tb i e o v past)
   (k:RG P N ops tb B L Q (i+1) (e.put o.dst v) σ past ((i,fun σ'=>AOp P σ' e o v σ') :: held)):RG P N ops tb B L Q i e σ past held
 |eff {i e σ past held} (o:Oper) (v:AV) (σ':Bool→List AO) (ho:ops[i]? =some o) (hg:ZB ops N e o true) (hd:∀ d,o.dst=some d→d < N) (h:∀ b,AOp P (σ b) e o v (σ' b)) (ht:QbF B L σ') (hh:HeldG tb i σ' held) (hc:ChainG tb i past)
   (k:RG P N ops tb B L Q (i+1) (e.put o.dst v) σ' ((i,σ) :: past) held):RG P N ops tb B L Q i e σ past held
 |flt {i e σ past held} (o:Oper) (ho:ops[i]? =some o) (hg:ZB ops N e o true) (hd:∀ d,o.dst=some d→d < N) (h:∀ τ:List AO,τ.length=L→AOp P τ e o (.ptr L 0) (τ++[B]))
   (k:RT P N ops tb Q (i+1) (e.put o.dst (.ptr L 0)) (σ true)):RG P N ops tb B L Q i e σ past held
structure TrG (P:Program) (N:Nat) (ops:Array Oper) (tb:Array Nat) (B:AO) (L:Nat) (Q:Env→List AO→Prop) (i0 f:Nat) (E:Nat→Env) (H:Bool→Nat→List AO) (val:Nat→AV) (kd:Nat→Kd):Prop where
 le:i0≤f
 fl:f < ops.size
 twin:∀ i,i0≤i→i≤f→QbF B L fun b=>H b i
 pre:∀ i,i0≤i→i < f→∃ o,ops[i]? =some o∧(∀ d,o.dst=some d→d < N)∧E (i+1)=(E i).put o.dst (val i)∧ZB ops N (E i) o true∧
  ((kd i= .pure∧(∀ b,AOp P (H b i) (E i) o (val i) (H b i)∧H b (i+1)=H b i)∧
   (∀ j,i0≤j→j < i→kd j= .eff→Zv tb j i=true∨∀ b,AOp P (H b j) (E i) o (val i) (H b j))∧
   (∀ j,i < j→j < f→kd j= .eff→Zv tb i j=true∨∀ b,AOp P (H b (j+1)) (E i) o (val i) (H b (j+1))))∨
  (kd i= .eff∧(∀ b,AOp P (H b i) (E i) o (val i) (H b (i+1)))∧(∀ j,i0≤j→j < i→kd j= .eff→Zv tb j i=true)))
 flt:∃ o,ops[f]? =some o∧(∀ d,o.dst=some d→d < N)∧E (f+1)=(E f).put o.dst (val f)∧ZB ops N (E f) o true∧kd f= .skip∧(∀ b,H b (f+1)=H b f)∧
  ∀ τ:List AO,τ.length=L→AOp P τ (E f) o (val f) (τ++[B])
 tail:∀ i,f < i→i < ops.size→∃ o,ops[i]? =some o∧(∀ d,o.dst=some d→d < N)∧E (i+1)=(E i).put o.dst (val i)∧ZB ops N (E i) o true∧kd i= .eff∧
  AOp P (H true i) (E i) o (val i) (H true (i+1))∧∀ j,j < i→Zv tb j i=true
 fin:Q (E ops.size) (H true ops.size)
section rp
variable {P:Program} {N:Nat} {ops:Array Oper} {tb:Array Nat} {Q:Env→List AO→Prop} {B:AO} {L:Nat}
theorem PastG.mem {i:Nat} {e:Env} {o:Oper} {v:AV}:∀ {past:List (Nat×(Bool→List AO))},PastG P tb i e o v past→∀ q∈past,Zv tb q.1 i=true∨∀ b,AOp P (q.2 b) e o v (q.2 b)
 |[],_,q,h=>by simp at h
 |(j,σ) :: r,⟨h1,h2⟩,q,h=>by
  rcases List.mem_cons.1 h with rfl|h
  ·exact h1
  ·exact PastG.mem h2 q h
theorem HeldG.mem {i:Nat} {σ:Bool→List AO}:∀ {held:List (Nat×(List AO→Prop))},HeldG tb i σ held→∀ q∈held,Zv tb q.1 i=true∨∀ b,q.2 (σ b)
 |[],_,q,h=>by simp at h
 |(j,p) :: r,⟨h1,h2⟩,q,h=>by
  rcases List.mem_cons.1 h with rfl|h
  ·exact h1
  ·exact HeldG.mem h2 q h
theorem ChainG.mem {i:Nat}:∀ {past:List (Nat×(Bool→List AO))},ChainG tb i past→∀ q∈past,Zv tb q.1 i=true
 |[],_,q,h=>by simp at h
 |(j,σ) :: r,⟨h1,h2⟩,q,h=>by
  rcases List.mem_cons.1 h with rfl|h
  ·exact h1
  ·exact ChainG.mem h2 q h
theorem RT.trace {i:Nat} {e:Env} {σ:List AO} (h:RT P N ops tb Q i e σ) (hi:i≤ops.size):
  ∃ (E:Nat→Env) (H:Nat→List AO) (val:Nat→AV),E i=e∧H i=σ∧(∀ j,i≤j→j < ops.size→∃ o,ops[j]? =some o∧(∀ d,o.dst=some d→d < N)∧E (j+1)=(E j).put o.dst (val j)∧ZB ops N (E j) o true∧
   AOp P (H j) (E j) o (val j) (H (j+1))∧∀ k,k < j→Zv tb k j=true)∧Q (E ops.size) (H ops.size):=by
 induction h with
 |nil hi' h=>
  rename_i i e σ
  exact ⟨fun _=>e,fun _=>σ,fun _=>.any,rfl,rfl,fun j h1 h2=>by omega,h⟩
 |op o v σ' ho hg hd h hall k ih=>
  rename_i i e σ
  have hlt:i < ops.size:=(Array.getElem?_eq_some_iff.1 ho).1
  obtain ⟨E,H,val,hE,hH,hs,hQ⟩:=ih (by omega)
  refine ⟨fun j=>if j=i then e else E j,fun j=>if j=i then σ else H j,fun j=>if j=i then v else val j,if_pos rfl,if_pos rfl,fun j h1 h2=>?_,?_⟩
  ·by_cases hji:j=i
   ·subst hji
    refine ⟨o,ho,hd,?_,by simpa using hg,?_,fun k hk=>List.all_eq_true.1 hall k (List.mem_range.2 hk)⟩
    ·simp [hE]
    ·simp only [if_true,if_neg (show j+1 ≠ j by omega),hH];exact h
   ·simp only [if_neg hji,if_neg (show j+1 ≠ i by omega)];exact hs j (by omega) h2
  ·simp only [if_neg (show ops.size ≠ i by omega)];exact hQ
theorem RG.trace {i:Nat} {e:Env} {σ:Bool→List AO} {past:List (Nat×(Bool→List AO))} {held:List (Nat×(List AO→Prop))} (h:RG P N ops tb B L Q i e σ past held) (htw:QbF B L σ):
  ∃ f E H val kd,E i=e∧(∀ b,H b i=σ b)∧TrG P N ops tb B L Q i f E H val kd∧
   (∀ j,i≤j→j < f→kd j= .pure→∀ q∈past,∃ o,ops[j]? =some o∧(Zv tb q.1 j=true∨∀ b,AOp P (q.2 b) (E j) o (val j) (q.2 b)))∧
   (∀ j,i≤j→j < f→kd j= .eff→(∀ q∈held,Zv tb q.1 j=true∨∀ b,q.2 (H b (j+1)))∧∀ q∈past,Zv tb q.1 j=true):=by
 induction h with
 |flt o ho hg hd h k=>
  rename_i i e σ past held
  have hlt:i < ops.size:=(Array.getElem?_eq_some_iff.1 ho).1
  obtain ⟨E,H,val,hE,hH,hs,hQ⟩:=k.trace (by omega)
  refine ⟨i,fun j=>if j=i then e else E j,fun b j=>if j≤i+1 then σ b else H j,fun j=>if j=i then .ptr L 0 else val j,fun j=>if j=i then .skip else .eff,if_pos rfl,fun b=>if_pos (by omega),⟨Nat.le_refl _,hlt,fun j h1 h2=>?_,fun j h1 h2=>by omega,⟨o,ho,hd,?_,by simpa using hg,if_pos rfl,fun b=>?_,fun τ hτ=>?_⟩,fun j h1 h2=>?_,?_⟩,fun j h1 h2=>by omega,fun j h1 h2=>by omega⟩
  ·simp only [if_pos (show j≤i+1 by omega)];exact htw
  ·simp [hE]
  ·simp
  ·simp only [if_true];exact h τ hτ
  ·obtain ⟨o',a1,a2,a3,a4,a5,a6⟩:=hs j (by omega) h2
   refine ⟨o',a1,a2,?_,?_,?_,?_,a6⟩
   ·simp only [if_neg (show j ≠ i by omega),if_neg (show j+1 ≠ i by omega)];exact a3
   ·simp only [if_neg (show j ≠ i by omega)];exact a4
   ·simp only [if_neg (show j ≠ i by omega)]
   ·simp only [if_neg (show j ≠ i by omega),if_neg (show ¬j+1≤i+1 by omega)]
    by_cases hj:j≤i+1
    ·have:j=i+1:=by omega
     subst this
     simp only [Nat.le_refl,if_true];rw [← hH];exact a5
    ·simp only [if_neg hj];exact a5
  ·simp only [if_neg (show ops.size ≠ i by omega)]
   by_cases hj:ops.size≤i+1
   ·simp only [if_pos hj];have:ops.size=i+1:=by omega
    rw [this] at hQ ⊢;rw [← hH];exact hQ
   ·simp only [if_neg hj];exact hQ
 |pure o v ho hg hd h hp k ih=>
  rename_i i e σ past held
  obtain ⟨f,E,H,val,kd,hE,hH,ht,h1,h2⟩:=ih htw
  have hif:=ht.le
  refine ⟨f,fun j=>if j=i then e else E j,fun b j=>if j=i then σ b else H b j,fun j=>if j=i then v else val j,fun j=>if j=i then .pure else kd j,if_pos rfl,fun b=>if_pos rfl,⟨by omega,ht.fl,fun j h3 h4=>?_,fun j hj1 hj2=>?_,?_,fun j h3 h4=>?_,?_⟩,fun j hj1 hj2 hk q hq=>?_,fun j hj1 hj2 hk=>?_⟩
  ·by_cases hji:j=i
   ·simp only [if_pos hji];exact htw
   ·simp only [if_neg hji];exact ht.twin j (by omega) h4
  ·by_cases hji:j=i
   ·subst hji
    refine ⟨o,ho,hd,by simp [hE],by simpa using hg,.inl ⟨by simp,fun b=>⟨by simpa using h b,by simp [hH]⟩,fun j' h4 h5=>by omega,fun j' h4 h5 hk=>?_⟩⟩
    simp only [if_neg (show j' ≠ j by omega),if_neg (show j'+1 ≠ j by omega)] at hk ⊢
    simp only [if_true]
    exact (h2 j' (by omega) h5 hk).1 (j,fun σ'=>AOp P σ' e o v σ') (by simp)
   ·obtain ⟨o',ho',hd',hE',hg',hc⟩:=ht.pre j (by omega) hj2
    simp only [if_neg hji,if_neg (show j+1 ≠ i by omega)]
    refine ⟨o',ho',hd',hE',hg',?_⟩
    rcases hc with ⟨a0,a1,a4,a5⟩|⟨a0,a1,a3⟩
    ·refine .inl ⟨a0,a1,fun j' h4 h5 hk'=>?_,fun j' h4 h5 hk'=>?_⟩
     ·by_cases hj':j'=i
      ·subst hj';simp at hk'
      ·simp only [if_neg hj'] at hk' ⊢;exact a4 j' (by omega) h5 hk'
     ·simp only [if_neg (show j' ≠ i by omega),if_neg (show j'+1 ≠ i by omega)] at hk' ⊢;exact a5 j' h4 h5 hk'
    ·refine .inr ⟨a0,a1,fun j' h4 h5 hk'=>?_⟩
     by_cases hj':j'=i
     ·subst hj';simp at hk'
     ·simp only [if_neg hj'] at hk';exact a3 j' (by omega) h5 hk'
  ·have:=ht.flt;simpa only [if_neg (show f ≠ i by omega),if_neg (show f+1 ≠ i by omega)] using this
  ·have:=ht.tail j h3 h4;simpa only [if_neg (show j ≠ i by omega),if_neg (show j+1 ≠ i by omega)] using this
  ·have:=ht.fin;have h9:=ht.fl;simpa only [if_neg (show ops.size ≠ i by omega)] using this
  ·by_cases hji:j=i
   ·subst hji;exact ⟨o,ho,by simp only [if_true];exact hp.mem q hq⟩
   ·simp only [if_neg hji] at hk ⊢;exact h1 j (by omega) hj2 hk q hq
  ·by_cases hji:j=i
   ·subst hji;simp at hk
   ·simp only [if_neg hji,if_neg (show j+1 ≠ i by omega)] at hk ⊢
    obtain ⟨b1,b2⟩:=h2 j (by omega) hj2 hk
    exact ⟨fun q hq=>b1 q (List.mem_cons_of_mem _ hq),b2⟩
 |eff o v σ' ho hg hd h htw' hh hc k ih=>
  rename_i i e σ past held
  obtain ⟨f,E,H,val,kd,hE,hH,ht,h1,h2⟩:=ih htw'
  have hif:=ht.le
  refine ⟨f,fun j=>if j=i then e else E j,fun b j=>if j=i then σ b else H b j,fun j=>if j=i then v else val j,fun j=>if j=i then .eff else kd j,if_pos rfl,fun b=>if_pos rfl,⟨by omega,ht.fl,fun j h3 h4=>?_,fun j hj1 hj2=>?_,?_,fun j h3 h4=>?_,?_⟩,fun j hj1 hj2 hk q hq=>?_,fun j hj1 hj2 hk=>?_⟩
  ·by_cases hji:j=i
   ·simp only [if_pos hji];exact htw
   ·simp only [if_neg hji];exact ht.twin j (by omega) h4
  ·by_cases hji:j=i
   ·subst hji
    refine ⟨o,ho,hd,by simp [hE],by simpa using hg,.inr ⟨by simp,fun b=>?_,fun j' h4 h5=>by omega⟩⟩
    simp only [if_true,if_neg (show j+1 ≠ j by omega),hH];exact h b
   ·obtain ⟨o',ho',hd',hE',hg',hc'⟩:=ht.pre j (by omega) hj2
    simp only [if_neg hji,if_neg (show j+1 ≠ i by omega)]
    refine ⟨o',ho',hd',hE',hg',?_⟩
    rcases hc' with ⟨a0,a1,a4,a5⟩|⟨a0,a1,a3⟩
    ·refine .inl ⟨a0,a1,fun j' h4 h5 hk'=>?_,fun j' h4 h5 hk'=>?_⟩
     ·by_cases hj':j'=i
      ·subst hj'
       obtain ⟨o2,ho2,hx⟩:=h1 j (by omega) hj2 a0 (j',σ) (by simp)
       rw [ho'] at ho2;cases ho2
       simp only [if_true];exact hx
      ·simp only [if_neg hj'] at hk' ⊢;exact a4 j' (by omega) h5 hk'
     ·simp only [if_neg (show j' ≠ i by omega),if_neg (show j'+1 ≠ i by omega)] at hk' ⊢;exact a5 j' h4 h5 hk'
    ·refine .inr ⟨a0,a1,fun j' h4 h5 hk'=>?_⟩
     by_cases hj':j'=i
     ·subst hj';exact (h2 j (by omega) hj2 a0).2 (j',σ) (by simp)
     ·simp only [if_neg hj'] at hk';exact a3 j' (by omega) h5 hk'
  ·have:=ht.flt;simpa only [if_neg (show f ≠ i by omega),if_neg (show f+1 ≠ i by omega)] using this
  ·have:=ht.tail j h3 h4;simpa only [if_neg (show j ≠ i by omega),if_neg (show j+1 ≠ i by omega)] using this
  ·have:=ht.fin;have h9:=ht.fl;simpa only [if_neg (show ops.size ≠ i by omega)] using this
  ·by_cases hji:j=i
   ·subst hji;simp at hk
   ·simp only [if_neg hji] at hk ⊢;exact h1 j (by omega) hj2 hk q (List.mem_cons_of_mem _ hq)
  ·by_cases hji:j=i
   ·subst hji
    exact ⟨fun q hq=>by simp only [if_neg (show j+1 ≠ j by omega),hH];exact hh.mem q hq,hc.mem⟩
   ·simp only [if_neg hji,if_neg (show j+1 ≠ i by omega)] at hk ⊢
    obtain ⟨b1,b2⟩:=h2 j (by omega) hj2 hk
    exact ⟨b1,fun q hq=>b2 q (List.mem_cons_of_mem _ hq)⟩
end rp
end Lg
namespace Lg
open Go Go.RowKit
variable [GLay]
section sound
variable {P : Program} {N : Nat} {ops : Array Oper} {tb : Array Nat} {Q : Env → List AO → Prop} {B : AO} {L : Nat}
structure InvG (ops : Array Oper) (N f : Nat) (E : Nat → Env) (H : Bool → Nat → List AO) (val : Nat → AV) (kd : Nat → Kd) (s0 : CS) (listed : Array Bool) (a : Act) (w : World) : Prop where
  size : listed.size = ops.size
  dn : ∀ j o, ops[j]? = some o → listed.getD j false = true → ∀ ed ∈ o.after.toList, Region.binds .any ed = true → listed.getD ed.on false = true
  st : ∃ s q, s.w = w ∧ Good s ∧ Ext s0 s ∧ q ≤ ops.size ∧ (∀ j, j < q → kd j = .eff → listed.getD j false = true) ∧ (q < ops.size → kd q = .eff ∧ listed.getD q false = false) ∧ s.σ = H (listed.getD f false) q ∧
    a.tmps.size = N ∧ DefOK s (E 0).D a.defers ∧ ∀ t, V s (Fz ops (E 0) val (fun j => listed.getD j false) ops.size t) (a.eval (.tmp t))
theorem InvG.way {f : Nat} {E : Nat → Env} {H : Bool → Nat → List AO} {val : Nat → AV} {kd : Nat → Kd} {s0 : CS} {listed : Array Bool} {a : Act} {w : World} (c : Chk ops tb) (h : InvG ops N f E H val kd s0 listed a w) :
    ∀ (j : Nat) (o : Oper), ops[j]? = some o → (∀ ed ∈ o.after.toList, Region.binds .any ed = true → listed.getD ed.on false = true) → ∀ i, i < ops.size → Zv tb i j = true → listed.getD i false = true := by
  intro j
  induction j using Nat.strongRecOn with
  | _ j ih =>
    intro o ho hdeps i hi hb
    obtain ⟨ed, hed, hbd, h1⟩ := c.way i j o ho hi hb
    have hon := hdeps ed hed hbd
    rcases h1 with h1 | h1
    · rw [← h1]; exact hon
    · have hlt := (c.edge j o ho ed hed hbd).1
      have hjn : ed.on < ops.size := by have := (Array.getElem?_eq_some_iff.1 ho).1; omega
      have ho' := Array.getElem?_eq_getElem hjn
      exact ih ed.on hlt _ ho' (h.dn ed.on _ ho' hon) i hi h1
theorem TrG.step {i0 f : Nat} {E : Nat → Env} {H : Bool → Nat → List AO} {val : Nat → AV} {kd : Nat → Kd} (ht : TrG P N ops tb B L Q i0 f E H val kd) : ∀ i, i0 ≤ i → i < ops.size → ∃ o, ops[i]? = some o ∧ (∀ d, o.dst = some d → d < N) ∧ E (i + 1) = (E i).put o.dst (val i) ∧ ZB ops N (E i) o true := fun i h0 hi => by
  rcases Nat.lt_trichotomy i f with h | h | h
  · obtain ⟨o, a1, a2, a3, a4, _⟩ := ht.pre i h0 h; exact ⟨o, a1, a2, a3, a4⟩
  · subst h; obtain ⟨o, a1, a2, a3, a4, _⟩ := ht.flt; exact ⟨o, a1, a2, a3, a4⟩
  · obtain ⟨o, a1, a2, a3, a4, _⟩ := ht.tail i h hi; exact ⟨o, a1, a2, a3, a4⟩
theorem TrG.hconst {i0 f : Nat} {E : Nat → Env} {H : Bool → Nat → List AO} {val : Nat → AV} {kd : Nat → Kd} (ht : TrG P N ops tb B L Q i0 f E H val kd) (z : Bool) : ∀ (b a : Nat), i0 ≤ a → a ≤ b → b ≤ ops.size → (∀ j, a ≤ j → j < b → kd j ≠ .eff) → H z a = H z b
  | 0, a, _, h, _, _ => by have : a = 0 := by omega
                           subst this; rfl
  | b + 1, a, h0, h, hb, hk => by
    by_cases e : a = b + 1
    · subst e; rfl
    · have ih := ht.hconst z b a h0 (by omega) (by omega) (fun j h1 h2 => hk j h1 (by omega))
      have hkb := hk b (by omega) (by omega)
      have : H z (b + 1) = H z b := by
        rcases Nat.lt_trichotomy b f with h1 | h1 | h1
        · obtain ⟨o, _, _, _, _, hc⟩ := ht.pre b (by omega) h1
          rcases hc with ⟨_, h2, _⟩ | ⟨h2, _⟩
          · exact (h2 z).2
          · exact absurd h2 hkb
        · subst h1
          obtain ⟨o, _, _, _, _, _, h2, _⟩ := ht.flt
          exact h2 z
        · obtain ⟨o, _, _, _, _, h2, _⟩ := ht.tail b h1 (by omega)
          exact absurd h2 hkb
      rw [ih, this]
end sound
end Lg
namespace Lg
open Go Go.RowKit
variable [GLay]
section
variable {P:Program} {N:Nat} {σ l:List AO} {e:Env} {o:Oper} {Q:QA}
end
section
variable {P:Program} {N:Nat} {ops:Array Oper} {tb:Array Nat} {B:AO} {L:Nat} {QR:Env→List AO→Prop} {i:Nat} {D:List (FuncId×List AV)} {el:List (Nat×AV)} {σ:Bool→List AO} {past:List (Nat×(Bool→List AO))} {held:List (Nat×(List AO→Prop))} {o:Oper} {v:AV} {d:Nat}
end
end Lg
namespace Lg
open Go Go.RowKit
variable [GLay]
section
variable {P:Program} {N:Nat} {e:Env} {σ:List AO} {Q:QA}
theorem Q5a {ι:Type} {c d:Code} (I:ι→Prop) (E:ι→Env) (S:ι→List AO) (hc:AWp P N c e σ fun ex e' σ'=>match ex with
   | .normal=>∃ j n,I j∧σ.length≤n∧Sub e' (E j)∧closed n σ'∧ltE n (E j)∧σ'.take n=S j
   |ex=>Q ex e' σ') (hd:∀ i,I i→AWp P N d (E i) (S i) Q):AWp P N (.seq c d) e σ Q:=fun s0 s a hs g x he=>
 wp_seq (wp_mono (hc s s a hs g (Ext.refl s) he) fun ex a' w' hp=>by
  obtain ⟨s',h1,h2,h3,e',h4,h5⟩:=hp
  cases ex with
  |normal=>
   obtain ⟨j,n,hI,hn,hsub,hcl,hlt,hσ⟩:=h5
   subst h1
   exact hd j hI s0 (s'.cut n) a' hσ (h2.cut hcl) (x.trans (h3.cutm (by rw [hs];exact hn))) ((hsub.ok h4).cut hlt)
  |exit id=>exact ⟨s',h1,h2,x.trans h3,e',h4,h5⟩
  |ret=>exact ⟨s',h1,h2,x.trans h3,e',h4,h5⟩
  |goto l=>exact h5.elim
  |outgrown=>exact h5.elim
  |panic ch=>
   cases ch with
   |nil=>exact h5.elim
   |cons en r=>
    cases r with
    |nil=>exact ⟨s',h1,h2,x.trans h3,e',h4,h5⟩
    |cons=>exact h5.elim)
end
end Lg
namespace Lg
open Go Go.RowKit
variable [GLay]
section
variable {P:Program} {N:Nat} {σ l:List AO} {e:Env} {Q:QA}
end
end Lg
namespace Lg
open Go Go.RowKit
variable [GLay]
end Lg
namespace Lg
open Go Go.RowKit
variable [GLay]
section
variable {P:Program} {N:Nat} {σ l:List AO} {e:Env} {o:Oper}
end
end Lg
namespace Lg
open Go Go.RowKit
section
variable [GLay] {P:Program} {N:Nat} {σ l:List AO} {e:Env} {Q:QA}
end
end Lg
namespace Lg
open Go Go.RowKit
def S2 (σ:List AO) (p q:Nat) (X Y:AO):List AO:=(σ.set p X).set q Y
class LenOf (τ:List AO) (σ:outParam (List AO)):Prop where h:τ.length=σ.length
instance {σ:List AO} {p q:Nat} {X Y:AO}:LenOf (S2 σ p q X Y) σ:=⟨by simp [S2]⟩
section
variable [GLay]
variable {σ l:List AO} {p q r:Nat} {X Y Z X' Y' Z':AO}
end
section
variable [GLay]
variable {τ σ l:List AO} [hτ:LenOf τ σ]
variable {P:Program} {N:Nat} {e:Env} {Q:QA} {o:Oper}
end
section
variable [GLay] {P:Program} {N:Nat} {σ:List AO} {e:Env} {Q:QA} {o:Oper}
theorem Gp {T:TypeId} {x y:Operand} {p g sz off i:Nat} {cs:List AV} {b:AV} (ho:o.op= .store T x y) (hz:∀ w,(Go.sizeOf T).run P w=Result.ok 1 w) (hy:opO e y=some b) (hbc:b.cells=[b]) (h1:Zf [b]=true) (hx:opO e x=some (.pel p g off)) (hoff:off=i)
  (hl:σ[p]? =some (.arr sz g cs)) (hi:i < cs.length):AOp P σ e o .any (σ.set p (.arr sz g (cs.set i b))):=by
 subst hoff
 have e1:=Qp hy
 exact WM (P:=P) (σ:=σ) (e:=e) (p:=p) (O:=.arr sz g (cs.set off b)) ho hz (by rw [e1,hbc];rfl) (by rw [e1,hbc];exact h1) (by
  rw [e1,hbc,Qp hx]
  simp only [stv,hl,if_true,Q1e _ _ _ hi,Option.map_some]) (by decide)
end
section
variable [GLay] {P:Program} {σ l:List AO} {p q r:Nat} {X Y Z:AO} {e:Env} {o:Oper}
end
section
variable [GLay] {P:Program} {f:FuncId} {args:List AV} {v:AV} {σ l:List AO} {p q r:Nat} {X Y Z X' Y' Z':AO}
end
end Lg
namespace Lg
open Go
variable [GLay]
def trA (r:TR):AV:=if r.2.2=true then .pp (tc r.1) else .nilp
theorem Q2x {r:TR} (h:r.2.2=false):trA r= .nilp:=by unfold trA;rw [if_neg (by simp [h])]
theorem Q4V {r:TR} (h:r.2.2=true):trA r= .pp (tc r.1):=by unfold trA;rw [if_pos h]
theorem G5 (t:JT) (id n:Int) (ks:List ByteArray) (ch:List JT):trA (tup t id ks ch,n,true)= .pp [.int .i64 id,.int .i64 t.k,.bool t.b,.bool t.n.neg,.str t.n.digits,.int .i64 t.n.exp,.str t.s,.nils,.nils,.sl false 1 (ZC ks),.sl false 1 (tcs ch)]:=by
 rw [Q4V rfl];exact congrArg AV.pp (G0 _)
theorem Vn (m:Nat) (r:TR):(trA r).lt m:=by unfold trA;split<;>simp [AV.lt]
end Lg
namespace Lg
open Go
section
variable {t x:JT} {nm:BL} {nx:Int}
theorem QcY (h:tfo t nm true=false) (h5:¬t.k=5):YB nm x t nx=(t,nx,false):=by
 unfold YB
 by_cases h4:t.k=4
 ·rw [if_pos h4,if_neg (by rw [U3 h4] at h;simp [h])]
 ·rw [if_neg h4,if_neg h5]
theorem QcX (h4:t.k=4) (h:tfo t nm true=true):YB nm x t nx=(tup t nx t.ks (t.ch.take (tfk t nm true)++x :: t.ch.drop (tfk t nm true)),nx+1,true):=by
 unfold YB;rw [if_pos h4,if_pos (by rw [← U3 h4];exact h),HY h4]
theorem QaK (h5:t.k=5) (h:tfo t nm true=true):YB nm x t nx=(tup t nx t.ks (t.ch.set (tfk t nm true) x),nx+1,true):=by
 unfold YB;rw [if_neg (by omega),if_pos h5,if_pos (by rw [← Vm h5 (e:=true)];exact h),VV h5]
theorem QaJ (h5:t.k=5) (h:tfo t nm true=false):YB nm x t nx=(tup t nx (t.ks.take (tfk t nm true)++ba nm :: t.ks.drop (tfk t nm true)) (t.ch.take (tfk t nm true)++x :: t.ch.drop (tfk t nm true)),nx+1,true):=by
 unfold YB;rw [if_neg (by omega),if_pos h5,if_neg (by rw [← Vm h5 (e:=true),h];simp),VV h5]
theorem Qdd (h:tfo t nm false=false):XJ nm t nx=(t,nx,false):=by unfold XJ;rw [if_neg (by simp [h])]
theorem Qdc (h5:t.k=5) (h:tfo t nm false=true):XJ nm t nx=(tup t nx (t.ks.take (tfk t nm false)++t.ks.drop (tfk t nm false+1)) (t.ch.take (tfk t nm false)++t.ch.drop (tfk t nm false+1)),nx+1,true):=by unfold XJ;rw [if_pos h,if_pos h5]
theorem Qdb (h5:¬t.k=5) (h:tfo t nm false=true):XJ nm t nx=(tup t nx t.ks (t.ch.take (tfk t nm false)++t.ch.drop (tfk t nm false+1)),nx+1,true):=by unfold XJ;rw [if_pos h,if_neg h5]
theorem Qd4 [GLay] (hw:TW t) (e:Bool):tfk t nm e≤t.ch.length∧(t.k=5→tfk t nm e≤t.ks.length):=by
 by_cases h4:t.k=4
 ·rw [HY h4]
  refine ⟨?_,fun h=>absurd h (by omega)⟩
  unfold ZF
  cases h:Uu nm t.ch.length e with
  |none=>simp [Option.elim]
  |some k=>have:=(GJ h).1;simpa [Option.elim] using this
 ·by_cases h5:t.k=5
  ·rw [VV h5]
   have:=Q4c t.ks (ba nm)
   exact ⟨by rw [← Vr hw h5];exact this,fun _=>this⟩
  ·unfold tfk;rw [if_neg h4,if_neg h5];exact ⟨Nat.zero_le _,fun _=>Nat.zero_le _⟩
theorem Q8U (hw:TW t) (h5:t.k=5) (e:Bool) (h:tfo t nm e=true):tfk t nm e < t.ch.length∧tfk t nm e < t.ks.length:=by
 rw [Vm h5] at h
 have h1:=(List.getElem?_eq_some_iff.1 (K2 h)).1
 rw [VV h5]
 exact ⟨by rw [← Vr hw h5];exact h1,h1⟩
end
end Lg
namespace Lg
open Go
section
theorem FB (t:JT):tc t=[.int .i64 t.id,.int .i64 (tv t).kind,.bool (tv t).b,.bool (tv t).n.neg,.str (tv t).n.digits,.int .i64 (tv t).n.exp,.str (tv t).s,.nils,.nils,.sl false 1 (ZC t.ks),.sl false 1 (tcs t.ch)]:=by
 rw [G0,XK,Q2B,Q2D,Q2E]
theorem Q4Z {t:JT} {v:JV} (hv:tv t=v) (h4:v.kind=4) {i:Nat} {x:JV} (hx:v.l[i]? =some x):∃ y,t.ch[i]? =some y∧tv y=x:=by
 subst hv
 rw [XK] at h4
 rw [Ko h4,X7,List.getElem?_map] at hx
 cases h:t.ch[i]? with
 |none=>rw [h] at hx;cases hx
 |some y=>rw [h] at hx;exact ⟨y,rfl,Option.some.inj hx⟩
theorem Q51 {t:JT} {v:JV} (hv:tv t=v) (h4:¬v.kind=4) {i:Nat} {q:BJ} (hq:v.m[i]? =some q):∃ y,t.ch[i]? =some y∧tv y=q.2∧t.ks[i]? =some q.1:=by
 subst hv
 rw [XK] at h4
 rw [U9 h4] at hq
 obtain ⟨a,b⟩:=q
 rw [List.getElem?_zip_eq_some] at hq
 obtain ⟨h1,h2⟩:=hq
 rw [X7,List.getElem?_map] at h2
 cases h:t.ch[i]? with
 |none=>rw [h] at h2;cases h2
 |some y=>rw [h] at h2;exact ⟨y,rfl,Option.some.inj h2,h1⟩
theorem Q50 {t:JT} {v:JV} (hv:tv t=v) (h4:v.kind=4):v.l.length=t.ch.length:=by
 subst hv;rw [Ko (by rw [← XK];exact h4),Xz]
theorem Q52 {t:JT} {v:JV} (hw:TW t) (hv:tv t=v) (h4:¬v.kind=4):v.m.length=t.ch.length:=by
 have h:=congrArg List.length (KM hw)
 rw [Xz] at h
 subst hv
 unfold K1 at h
 rw [Fa (by rw [← XK];exact h4)] at h
 simpa using h
theorem Q93 {t:JT} {v:JV} (hw:TW t) (hv:tv t=v) (h5:¬v.kind=5):v.m=[]:=by
 subst hv
 exact Wa (Jx t hw) h5
theorem Q92 {t:JT} {v:JV} (hw:TW t) (hv:tv t=v) (h4:¬v.kind=4):v.l=[]:=by
 subst hv
 exact W9 (Jx t hw) h4
theorem Q7w (a b:List JV):XD (a++b)=max (XD a) (XD b):=by
 induction a with
 |nil=>have:=Kx b;simp only [List.nil_append,XD];omega
 |cons x r ih=>simp only [List.cons_append,XD,ih];omega
theorem Qck (m:List BJ):XD (m.map (·.2))=J4 m:=by
 induction m with
 |nil=>rfl
 |cons q r ih=>obtain ⟨k,x⟩:=q;simp only [List.map_cons,XD,J4,ih]
theorem FO {t:JT} (hw:TW t):QZ (tv t)=if t.k=4∨t.k=5 then XD (tvs t.ch)+1 else 0:=by
 rw [FN,XK]
 have h:=KM hw
 unfold K1 at h
 rw [← h,Q7w,Qck]
theorem Q9N {t:JT} (hw:TW t) (h4:¬t.k=4) (h5:¬t.k=5):XD (tvs t.ch)=0:=by rw [Q0c hw h4 h5];rfl
theorem V8 {t:JT} (hw:TW t):Q6 (tv t)=1+Qm (tvs t.ch):=by rw [Jo,KM hw]
end
end Lg
set_option maxRecDepth 20000
set_option maxHeartbeats 4000000
namespace Lg
open Go Go.Proofs Go.RowKit
variable [GLay]
theorem Wx (t:JT) (nx:Int) (p:Nat) (σ:List AO) (hp:p < σ.length) (hb:0≤nx∧nx≤1000000000000) (h1:t.ks.length≤1000000) (h2:t.ch.length≤1000000):ACalls Tryz.prog 57 [.ptr p 0,.agg (tc t)] (σ.set p (.box [.int .i64 nx])) (Ret (.ptr (σ.length+0) 0) (σ.set p (.box [.int .i64 (nx+1)])++[.box [.int .i64 nx,.int .i64 t.k,.bool t.b,.bool t.n.neg,.str t.n.digits,.int .i64 t.n.exp,.str t.s,.nils,.nils,.arr (σ.length+1) 0 1 0 t.ks.length,.arr (σ.length+2) 0 1 0 t.ch.length],.arr 1 0 (ZC t.ks).flatten,.arr 1 0 (tcs t.ch).flatten])):=by
  have h:=Q78 t nx p (σ.set p (.box [.int .i64 nx])) (Qk hp) hb h1 h2
  rw [List.length_set,List.set_set] at h;exact h
theorem QaY (p kf:Nat) (fn:Go.Func) (caps:List AV) (hfn:Tryz.prog.funcs[kf]? =some fn) (hname:(fn.name == "runtime.NumGoroutine")=false) (hbd:fn.body.isNone=false) (g:JT→Int→TR) (c:Int) (hc0:0≤c) (hc1:c≤100000000) (hcb:Cb g c) (hf:∀ (t:JT) (nx:Int) (τ:List AO),TW t→Q6 (tv t)≤10000→τ[p]? =some (.box [.int .i64 nx])→0≤nx→nx≤500000000000→ACalls Tryz.prog kf ([.pp (tc t)]++caps) τ (Ret (.tup [trA (g t nx),KU (g t nx).2.2]) (τ.set p (.box [.int .i64 (g t nx).2.1])))) (f:Bool) (t:JT) (nx:Int) (σ:List AO) (hw:TW t) (hs:Q6 (tv t)≤10000) (hσ:σ[p]? =some (.box [.int .i64 nx])) (hn0:0≤nx) (hn1:nx≤500000000000):ACalls Tryz.prog 60 [.ptr p 0,.pp (tc t),.sl f 1 (Qy []),.func (.func kf) [] caps] σ (Ret (.tup [trA (twi g [] t nx),KU (twi g [] t nx).2.2]) (σ.set p (.box [.int .i64 (twi g [] t nx).2.1]))):=by
 have hp:p < σ.length:=(List.getElem?_eq_some_iff.1 hσ).1
 refine Qc Tryz.func60 rfl Tryz.ntmps60 (J5 Tryz.results60) (Nat.le_of_ble_eq_true rfl) (fun hcl hal=>?_)
 refine Qn (QO hσ) ?_
 refine zw2 ?_
 refine Q0 ?_
 refine zu2 ?_
 refine zt rfl (JI rfl rfl rfl rfl) ?_
 refine zon ?_
 refine Qj rfl ?_
 refine zu2 ?_
 refine zt rfl (K6 rfl rfl rfl hfn hname hbd (Ge (hf t nx _ hw hs (Qk hp) hn0 hn1))) ?_
 refine zv4 ?_
 refine zrt ?_
 exact Xj (x:=.box [.int .i64 (g t nx).2.1]) rfl hcl ⟨trivial,trivial⟩ ⟨Vn _ _,Yq _ _,trivial⟩ (Q8 rfl)

theorem QaZ (p kf:Nat) (fn:Go.Func) (caps:List AV) (hfn:Tryz.prog.funcs[kf]? =some fn) (hname:(fn.name == "runtime.NumGoroutine")=false) (hbd:fn.body.isNone=false) (g:JT→Int→TR) (c:Int) (hc0:0≤c) (hc1:c≤100000000) (hcb:Cb g c) (hf:∀ (t:JT) (nx:Int) (τ:List AO),TW t→Q6 (tv t)≤10000→τ[p]? =some (.box [.int .i64 nx])→0≤nx→nx≤500000000000→ACalls Tryz.prog kf ([.pp (tc t)]++caps) τ (Ret (.tup [trA (g t nx),KU (g t nx).2.2]) (τ.set p (.box [.int .i64 (g t nx).2.1])))) (r:List BL) (ih:∀ (t:JT) (nx:Int) (es:List (List AV)) (σ:List AO),TW t→Q6 (tv t)≤10000→es=Qy r→σ[p]? =some (.box [.int .i64 nx])→0≤nx→nx≤500000000000→ACalls Tryz.prog 60 [.ptr p 0,.pp (tc t),.sl false 1 es,.func (.func kf) [] caps] σ (Ret (.tup [trA (twi g r t nx),KU (twi g r t nx).2.2]) (σ.set p (.box [.int .i64 (twi g r t nx).2.1])))) (f:Bool) (nm:BL) (t:JT) (nx:Int) (σ:List AO) (hw:TW t) (hs:Q6 (tv t)≤10000) (hσ:σ[p]? =some (.box [.int .i64 nx])) (hn0:0≤nx) (hn1:nx≤500000000000) (hnm:nm.length≤1000000) (hrl:r.length≤2000000):ACalls Tryz.prog 60 [.ptr p 0,.pp (tc t),.sl f 1 (Qy (nm :: r)),.func (.func kf) [] caps] σ (Ret (.tup [trA (twi g (nm :: r) t nx),KU (twi g (nm :: r) t nx).2.2]) (σ.set p (.box [.int .i64 (twi g (nm :: r) t nx).2.1]))):=by
 have hp:p < σ.length:=(List.getElem?_eq_some_iff.1 hσ).1
 have hsm:=Ud hw hs
 have hsl:1≤(Qy (nm :: r)).length:=by rw [Zd,List.length_cons];omega
 refine Qc Tryz.func60 rfl Tryz.ntmps60 (J5 Tryz.results60) (Nat.le_of_ble_eq_true rfl) (fun hcl hal=>?_)
 refine Qn (QO hσ) ?_
 refine zw2 ?_
 refine Q0 ?_
 refine zu2 ?_
 refine zt rfl (Xx rfl rfl rfl (by rw [Zd,List.length_cons];omega)) ?_
 refine zon ?_
 refine Qd rfl ?_
 refine Q1 ?_
 refine zu2 ?_
 refine zt rfl (Qe rfl Tryz.underlying51 Tryz.sizeOf9 rfl rfl (by omega) (rfl)) ?_
 refine zg1 ?_
 refine zt rfl (zc rfl (GZ t nm false _ hw (by omega) (by omega) hnm)) ?_
 refine zv5 ?_
 refine Q0 ?_
 refine zw2 ?_
 refine Q2 rfl (fun h1=>?_) (fun h1=>?_)
 ·(try rw [h1]);replace h1:=zcl h1
  have h1:tfo t nm false=false:=by simpa using h1
  refine zw3 ?_
  refine zrt ?_
  rw [Ga h1,Q2x rfl]
  exact Xj (x:=.box [.int .i64 nx]) rfl hcl ⟨trivial,trivial⟩ ⟨trivial,Yq _ false,trivial⟩ (Q8 rfl)
 ·(try rw [h1]);replace h1:=zcl h1
  have h1:tfo t nm false=true:=by simpa using h1
  obtain ⟨x,hx⟩:=HX hw h1
  have hxg:=KK hx
  have hlt:=(List.getElem?_eq_some_iff.1 hx).1
  have hcn:=G9 hc0 hcb r x nx
  refine Q1 ?_
  refine Q0 ?_
  refine Qb #[0,0,2,6,14,0,62,126,0,256,0,2047,4095,8191,8191,16383,65535] Tryz.mixed (by decide +kernel) (by decide +kernel) ?_
  rw [G0 t]
  refine zd4 ?_
  refine zp1 ?_
  refine zd1 ?_
  refine yA rfl rfl (fun _=>Qe rfl Tryz.underlying55 Tryz.sizeOf34 rfl rfl (by omega) (hxg)) ?_
  refine zp1 ?_
  refine zd1 ?_
  refine yA rfl rfl (fun _=>(by first|exact ZT _ _ rfl Tryz.underlying51 Tryz.sizeOf9 rfl (by first|exact ⟨_,rfl⟩|rfl) (by first|exact ⟨_,rfl⟩|rfl) (by omega) (by omega) (by omega)|exact QC _ _ rfl Tryz.underlying51 Tryz.sizeOf9 rfl GET (by first|exact ⟨_,rfl⟩|rfl) (by first|exact ⟨_,rfl⟩|rfl) (by omega) (by omega) (by omega))) ?_
  refine zd1 ?_
  refine yE rfl rfl (zc rfl (Ge (ih x nx _ _ (JW hw hx) (Gv hw hx hs) (YJ nm r) (Qk hp) hn0 hn1))) (⟨.inl rfl,⟨.inl rfl,trivial⟩⟩) (trivial) ?_
  refine zd5 ?_
  refine RP.nil rfl ?_
  refine Q0 ?_
  refine zu1 ?_
  refine zt rfl (UK rfl Tryz.underlying43 rfl) ?_
  refine zon ?_
  refine Q2 rfl (fun h2=>?_) (fun h2=>?_)
  ·(try rw [h2]);replace h2:=zcl h2
   have hb:(twi g r x nx).2.2=false:=by simpa using h2
   refine zw3 ?_
   refine zrt ?_
   rw [Ue h1 hx hb,Q2x rfl]
   rw [hb]
   exact Xj (x:=.box [.int .i64 (twi g r x nx).2.1]) rfl hcl ⟨trivial,trivial⟩ ⟨trivial,Yq _ false,trivial⟩ (Q8 rfl)
  ·(try rw [h2]);replace h2:=zcl h2
   have hb:(twi g r x nx).2.2=true:=by simpa using h2
   rw [Q4V hb]
   refine Q1 ?_
   refine zu4 ?_
   refine zt rfl (zc rfl (G0 t ▸ Wx t (twi g r x nx).2.1 p σ hp ⟨by omega,by omega⟩ (by omega) (by omega))) ?_
   refine zv1 ?_
   refine zu6 ?_
   refine zt rfl (JU (p:=σ.length+2) rfl Tryz.underlying55 Tryz.sizeOf34 rfl rfl (by omega) (by omega) (by rw [ZJ];rfl)) ?_
   refine ztN rfl rfl (Gp (i:=tfk t nm false) rfl Tryz.sizeOf34 rfl rfl rfl rfl (by rw [Int.toNat_natCast,Nat.mul_one]) (by rw [ZJ];rfl) (by rw [Kl];exact hlt)) ?_
   rw [XN]
   refine zon ?_
   refine Q0 ?_
   refine Zj 0 10 2 0 1 0 t.ch.length rfl rfl rfl (tcs (t.ch.set (tfk t nm false) (twi g r x nx).1)) (by rw [Q2v,Nat.zero_mul,List.drop_zero,Nat.mul_one,List.take_of_length_le];rw [Kl,List.length_set];exact Nat.le_refl _) (Wb _) (by rw [X0,List.length_set]) (by decide) (by rw [List.length_set,Kl];omega) ?_
   refine Zj 0 9 1 0 1 0 t.ks.length rfl rfl rfl (ZC t.ks) (by rw [Nat.zero_mul,List.drop_zero,Nat.mul_one,List.take_of_length_le];rw [Yk];exact Nat.le_refl _) (JC _) (ZD _) (by decide) (by rw [Yk];omega) ?_
   refine QT 14 0 rfl rfl ?_ (by decide)
   refine Q4 ?_
   refine zv3 ?_
   refine zrt ?_
   rw [Fd h1 hx hb,G5]
   exact Zt (x:=.box [.int .i64 ((twi g r x nx).2.1+1)]) rfl hcl ⟨trivial,trivial⟩ ⟨by show AV.ltL _ [_,_,_,_,_,_,_,_,_,_,_];simp [AV.lt,AV.ltL],trivial,trivial⟩ (Q8 rfl)
end Lg
set_option maxRecDepth 20000
set_option maxHeartbeats 4000000
namespace Lg
open Go Go.Proofs Go.RowKit
variable [GLay]
theorem Qc6 (rows:List (List AV)) (row:List AV) (i p g:Nat) (σ:List AO) (hp:σ[p]? =some (.arr 1 g rows.flatten)) (hel:∀ r∈rows,r.length=1) (hrl:row.length=1) (hone:Zf rows.flatten=true) (hone2:Zf row=true) (hlt:∀ n,AV.ltLL n rows) (hlt2:∀ n,AV.ltL n row) (hi:i≤rows.length) (hn:rows.length≤1000000):ACalls Tryz.prog 104 [.arr p g 1 0 rows.length,.int .i64 (i:Int),.sl true 1 [row]] σ (Ret (.sl false 1 (rows.take i++row :: rows.drop i)) (σ.set p .dead)):=by
 refine Qc Tryz.func104 rfl Tryz.ntmps104 (XE Tryz.results104) (Nat.le_of_ble_eq_true rfl) (fun hcl hal=>?_)
 have hpl:=(List.getElem?_eq_some_iff.1 hp).1
 have h0i:0+((i:Int)).toNat=i:=by omega
 have h1i:0+((i:Int)+1).toNat=i+1:=by omega
 have h2i:0+Int.toNat 0+((i:Int)+1).toNat=i+1:=by omega
 have h3i:0+Int.toNat 0+((i:Int)).toNat=i:=by omega
 have hAl:(rows.take i).flatten.length=i * 1:=Wc hel hi
 have hR1:(row++[]).length=(List.replicate 1 AV.any).length:=by rw [List.append_nil,hrl,List.length_replicate]
 have hfl:rows.flatten.length=rows.length * 1:=QJ hel
 refine zw1 ?_
 refine zu2 ?_
 refine zt rfl (QC _ _ rfl Tryz.underlying55 Tryz.sizeOf34 rfl hp (by first|exact ⟨_,rfl⟩|rfl) (by first|exact ⟨_,rfl⟩|rfl) (by omega) (by omega) (by omega)) ?_
 refine zon ?_
 refine zu1 ?_
 refine zt rfl (ZZ rfl rfl Tryz.underlying55 rfl rfl trivial) ?_
 rw [show (([row].length:Nat):Int)=1 from rfl]
 refine zv1 ?_
 refine Q0 ?_
 refine zw2 ?_
 refine Qd rfl ?_
 refine Q1 ?_
 refine zu1 ?_
 refine zt rfl (ZZ rfl rfl Tryz.underlying55 rfl rfl ⟨_,_,hp⟩) ?_
 refine zv1 ?_
 refine Q0 ?_
 refine zw3 ?_
 refine Q2 rfl (fun h1=>?_) (fun h1=>?_)
 ·(try rw [h1]);replace h1:=zcl h1
  refine zu2 ?_
  refine zt rfl (KC (p:=p) (gg:=g) (off:=0) (len:=rows.length) (sz:=1) (m:=1) (cs:=row++[]) rfl (.inr ⟨_,rfl⟩) Tryz.underlying55 Tryz.underlying55 Tryz.type34 rfl rfl rfl (by decide) rfl hp (by rw [Nat.zero_add,hfl]) rfl rfl (by rw [List.append_nil];exact hone2) (by show (rows.length+1) * 8≤_;omega) (by omega) (by rw [List.append_nil,hrl])) ?_
  refine zv1 ?_
  refine Qn (σ':=σ.set p (.arr 1 (g+1) (rows++[row]).flatten)) (by rw [Nat.zero_mul,List.drop_zero,List.append_nil,List.flatten_append];simp) ?_
  refine ZN 6 p (g+1) 1 (rows.length+1) (rows++[row]) rfl (Qk hpl) (by rw [List.take_of_length_le (by rw [List.flatten_append,List.length_append,hfl];simp [hrl]<;>omega)]) (by have:=JP (i:=rows.length) hel hrl;rwa [Vv] at this) (by simp) (by decide) (by rw [List.flatten_append,List.length_append,hfl];simp [hrl]<;>omega) ?_ (by decide)
  have hie:i=rows.length:=by omega
  subst hie
  rw [List.set_set,Vv]
  refine zrt ?_
  exact Xj (x:=.dead) rfl hcl trivial (by have:=Ut (i:=rows.length) hlt hlt2 σ.length;rw [Vv] at this;exact this) (Q8 rfl)
 ·(try rw [h1]);replace h1:=zcl h1
  refine Q1 ?_
  refine Q0 ?_
  refine Q0 ?_
  refine Kr 0 p g 1 rows.length rfl hp hfl (by omega) (by decide) (by decide) (fun cap hcap=>?_)
  refine Q4 ?_
  refine zg4 ?_
  refine zt rfl (Q4s rfl rfl Tryz.underlying55 rfl (Qk hpl)) ?_
  refine zv1 ?_
  refine Q2 rfl (fun h2=>?_) (fun h2=>?_)
  ·(try rw [h2]);replace h2:=zcl h2
   refine zu2 ?_
   refine zt rfl (XU _ _ rfl Tryz.underlying55 Tryz.sizeOf34 rfl (Qk hpl) (by first|exact ⟨_,rfl⟩|rfl) (by first|exact ⟨_,rfl⟩|rfl) (by omega) (by omega) (by omega) (by omega)) ?_
   refine zg5 ?_
   rw [show ((rows.length:Int)+1 - (i:Int))=((rows.length+1 - i:Nat):Int) by omega]
   refine zt rfl (HD (sz:=1) (p:=p) (g:=g+1) (off:=0) (len:=i) (cap:=cap) (k:=rows.length+1 - i) rfl Tryz.underlying55 Tryz.underlying3 Tryz.type34 rfl rfl rfl rfl (Qk hpl) (by decide) (by omega) (by rw [List.length_append,hfl];omega) rfl (by omega) (by show (i+(rows.length+1 - i)) * 8≤_;omega) (by omega)) ?_
   rw [List.length_set]
   refine zv1 ?_
   refine Q0 ?_
   refine Qn (σ':=σ.set p (.arr 1 (g+1) (rows.flatten++List.replicate ((cap - rows.length) * 1) .any))++[.arr 1 0 ((rows.take i).flatten++(List.replicate 1 AV.any++List.replicate ((rows.length - i) * 1) AV.any))]) (by rw [Hq hel (by omega)]) ?_
   refine Zb 0 rfl (AVle.capA _ _ _ _ _ _) ?_ (by decide)
   have hcl1:((rows.take i).flatten++(List.replicate 1 AV.any++List.replicate ((rows.length - i) * 1) AV.any)).length=i * 1+(1+(rows.length - i) * 1):=by rw [List.length_append,List.length_append,hAl,List.length_replicate,List.length_replicate]
   refine Q4 ?_
   refine zg2 ?_
   refine zt rfl (QC _ _ rfl Tryz.underlying55 Tryz.sizeOf34 rfl Y5 (by first|exact ⟨_,rfl⟩|rfl) (by first|exact ⟨_,rfl⟩|rfl) (by omega) (by omega) (by omega)) ?_
   refine zg1 ?_
   refine zt rfl (YV (sz:=1) (m:=1) (n:=1) (ds:=row++[]) rfl Tryz.underlying55 Tryz.sizeOf34 rfl Y5 (by omega) (by decide) (by rw [hcl1];omega) rfl (GX rfl rfl) (by omega) (by rw [List.append_nil,hrl]) (by rw [List.append_nil];exact hone2)) ?_
   refine zon ?_
   refine Q0 ?_
   refine Qn (σ':=σ.set p (.arr 1 (g+1) (rows.flatten++List.replicate ((cap - rows.length) * 1) .any))++[.arr 1 0 ((rows.take i).flatten++((row++[])++List.replicate ((rows.length - i) * 1) AV.any))]) (by rw [Kh,h0i,cpy hAl hR1]) ?_
   have hcl2:((rows.take i).flatten++((row++[])++List.replicate ((rows.length - i) * 1) AV.any)).length=i * 1+(1+(rows.length - i) * 1):=by rw [List.length_append,List.length_append,hAl,List.length_replicate,List.append_nil,hrl]
   refine Qb #[0,0,0,6,15,0,0,96,255] Tryz.mixed (by decide +kernel) (by decide +kernel) ?_
   refine zd4 ?_
   refine yP rfl rfl (QC _ _ rfl Tryz.underlying55 Tryz.sizeOf34 rfl Y5 (by first|exact ⟨_,rfl⟩|rfl) (by first|exact ⟨_,rfl⟩|rfl) (by omega) (by omega) (by omega)) (trivial) ?_
   refine zd2 ?_
   refine yP rfl rfl (QC _ _ rfl Tryz.underlying55 Tryz.sizeOf34 rfl (JZ hpl) (by first|exact ⟨_,rfl⟩|rfl) (by first|exact ⟨_,rfl⟩|rfl) (by omega) (by omega) (by omega)) (trivial) ?_
   refine yE rfl rfl (YV (sz:=1) (n:=rows.length - i) (ds:=(rows.drop i).flatten) rfl Tryz.underlying55 Tryz.sizeOf34 rfl Y5 (by omega) (by decide) (by rw [hcl2];omega) rfl (Vl (JZ hpl) hel (by omega) hi (by omega) (by rw [List.length_append,hfl];omega)) (by omega) (Jm hel) (Jh i hone)) (⟨.inl rfl,⟨.inl rfl,trivial⟩⟩) (trivial) ?_
   refine RP.nil rfl ?_
   refine zw2 ?_
   have hfin:((rows.take i).flatten++((row++[])++(rows.drop i).flatten))=(rows.take i++row :: rows.drop i).flatten:=by rw [Wz,List.append_nil]
   have hfl2:(rows.take i++row :: rows.drop i).flatten.length=(rows.length+1) * 1:=by rw [QJ (JP hel hrl),JG hi]
   refine Qn (σ':=σ.set p (.arr 1 (g+1) (rows.flatten++List.replicate ((cap - rows.length) * 1) .any))++[.arr 1 0 (rows.take i++row :: rows.drop i).flatten]) (by rw [Kh,h1i,Qdq (by rw [hAl,List.append_nil,hrl];omega) (by rw [Jm hel,List.length_replicate]),hfin]) ?_
   refine ZN 6 σ.length 0 1 (i+(rows.length+1 - i)) (rows.take i++row :: rows.drop i) rfl Y5 (List.take_of_length_le (by rw [hfl2];omega)).symm (JP hel hrl) (by rw [JG hi];omega) (by decide) (by rw [hfl2];omega) ?_ (by decide)
   rw [Kh]
   refine ZN 0 p (g+1) 1 rows.length rows rfl (JZ hpl) (by rw [← hfl,List.take_left]) hel rfl (by decide) (by rw [List.length_append,hfl];omega) ?_ (by decide)
   rw [Q2s hpl]
   refine zrt ?_
   exact Zt (x:=.dead) rfl hcl trivial (Ut hlt hlt2 _) (Q8 rfl)
  ·(try rw [h2]);replace h2:=zcl h2
   refine Q1 ?_
   refine zu4 ?_
   refine zt rfl (XU _ _ rfl Tryz.underlying55 Tryz.sizeOf34 rfl (Qk hpl) (by first|exact ⟨_,rfl⟩|rfl) (by first|exact ⟨_,rfl⟩|rfl) (by omega) (by omega) (by omega) (by omega)) ?_
   refine zv1 ?_
   refine Q0 ?_
   refine zu5 ?_
   refine zt rfl (XU _ _ rfl Tryz.underlying55 Tryz.sizeOf34 rfl (Qk hpl) (by first|exact ⟨_,rfl⟩|rfl) (by first|exact ⟨_,rfl⟩|rfl) (by omega) (by omega) (by omega) (by omega)) ?_
   refine zt rfl (WL (tS:=55) (tR:=4) rfl Tryz.func152 (by kernel_rfl) (by kernel_rfl) (by kernel_rfl) (by kernel_rfl) Tryz.underlying55 Tryz.sizeOf34 rfl rfl (Qk hpl) (by decide) (by omega)) ?_
   refine zv1 ?_
   refine Qj rfl ?_
   refine Q0 ?_
   refine Zb 0 rfl (AVle.capA _ _ _ _ _ _) ?_ (by decide)
   have hroom:=HN (cap:=cap) hel (show i < rows.length by omega) (by omega)
   have hcl3:(rows.flatten++List.replicate ((cap - rows.length) * 1) AV.any).length=rows.length * 1+(cap - rows.length) * 1:=by rw [List.length_append,hfl,List.length_replicate]
   refine Qb #[0,0,0,6,15,0,0,96,255] Tryz.mixed (by decide +kernel) (by decide +kernel) ?_
   refine zd4 ?_
   refine yP rfl rfl (QC _ _ rfl Tryz.underlying55 Tryz.sizeOf34 rfl (Qk hpl) (by first|exact ⟨_,rfl⟩|rfl) (by first|exact ⟨_,rfl⟩|rfl) (by omega) (by omega) (by omega)) (trivial) ?_
   refine zd2 ?_
   refine yP rfl rfl (QC _ _ rfl Tryz.underlying55 Tryz.sizeOf34 rfl (Qk hpl) (by first|exact ⟨_,rfl⟩|rfl) (by first|exact ⟨_,rfl⟩|rfl) (by omega) (by omega) (by omega)) (trivial) ?_
   refine yE rfl rfl (YV (sz:=1) (n:=rows.length - i) (ds:=(rows.drop i).flatten) rfl Tryz.underlying55 Tryz.sizeOf34 rfl (Qk hpl) (by omega) (by decide) (by rw [hcl3];omega) rfl (Vl (Qk hpl) hel (by omega) hi (by omega) (by rw [hcl3];omega)) (by omega) (Jm hel) (Jh i hone)) (⟨.inl rfl,⟨.inl rfl,trivial⟩⟩) (trivial) ?_
   refine RP.nil rfl ?_
   refine Q0 ?_
   refine Qn (σ':=σ.set p (.arr 1 (g+1) ((rows.take i).flatten++(((rows.drop i).flatten++(List.replicate 1 AV.any++List.replicate ((cap - rows.length - 1) * 1) AV.any)).take 1++((rows.drop i).flatten++List.replicate ((cap - rows.length - 1) * 1) AV.any))))) (by rw [List.set_set,hroom,h2i,Q4O hAl]) ?_
   have hT:(row++[]).length=(((rows.drop i).flatten++(List.replicate 1 AV.any++List.replicate ((cap - rows.length - 1) * 1) AV.any)).take 1).length:=by rw [List.append_nil,hrl,List.length_take,List.length_append,List.length_append,List.length_replicate];omega
   have hcl4:((rows.take i).flatten++(((rows.drop i).flatten++(List.replicate 1 AV.any++List.replicate ((cap - rows.length - 1) * 1) AV.any)).take 1++((rows.drop i).flatten++List.replicate ((cap - rows.length - 1) * 1) AV.any))).length=i * 1+(1+((rows.length - i) * 1+(cap - rows.length - 1) * 1)):=by rw [List.length_append,List.length_append,List.length_append,←hT,hAl,Jm hel,List.length_replicate,List.append_nil,hrl]
   refine Q4 ?_
   refine zg2 ?_
   refine zt rfl (QC _ _ rfl Tryz.underlying55 Tryz.sizeOf34 rfl (Qk hpl) (by first|exact ⟨_,rfl⟩|rfl) (by first|exact ⟨_,rfl⟩|rfl) (by omega) (by omega) (by omega)) ?_
   refine zg1 ?_
   refine zt rfl (YV (sz:=1) (m:=1) (n:=1) (ds:=row++[]) rfl Tryz.underlying55 Tryz.sizeOf34 rfl (Qk hpl) (by omega) (by decide) (by rw [hcl4];omega) rfl (GX rfl rfl) (by omega) (by rw [List.append_nil,hrl]) (by rw [List.append_nil];exact hone2)) ?_
   refine zon ?_
   refine zw2 ?_
   have hfin:((rows.take i).flatten++((row++[])++((rows.drop i).flatten++List.replicate ((cap - rows.length - 1) * 1) AV.any)))=(rows.take i++row :: rows.drop i).flatten++List.replicate ((cap - rows.length - 1) * 1) AV.any:=by rw [Wz,List.append_nil];simp only [List.append_assoc]
   have hfl2:(rows.take i++row :: rows.drop i).flatten.length=(rows.length+1) * 1:=by rw [QJ (JP hel hrl),JG hi]
   refine Qn (σ':=σ.set p (.arr 1 (g+1) ((rows.take i++row :: rows.drop i).flatten++List.replicate ((cap - rows.length - 1) * 1) AV.any))) (by rw [List.set_set,h3i,cpy hAl hT,hfin]) ?_
   refine ZN 6 p (g+1) 1 _ (rows.take i++row :: rows.drop i) rfl (Qk hpl) (List.take_left' (by rw [hfl2];omega)).symm (JP hel hrl) (by rw [JG hi];omega) (by decide) (by rw [List.length_append,hfl2];omega) ?_ (by decide)
   rw [List.set_set]
   refine zrt ?_
   exact Xj (x:=.dead) rfl hcl trivial (Ut hlt hlt2 _) (Q8 rfl)
end Lg
