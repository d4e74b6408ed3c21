/- A part of the proof of The tree's Apply, and what the reference says of it: the same answer and the same tree.: Lt4 Lt5 Lr1 Lr2 Lr3 Lr4 Lr5 Lo1 Lr6 Lo2 Lo3 Ln9 Ln10 Ln11 Ln12 Le1 Le2 Le3 Le4 Le5 Le6 Lr7 Lr8 Le7 Le8 Le9 Le10 Le11 Le12 Le13 Le14 Lj1 Lj2 Lj3 Lj4 Lt6. -/
import Derived.Test.YtjfcfncgalmofaaGreatDoorT4
import Derived.Test.YtjfcfncgalmofaaGreatDoorT3
import Derived.Lib.SplitLaws
import Derived.Lib.ReplaceLaws
import Derived.Lib.Atoi
import Derived.Lib.SlTrimSet
set_option linter.unusedVariables false
set_option linter.unusedSimpArgs false
set_option linter.unusedSectionVars false
namespace Lg
open Go
section
variable {σ:List AO} {p q:Nat} {x y:AO}
theorem s2_p (h:p ≠ q) (hp:p < σ.length):((σ.set p x).set q y)[p]? =some x:=by
 rw [List.getElem?_set,if_neg (Ne.symm h),List.getElem?_set,if_pos rfl,if_pos hp]
theorem Qe3 (hq:q < σ.length):((σ.set p x).set q y)[q]? =some y:=by
 rw [List.getElem?_set,if_pos rfl,if_pos (by simpa using hq)]
theorem QaA (hp:σ[p]? =some x) (hq:σ[q]? =some y):(σ.set p x).set q y=σ:=by
 apply List.ext_getElem?
 intro k
 by_cases h1:q=k
 ·subst h1;rw [Qe3 (List.getElem?_eq_some_iff.1 hq).1,hq]
 ·rw [List.getElem?_set,if_neg h1]
  by_cases h2:p=k
  ·subst h2;rw [List.getElem?_set,if_pos rfl,if_pos (List.getElem?_eq_some_iff.1 hp).1,hp]
  ·rw [List.getElem?_set,if_neg h2]
theorem Yx {a b c d e:AO} (h:p ≠ q):((((σ.set p a).set q b).set p c).set q d).set p e=(σ.set p e).set q d:=by
 apply List.ext_getElem?
 intro k
 simp only [List.getElem?_set,List.length_set]
 by_cases h1:p=k
 ·subst h1;simp [Ne.symm h]
 ·by_cases h2:q=k
  ·subst h2;simp [h]
  ·simp [h1,h2]
theorem QcT {x' y':AO} (h:p ≠ q):(((σ.set p x).set q y).set p x').set q y'=(σ.set p x').set q y':=by
 apply List.ext_getElem?
 intro k
 simp only [List.getElem?_set,List.length_set]
 by_cases h1:p=k
 ·subst h1;simp [Ne.symm h]
 ·by_cases h2:q=k
  ·subst h2;simp [h]
  ·simp [h1,h2]
end
section
variable [GLay]
variable {σ:List AO} {p q:Nat} {x y:AO}
theorem Q68 (hc:closed σ.length σ) (hx:AV.ltL σ.length x.cells) (hy:AV.ltL σ.length y.cells):closed σ.length ((σ.set p x).set q y):=Xb (Xb hc hx) hy
theorem QbP {P:Program} {f:FuncId} {args:List AV} {v:AV} {l:List AO} (hp:p < σ.length) (hq:q < σ.length) (h:ACalls P f args (σ++l) (Ret v (((σ++l).set p x).set q y))):ACalls P f args (σ++l) (Ret v ((σ.set p x).set q y++l)):=by
 rwa [Q8E hp hq] at h
end
section
variable [GLay]
structure SP (v:JV) (id deep frm nw lst:Int) (M:List (Int×AV)) (p q:Nat) (σ:List AO):Prop where
 hp:σ[p]? =some (.box [.mapv q,.int .i64 frm,.int .i64 nw,.int .i64 lst])
 hq:σ[q]? =some (.map (Za M))
 key:∀ a∈M,a.1 < id
 ml:∀ k,∀ a∈M,a.2.lt k
 len:(M.length:Int)+Q6 v≤20000
 d0:0≤deep
 dd:deep+QZ v≤40
 i0:0≤id
 ib:id+Q6 v≤1000000000
 f:frm≤id
 n0:0≤nw
 nb:nw+Q6 v≤1000000
theorem SP.ne {v:JV} {id deep frm nw lst:Int} {M:List (Int×AV)} {p q:Nat} {σ:List AO} (h:SP v id deep frm nw lst M p q σ):p ≠ q:=fun e=>by
 have h1:=h.hp;have h2:=h.hq
 rw [e,h2] at h1;cases h1
theorem SP.kid {v:JV} {id deep frm nw lst ls:Int} {M:List (Int×AV)} {p q:Nat} {σ τ l:List AO} (h:SP v id deep frm nw lst M p q σ) {K:List JV} (hK:K1 v=K) {i:Nat} {x:JV} (hx:K[i]? =some x) (hd:QZ x+1≤QZ v)
  (hp:τ[p]? =some (.box [.mapv q,.int .i64 frm,.int .i64 (nw+Qm (K.take i)),.int .i64 ls])) (hq:τ[q]? =some (.map (Za (M++JM (K.take i) (id+1))))):
  SP x (id+1+Qm (K.take i)) (deep+1) frm (nw+Qm (K.take i)) ls (M++JM (K.take i) (id+1)) p q (τ++l):=by
 have h1:=Jo v
 rw [hK] at h1
 have h2:=ZA K (i+1)
 have h3:=YF K i x hx
 have h4:=Ze (K.take i)
 have h5:=UV (K.take i) (id+1)
 have:=h.len;have:=h.d0;have:=h.dd;have:=h.i0;have:=h.ib;have:=h.f;have:=h.n0;have:=h.nb
 refine ⟨QD hp,QD hq,fun a ha=>?_,fun k a ha=>?_,by rw [List.length_append];omega,by omega,by omega,by omega,by omega,by omega,by omega,by omega⟩
 ·rcases List.mem_append.1 ha with ha|ha
  ·have:=h.key a ha;omega
  ·have:=VE _ _ a ha;omega
 ·rcases List.mem_append.1 ha with ha|ha
  ·exact h.ml k a ha
  ·exact WZ k _ _ a ha
theorem SP.none {v:JV} {id deep frm nw lst:Int} {M:List (Int×AV)} {p q:Nat} {σ:List AO} (h:SP v id deep frm nw lst M p q σ) (K:List JV):Z9 (M++JM K (id+1)) id=none:=
 Q5v fun a ha e=>by
  rcases List.mem_append.1 ha with ha|ha
  ·have:=h.key a ha;omega
  ·have:=VE _ _ a ha;omega
theorem SP.lt {v:JV} {id deep frm nw lst:Int} {M:List (Int×AV)} {p q:Nat} {σ:List AO} (h:SP v id deep frm nw lst M p q σ) (k:Nat) (K:List JV):AV.ltL k (ZH (Za (M++JM K (id+1)))):=
 Wy k _ fun a ha=>by
  rcases List.mem_append.1 ha with ha|ha
  ·exact h.ml k a ha
  ·exact WZ k _ _ a ha
end
end Lg
namespace Lg
open Go
def ex16:ByteArray:=⟨#[91,49,93]⟩
theorem Q76:(Zp ex16).2.1=0:=by rw [Q2i (by decide)];decide +kernel
theorem Qc4:Q6 (Zp ex16).1=2∧(Zp ex16).1.l.length=1∧(Zp ex16).1.m.length=0:=by rw [Q2i (by decide)];decide +kernel
theorem Q9u [GLay]:jb (QW ex16).1∧Q6 (QW ex16).1=2∧(∃ x,(QW ex16).1.l=[x])∧(QW ex16).1.m=[]:=by
 have e:(QW ex16).1=(Zp ex16).1:=by
  unfold QW;rw [if_neg (show ¬2000 < ex16.size by decide),if_pos Q76]
 obtain ⟨h1,h2,h3⟩:=Qc4
 rw [e]
 exact ⟨(FV ex16 Q76).2.1,h1,List.length_eq_one_iff.1 h2,List.length_eq_zero_iff.1 h3⟩
section
variable [GLay] {P:Program} {σ l:List AO} {e:Env} {o:Oper} {f:FuncId} {args:List AV} {v:AV} {x y:AO}
theorem Q26 {T:TypeId} (n:Nat) (hn:l.length=n) (ho:o.op= .makeMap T none):AOp P (σ++l) e o (.mapv (σ.length+n)) (σ++(l++[.map []])):=by
 have:=Q3u (P:=P) (σ:=σ++l) (e:=e) ho
 rwa [List.length_append,hn,List.append_assoc] at this
theorem Q6M (j k:Nat) (h:ACalls P f args (σ++l) (Ret v (((σ++l).set (σ.length+j) x).set (σ.length+k) y))):ACalls P f args (σ++l) (Ret v (σ++(l.set j x).set k y)):=by
 rwa [KI,KI] at h
end
end Lg
namespace Lg
open Go
def pcs (c:UInt8):BL→List BL
 |[]=>[[]]
 |b :: l=>if b=c then [] :: pcs c l else match pcs c l with
  |[]=>[[b]]
  |p :: r=>(b :: p) :: r
theorem Q3y {c:UInt8}:∀ {l:BL},c∉l→pcs c l=[l]
 |[],_=>rfl
 |b :: l,h=>by
  have hb:¬b=c:=fun e=>h (by simp [e])
  rw [pcs,if_neg hb,Q3y (fun e=>h (by simp [e]))]
theorem Q0X {c:UInt8}:∀ {p:BL} (r:BL),c∉p→pcs c (p++c :: r)=p :: pcs c r
 |[],r,_=>by simp [pcs]
 |b :: p,r,h=>by
  have hb:¬b=c:=fun e=>h (by simp [e])
  rw [List.cons_append,pcs,if_neg hb,Q0X r (fun e=>h (by simp [e]))]
theorem Q1H (c:UInt8):∀ l:BL,c∉l∨∃ p r,l=p++c :: r∧c∉p
 |[]=>.inl (by simp)
 |b :: l=>by
  by_cases h:b=c
  ·subst h;exact .inr ⟨[],l,rfl,by simp⟩
  ·rcases Q1H c l with h1|⟨p,r,rfl,h1⟩
   ·exact .inl (by simp [Ne.symm h,h1])
   ·exact .inr ⟨b :: p,r,rfl,by simp [Ne.symm h,h1]⟩
end Lg
namespace Lg
open Go
def VQ (b:UInt8):BL:=if b=126 then [126,48] else if b=47 then [126,49] else [b]
def XB (s:BL):BL:=s.flatMap VQ
def pune:BL→BL
 |126 :: 48 :: r=>126 :: pune r
 |126 :: 49 :: r=>47 :: pune r
 |b :: r=>b :: pune r
 |[]=>[]
def okP (s:BL):Prop:=∀ i:Nat,s[i]? =some 126→s[i+1]? =some 48∨s[i+1]? =some 49
theorem YG {b:UInt8} {l:BL} (h:okP (b :: l)):okP l:=fun i hi=>h (i+1) hi
theorem Qcu {l:BL} (h:okP (126 :: l)):∃ r,l=48 :: r∨l=49 :: r:=by
 have:=h 0 rfl
 cases l with
 |nil=>simp at this
 |cons c r=>simp at this;rcases this with rfl|rfl;exact ⟨r,.inl rfl⟩;exact ⟨r,.inr rfl⟩
theorem GR:okP []:=fun i hi=>by simp at hi
theorem HC {b:UInt8} {l:BL} (hb:¬b=126) (h:okP l):okP (b :: l):=fun i hi=>by
 cases i with
 |zero=>simp at hi;exact absurd hi hb
 |succ i=>exact h i hi
theorem Q4m {c:UInt8} {l:BL} (hc:c=48∨c=49) (h:okP l):okP (126 :: c :: l):=fun i hi=>by
 cases i with
 |zero=>rcases hc with rfl|rfl;exact .inl rfl;exact .inr rfl
 |succ i=>exact HC (by rcases hc with rfl|rfl<;>decide) h i hi
theorem Q2F {b:UInt8} (hb:¬b=126) (l:BL):pune (b :: l)=b :: pune l:=by
 rw [pune.eq_def];split
 ·rename_i heq;exact absurd (List.cons.inj heq).1 hb
 ·rename_i heq;exact absurd (List.cons.inj heq).1 hb
 ·rename_i b' r' h1 h2 heq;obtain ⟨rfl,rfl⟩:=List.cons.inj heq;rfl
 ·rename_i heq;cases heq
theorem Q4n {M:BL→Prop} (h0:M []) (h1:∀ r,okP r→M r→M (126 :: 48 :: r)) (h2:∀ r,okP r→M r→M (126 :: 49 :: r)) (h3:∀ b r,¬b=126→okP r→M r→M (b :: r)):∀ (n:Nat) (l:BL),l.length≤n→okP l→M l:=by
 intro n
 induction n with
 |zero=>intro l hl _;obtain rfl:l=[]:=List.eq_nil_of_length_eq_zero (by omega);exact h0
 |succ n ih=>
  intro l hl h
  cases l with
  |nil=>exact h0
  |cons b r=>
   by_cases hb:b=126
   ·subst hb
    obtain ⟨t,rfl|rfl⟩:=Qcu h
    ·exact h1 t (YG (YG h)) (ih t (by simp at hl;omega) (YG (YG h)))
    ·exact h2 t (YG (YG h)) (ih t (by simp at hl;omega) (YG (YG h)))
   ·exact h3 b r hb (YG h) (ih r (by simp at hl;omega) (YG h))
theorem Wu (b:UInt8) (l:BL):XB (b :: l)=VQ b++XB l:=rfl
theorem Q55:∀ l:BL,pune (XB l)=l
 |[]=>rfl
 |b :: l=>by
  have ih:=Q55 l
  rw [Wu];unfold VQ
  by_cases h:b=126
  ·subst h;rw [if_pos rfl];show 126 :: pune (XB l)=_;rw [ih]
  ·rw [if_neg h]
   by_cases h2:b=47
   ·subst h2;rw [if_pos rfl];show 47 :: pune (XB l)=_;rw [ih]
   ·rw [if_neg h2];show pune (b :: XB l)=_;rw [Q2F h,ih]
theorem Q0w:∀ l:BL,(47:UInt8)∉XB l
 |[]=>by simp [XB]
 |b :: l=>by
  rw [Wu];intro h
  rcases List.mem_append.1 h with h|h
  ·unfold VQ at h;split at h
   ·simp at h
   ·split at h
    ·simp at h
    ·rename_i h2;simp at h;exact h2 h.symm
  ·exact Q0w l h
theorem Q21:∀ (l m:BL),okP m→okP (XB l++m)
 |[],m,h=>h
 |b :: l,m,h=>by
  have ih:=Q21 l m h
  rw [Wu,List.append_assoc];unfold VQ
  by_cases h1:b=126
  ·rw [if_pos h1];exact Q4m (.inl rfl) ih
  ·rw [if_neg h1]
   by_cases h2:b=47
   ·rw [if_pos h2];exact Q4m (.inr rfl) ih
   ·rw [if_neg h2];exact HC h1 ih
def shw (l:List BL):BL:=l.flatMap fun x=>47 :: XB x
theorem Ki (x:BL) (l:List BL):shw (x :: l)=47 :: (XB x++shw l):=by simp [shw]
theorem Q4p:∀ l:List BL,okP (shw l)
 |[]=>GR
 |x :: l=>by rw [Ki];exact HC (by decide) (Q21 x _ (Q4p l))
theorem Q4y (x:BL):∀ l:List BL,pcs 47 (XB x++shw l)=(x :: l).map XB
 |[]=>by rw [show shw []=[] from rfl,List.append_nil,Q3y (Q0w x)];rfl
 |y :: l=>by rw [Ki,Q0X _ (Q0w x),Q4y y l];rfl
theorem Q4o:∀ {p l:BL},okP (p++l)→okP l
 |[],_,h=>h
 |_ :: p,l,h=>Q4o (p:=p) (YG h)
theorem Qa1 {p r:BL} (h:okP (p++47 :: r)):okP p:=fun i hi=>by
 have hlt:=(List.getElem?_eq_some_iff.1 hi).1
 have h2:=h i (by rw [List.getElem?_append_left hlt];exact hi)
 by_cases e:i+1 < p.length
 ·rw [List.getElem?_append_left e] at h2;exact h2
 ·have e2:i+1=p.length:=by omega
  rw [e2,List.getElem?_append_right (Nat.le_refl _),Nat.sub_self] at h2
  simp at h2
theorem Q0Z (n:Nat):∀ l:BL,l.length≤n→okP l→∀ p∈pcs 47 l,okP p∧(47:UInt8)∉p∧p.length≤l.length:=by
 induction n with
 |zero=>intro l h _ p hp;obtain rfl:l=[]:=List.eq_nil_of_length_eq_zero (by omega);simp [pcs] at hp;subst hp;exact ⟨GR,by simp,by simp⟩
 |succ n ih=>
  intro l h hk p hp
  rcases Q1H 47 l with h1|⟨q,r,rfl,h1⟩
  ·rw [Q3y h1] at hp;simp at hp;subst hp;exact ⟨hk,h1,Nat.le_refl _⟩
  ·rw [Q0X r h1] at hp
   rcases List.mem_cons.1 hp with rfl|hp
   ·exact ⟨Qa1 hk,h1,by simp⟩
   ·obtain ⟨a,b,c⟩:=ih r (by simp at h;omega) (YG (Q4o hk)) p hp
    exact ⟨a,b,by simp;omega⟩
theorem Q8G (x:BL) (l:List BL):(pcs 47 (XB x++shw l)).map pune=x :: l:=by
 rw [Q4y,List.map_map]
 have:pune ∘ XB=id:=funext Q55
 rw [this,List.map_id]
theorem Q0v:∀ l:BL,(XB l).length≤2 * l.length
 |[]=>by simp [XB]
 |b :: l=>by
  have:=Q0v l
  rw [Wu,List.length_append,List.length_cons]
  have:(VQ b).length≤2:=by unfold VQ;split<;>(try split)<;>simp
  omega
end Lg
namespace Lg
open Go Go.RowKit
section
variable [GLay] {P:Program} {N:Nat} {σ l:List AO} {e:Env} {Q:QA} {o:Oper}
theorem JU {T E:TypeId} {x y:Operand} {sz p gg len:Nat} {k:IntKind} {n:Int} {cs:List AV} (ho:o.op= .indexAddr T x y) (hu:P.underlying T=some (.slice E))
  (hsz:∀ w,(Go.sizeOf E).run P w=Result.ok sz w) (hx:opO e x=some (.arr p gg sz 0 len)) (hy:opO e y=some (.int k n)) (h0:0≤n) (hlt:n < len) (hσ:σ[p]? =some (.arr sz gg cs)):AOp P σ e o (.pel p gg (n.toNat * sz)) σ:=
 .of_run fun s a hs g hv=>by
  subst hs
  have h1:=Qp hx ▸ hv x (by simp [ho,Op.operands])
  have h2:=(Qp hy ▸ hv y (by simp [ho,Op.operands])).inv_int
  rcases h1.inv_arr hσ with ⟨_,⟨ad,h3,h4⟩|⟨cap,h3,h4,h5⟩⟩
  ·omega
  ·refine ⟨_,by simp only [execOp,ho,h3,h2,Sem.run_bind];rw [JK (cap:=cap) hu hsz h0 hlt];rfl,?_⟩
   refine .pel _ _ _ _ rfl ?_
   unfold ArrAt
   rw [hσ]
   exact ⟨Nat.le_refl _,fun _=>by simp⟩
theorem Xo {T E:TypeId} {x y:Operand} {sz j gg len:Nat} {k:IntKind} {n:Int} {cs:List AV} (ho:o.op= .indexAddr T x y) (hu:P.underlying T=some (.slice E))
  (hsz:∀ w,(Go.sizeOf E).run P w=Result.ok sz w) (hx:opO e x=some (.arr (σ.length+j) gg sz 0 len)) (hy:opO e y=some (.int k n)) (h0:0≤n) (hlt:n < len) (hl:l[j]? =some (.arr sz gg cs)):AOp P (σ++l) e o (.pel (σ.length+j) gg (n.toNat * sz)) (σ++l):=
 JU ho hu hsz hx hy h0 hlt (by rw [Zz];exact hl)
theorem Wh {c:Code} (t k gg sz n:Nat) (es:List (List AV)) (hl:Zc e.l t=some (.arr (σ.length+k) gg sz 0 n)) (hk:l[k]? =some (.arr sz gg es.flatten)) (hel:∀ r∈es,r.length=sz) (hn:es.length=n) (hsz:sz ≠ 0) (h:AWp P N c (e.put (some t) (.sl false sz es)) (σ++l.set k .dead) Q) (ht:t < N):AWp P N c e (σ++l) Q:=by
 have hf:es.flatten.length=n * sz:=by rw [QJ hel,hn]
 exact VL t (σ.length+k) gg sz 0 n hl (by rw [Zz];exact hk) es (by rw [Nat.zero_mul,List.drop_zero,←hf,List.take_length]) hel hn hsz (by rw [hf,Nat.zero_add];exact Nat.le_refl _) (by rw [KI];exact h) ht
end
def Qy (l:List BL):List (List AV):=l.map fun x=>[AV.str (ba x)]
theorem Zd (l:List BL):(Qy l).length=l.length:=by simp [Qy]
theorem U0 {l:List BL} {i:Nat} {x:BL} (h:l[i]? =some x):(Qy l)[i]? =some [AV.str (ba x)]:=by simp [Qy,h]
theorem QaD (l:List BL):∀ r∈Qy l,r.length=1:=by
 intro r hr;simp [Qy] at hr;obtain ⟨x,_,rfl⟩:=hr;rfl
theorem UW (l:List BL):(Qy l).flatten=l.map fun x=>AV.str (ba x):=by
 induction l with
 |nil=>rfl
 |cons a r ih=>show [AV.str (ba a)]++(Qy r).flatten=_;rw [ih];rfl
@[simp] theorem U1 (m:Nat) (l:List BL):AV.ltLL m (Qy l):=by
 induction l with
 |nil=>simp [Qy,AV.ltLL]
 |cons a r ih=>simpa [Qy,AV.ltLL,AV.ltL,AV.lt] using ih
@[simp] theorem smap_lt (m:Nat) (l:List BL):AV.ltL m (l.map fun x=>AV.str (ba x)):=by
 induction l with
 |nil=>simp [AV.ltL]
 |cons a r ih=>simpa [AV.ltL,AV.lt] using ih
theorem Q8H (l:List BL) (x:BL):shw (l++[x])=shw l++47 :: XB x:=by simp [shw]
theorem Q4P (B:Nat):∀ l:List BL,(∀ x∈l,x.length≤B)→(shw l).length≤l.length * (2 * B+1)
 |[],_=>by simp [shw]
 |x :: l,h=>by
  have ih:=Q4P B l (fun y hy=>h y (by simp [hy]))
  have hx:=h x (by simp)
  have he:=Q0v x
  rw [Ki,List.length_cons,List.length_append,List.length_cons,Nat.add_mul]
  omega
def VK (s:BL) (i:Nat):Bool:=decide (s[i]? =some 126) && !(decide (s[i+1]? =some 48) || decide (s[i+1]? =some 49))
def pE (s:BL):Option Nat:=if s=[] then none else if ¬s[0]? =some 47 then some 0 else (List.range s.length).find? (VK s)
def pN (s:BL):List BL:=if s=[] then [] else if (pE s).isSome then [] else (pcs 47 (s.drop 1)).map pune
theorem QaM {s:BL} (h:∀ i,i < s.length→VK s i=false):okP s:=fun i hi=>by
 have:=h i (List.getElem?_eq_some_iff.1 hi).1
 unfold VK at this
 rw [decide_eq_true hi,Bool.true_and] at this
 by_cases h2:s[i+1]? =some 48
 ·exact .inl h2
 ·simp [h2] at this;exact .inr this
theorem Q7K {s:BL} (h:okP s) (i:Nat):VK s i=false:=by
 unfold VK
 by_cases hi:s[i]? =some 126
 ·rcases h i hi with h|h<;>simp [hi,h]
 ·simp [hi]
theorem Q4x {s:BL} (h0:¬s=[]) (h1:s[0]? =some 47) (h:∀ i,i < s.length→VK s i=false):pE s=none:=by
 unfold pE;rw [if_neg h0,if_neg (by simp [h1])]
 exact List.find?_eq_none.2 fun i hi=>by simp [h i (List.mem_range.1 hi)]
theorem Qbi {s:BL} (h0:¬s=[]) (h1:s[0]? =some 47) {i:Nat} (hi:i < s.length) (h:VK s i=true) (hb:∀ j,j < i→VK s j=false):pE s=some i:=by
 unfold pE;rw [if_neg h0,if_neg (by simp [h1])]
 exact List.find?_range_eq_some.2 ⟨h,List.mem_range.2 hi,fun j hj=>by simp [hb j hj]⟩
theorem QdK {s:BL} (h0:¬s=[]) (h:pE s=none):s[0]? =some 47∧okP s:=by
 unfold pE at h;rw [if_neg h0] at h
 split at h
 ·cases h
 ·rename_i h1
  refine ⟨by simpa using h1,QaM fun i hi=>?_⟩
  have:=List.find?_eq_none.1 h i (List.mem_range.2 hi)
  simpa using this
theorem Q88 (l:List BL):pE (shw l)=none∧pN (shw l)=l:=by
 cases l with
 |nil=>exact ⟨rfl,rfl⟩
 |cons x r=>
  have hne:¬shw (x :: r)=[]:=by rw [Ki];simp
  have hE:pE (shw (x :: r))=none:=Q4x hne (by rw [Ki];rfl) (fun i _=>Q7K (Q4p _) i)
  refine ⟨hE,?_⟩
  unfold pN;rw [if_neg hne,hE]
  rw [Ki]
  exact Q8G x r
end Lg
namespace Lg
open Go
theorem Hp {s:BL} {i:Nat} {c:UInt8} (hi:i < s.length):s[i]? =some c↔((bat (ba s) i).toNat:Int)=c.toNat:=by
 rw [Un,List.getElem?_eq_getElem hi,List.getD_eq_getElem?_getD,List.getElem?_eq_getElem hi]
 simp only [Option.getD_some,Option.some.injEq]
 constructor
 ·intro h;rw [h]
 ·intro h;exact UInt8.toNat_inj.1 (by omega)
theorem Qc5 {s:BL} {i:Nat} (hi:i < s.length):s[i]? =some 126↔((bat (ba s) i).toNat:Int)=126:=Hp (c:=126) hi
theorem g48 {s:BL} {i:Nat} (hi:i < s.length):s[i]? =some 48↔((bat (ba s) i).toNat:Int)=48:=Hp (c:=48) hi
theorem g49 {s:BL} {i:Nat} (hi:i < s.length):s[i]? =some 49↔((bat (ba s) i).toNat:Int)=49:=Hp (c:=49) hi
theorem g47 {s:BL} {i:Nat} (hi:i < s.length):s[i]? =some 47↔((bat (ba s) i).toNat:Int)=47:=Hp (c:=47) hi
theorem Q8Q {s:BL} {i:Nat} (hi:i < s.length) (h:((bat (ba s) i).toNat:Int)=126) (h2:i+1=s.length∨(¬((bat (ba s) (i+1)).toNat:Int)=48∧¬((bat (ba s) (i+1)).toNat:Int)=49)):VK s i=true:=by
 unfold VK
 rw [decide_eq_true ((Qc5 hi).2 h),Bool.true_and]
 by_cases hl:i+1 < s.length
 ·obtain ⟨h3,h4⟩:=h2.resolve_left (by omega)
  rw [decide_eq_false (fun e=>h3 ((g48 hl).1 e)),decide_eq_false (fun e=>h4 ((g49 hl).1 e))];rfl
 ·rw [List.getElem?_eq_none (by omega)];rfl
end Lg
namespace Lg
open Go Go.RowKit
variable [GLay] {P:Program} {N:Nat} {σ l:List AO} {e:Env} {Q:QA} {o:Oper}
theorem Q1e (v:AV):∀ (i:Nat) (cs:List AV),i < cs.length→spl i cs [v]=some (cs.set i v)
 |0,[],h=>by simp at h
 |0,c :: cs,_=>by simp [spl,VS]
 |i+1,[],h=>by simp at h
 |i+1,c :: cs,h=>by simp [spl,Q1e v i cs (by simpa using h)]
theorem Q3b {j g sz off i:Nat} {cs:List AV} {v:AV} (hl:l[j]? =some (.arr sz g cs)) (hv:cs[i]? =some v) (ho:off=i):ldv (σ++l) 1 (.pel (σ.length+j) g off)=some [v]:=by
 subst ho
 simp only [ldv,Zz,hl,if_true]
 have hi:=(List.getElem?_eq_some_iff.1 hv).1
 rw [List.drop_eq_getElem_cons hi,(List.getElem?_eq_some_iff.1 hv).2]
 rfl
theorem W5 {T:TypeId} {x y:Operand} {j g sz off i:Nat} {cs:List AV} {b:ByteArray} (ho:o.op= .store T x y) (hz:∀ w,(Go.sizeOf T).run P w=Result.ok 1 w) (hy:opO e y=some (.str b)) (hx:opO e x=some (.pel (σ.length+j) g off)) (hoff:off=i)
  (hl:l[j]? =some (.arr sz g cs)) (hi:i < cs.length):AOp P (σ++l) e o .any (σ++l.set j (.arr sz g (cs.set i (.str b)))):=by
 subst hoff
 have e1:=Qp hy
 have:=WM (P:=P) (σ:=σ++l) (e:=e) (p:=σ.length+j) (O:=.arr sz g (cs.set off (.str b))) ho hz (by rw [e1];rfl) (by rw [e1];rfl) (by
  rw [e1,Qp hx]
  show stv (σ++l) [.str b] (.pel (σ.length+j) g off)=_
  simp only [stv,Zz,hl,if_true,Q1e _ _ _ hi,Option.map_some]) (by decide)
 rwa [KI] at this
end Lg
namespace Lg
open Go
theorem Q0Y (c:UInt8):∀ l:BL,(pcs c l).length≤l.length+1
 |[]=>by simp [pcs]
 |b :: l=>by
  have ih:=Q0Y c l
  unfold pcs
  split
  ·simp only [List.length_cons];omega
  ·split
   ·simp
   ·rename_i p r h;rw [h] at ih;simp only [List.length_cons] at ih ⊢;omega
end Lg
namespace Lg
open Go
end Lg
namespace Lg
open Go
theorem Q2d (l:BL) (h:okP l):(pune l).length≤l.length:=by
 refine Q4n (M:=fun l=>(pune l).length≤l.length) (Nat.le_refl _) ?_ ?_ ?_ l.length l (Nat.le_refl _) h
 ·intro r _ ih;show (126 :: pune r).length≤_;simp only [List.length_cons];omega
 ·intro r _ ih;show (47 :: pune r).length≤_;simp only [List.length_cons];omega
 ·intro b r hb _ ih;rw [Q2F hb];simp only [List.length_cons];omega
theorem Q87 {s:BL} (h:pE s=none):(pN s).length≤s.length+1∧∀ x∈pN s,x.length≤s.length:=by
 by_cases h0:s=[]
 ·subst h0;exact ⟨Nat.zero_le _,fun x hx=>by simp [pN] at hx⟩
 ·obtain ⟨h1,h2⟩:=QdK h0 h
  have ht:okP (s.drop 1):=by cases s with|nil=>exact absurd rfl h0|cons b r=>exact YG h2
  have hl:=Q0Y 47 (s.drop 1)
  have hd:(s.drop 1).length≤s.length:=by rw [List.length_drop];omega
  unfold pN;rw [if_neg h0,h]
  refine ⟨by simp only [Option.isSome_none,Bool.false_eq_true,if_false,List.length_map];omega,fun x hx=>?_⟩
  simp only [Option.isSome_none,Bool.false_eq_true,if_false,List.mem_map] at hx
  obtain ⟨p,hp,rfl⟩:=hx
  obtain ⟨a,b,c⟩:=Q0Z _ (s.drop 1) (Nat.le_refl _) ht p hp
  have:=Q2d p a
  omega
variable [GLay] {P:Program} {σ:List AO}
end Lg
namespace Lg
open Go
theorem Ji (c:UInt8):∀ l:BL,∃ ps p,pcs c l=ps++[p]
 |[]=>⟨[],[],rfl⟩
 |b :: l=>by
  obtain ⟨ps,p,h⟩:=Ji c l
  unfold pcs
  split
  ·exact ⟨[] :: ps,p,by rw [h];rfl⟩
  ·rw [h]
   cases ps with
   |nil=>exact ⟨[],b :: p,rfl⟩
   |cons q r=>exact ⟨(b :: q) :: r,p,rfl⟩
theorem HJ (c:UInt8):∀ l:BL,pcs c (l++[c])=pcs c l++[[]]
 |[]=>by simp [pcs]
 |b :: l=>by
  rw [List.cons_append,pcs,pcs,HJ c l]
  split
  ·rfl
  ·obtain ⟨ps,p,h⟩:=Ji c l
   rw [h]
   cases ps with
   |nil=>rfl
   |cons q r=>rfl
theorem WN {b c:UInt8} (hb:¬b=c):∀ {l:BL} {ps:List BL} {p:BL},pcs c l=ps++[p]→pcs c (l++[b])=ps++[p++[b]]
 |[],ps,p,h=>by
  have:ps=[]∧p=[]:=by
   rw [pcs] at h
   cases ps with
   |nil=>simp at h;exact ⟨rfl,h⟩
   |cons q r=>simp at h
  obtain ⟨rfl,rfl⟩:=this
  simp [pcs,hb]
 |a :: l,ps,p,h=>by
  obtain ⟨qs,q,hq⟩:=Ji c l
  have ih:=WN hb hq
  rw [List.cons_append,pcs,ih]
  rw [pcs,hq] at h
  split at h
  ·rename_i e
   rw [if_pos e]
   have h2:([] :: qs)++[q]=ps++[p]:=h
   obtain ⟨h3,h4⟩:=List.append_inj' h2 rfl
   subst h3;simp at h4;subst h4;rfl
  ·rename_i e
   rw [if_neg e]
   cases qs with
   |nil=>
    have h2:[]++[a :: q]=ps++[p]:=h
    obtain ⟨h3,h4⟩:=List.append_inj' h2 rfl
    subst h3;simp at h4;subst h4;rfl
   |cons r rs=>
    have h2:((a :: r) :: rs)++[q]=ps++[p]:=h
    obtain ⟨h3,h4⟩:=List.append_inj' h2 rfl
    subst h3;simp at h4;subst h4;rfl
theorem Q2c (m:BL):∀ (n:Nat) (l:BL),l.length≤n→okP l→pune (l++m)=pune l++pune m:=
 Q4n (M:=fun l=>pune (l++m)=pune l++pune m) rfl
  (fun r _ ih=>by simp only [List.cons_append,pune,ih]) (fun r _ ih=>by simp only [List.cons_append,pune,ih])
  (fun b r hb _ ih=>by rw [List.cons_append,Q2F hb,Q2F hb,ih];rfl)
def nms (u:BL):List BL:=(pcs 47 u).map pune
theorem Q5J (u:BL):∃ ps p,nms u=ps++[p]:=by
 obtain ⟨ps,p,h⟩:=Ji 47 u
 exact ⟨ps.map pune,pune p,by simp [nms,h]⟩
theorem QdF (u:BL):nms (u++[47])=nms u++[[]]:=by
 unfold nms;rw [HJ];simp [pune]
theorem QdE {u:BL} {ps:List BL} {p:BL} {b:UInt8} (h:nms u=ps++[p]) (hu:okP u) (h7:¬b=47) (h126:¬b=126):nms (u++[b])=ps++[p++[b]]:=by
 obtain ⟨qs,q,hq⟩:=Ji 47 u
 have hok:=Q0Z u.length u (Nat.le_refl _) hu q (by rw [hq];simp)
 unfold nms at h ⊢
 rw [WN h7 hq]
 rw [hq,List.map_append] at h
 obtain ⟨h1,h2⟩:=List.append_inj' h rfl
 simp at h2;subst h1;subst h2
 rw [List.map_append,List.map_cons,List.map_nil,Q2c [b] _ q (Nat.le_refl _) hok.1]
 rw [Q2F h126];rfl
theorem QdG {u:BL} {ps:List BL} {p:BL} {b:UInt8} (h:nms u=ps++[p]) (hu:okP u) (hb:b=48∨b=49):nms (u++[126,b])=ps++[p++[if b=49 then 47 else 126]]:=by
 obtain ⟨qs,q,hq⟩:=Ji 47 u
 have hok:=Q0Z u.length u (Nat.le_refl _) hu q (by rw [hq];simp)
 have h1:=WN (b:=126) (c:=47) (by decide) hq
 have h2:=WN (b:=b) (c:=47) (by rcases hb with rfl|rfl<;>decide) h1
 rw [show u++[126,b]=u++[126]++[b] by simp]
 unfold nms at h ⊢
 rw [h2]
 rw [hq,List.map_append] at h
 obtain ⟨h3,h4⟩:=List.append_inj' h rfl
 simp at h4;subst h3;subst h4
 rw [List.map_append,List.map_cons,List.map_nil,show q++[126]++[b]=q++[126,b] by simp,Q2c [126,b] _ q (Nat.le_refl _) hok.1]
 rcases hb with rfl|rfl<;>rfl
theorem Q22 {u:BL} {b:UInt8} (h:okP u) (hb:¬b=126):okP (u++[b]):=fun i hi=>by
 rcases Nat.lt_trichotomy i u.length with h1|h1|h1
 ·rw [List.getElem?_append_left h1] at hi
  have:=h i hi
  have h2:i+1 < u.length:=by
   rcases this with h|h<;>exact (List.getElem?_eq_some_iff.1 h).1
  rwa [List.getElem?_append_left h2]
 ·subst h1;simp at hi;exact absurd hi hb
 ·rw [List.getElem?_append_right (by omega)] at hi
  have:i - u.length=(i - u.length - 1)+1:=by omega
  rw [this] at hi;simp at hi
theorem Q5M {u:BL} {b:UInt8} (h:okP u) (hb:b=48∨b=49):okP (u++[126,b]):=fun i hi=>by
 rcases Nat.lt_trichotomy i u.length with h1|h1|h1
 ·rw [List.getElem?_append_left h1] at hi
  have:=h i hi
  have h2:i+1 < u.length:=by
   rcases this with h|h<;>exact (List.getElem?_eq_some_iff.1 h).1
  rwa [List.getElem?_append_left h2]
 ·subst h1
  rw [List.getElem?_append_right (by omega),Nat.add_sub_cancel_left]
  rcases hb with rfl|rfl<;>simp
 ·rw [List.getElem?_append_right (by omega)] at hi
  obtain ⟨k,hk⟩:∃ k,i - u.length=k+1:=⟨i - u.length - 1,by omega⟩
  rw [hk] at hi
  cases k with
  |zero=>simp at hi;rcases hb with rfl|rfl<;>cases hi
  |succ k=>simp at hi
theorem UZ {s:BL} {i:Nat} {b:UInt8} (h:s[i]? =some b) (hi:1≤i):(s.take (i+1)).drop 1=(s.take i).drop 1++[b]:=by
 rw [List.take_add_one,h]
 have hl:=(List.getElem?_eq_some_iff.1 h).1
 rw [List.drop_append_of_le_length (by rw [List.length_take];omega)];rfl
theorem Q8N {s:BL} {i:Nat} {a b:UInt8} (h:s[i]? =some a) (h2:s[i+1]? =some b) (hi:1≤i):(s.take (i+1+1)).drop 1=(s.take i).drop 1++[a,b]:=by
 rw [UZ h2 (by omega),UZ h hi];simp
structure PAt (s:BL) (i:Nat) (L:List BL):Prop where
 le:i≤s.length
 z:i=0→L=[]
 ok:okP ((s.take i).drop 1)
 nm:1≤i→L=nms ((s.take i).drop 1)
 bad:∀ j,j < i→VK s j=false
theorem PAt.zero (s:BL):PAt s 0 []:=⟨Nat.zero_le _,fun _=>rfl,GR,fun h=>absurd h (by omega),fun j h=>absurd h (by omega)⟩
theorem Q8P {s:BL} {i:Nat} {b:UInt8} (h:s[i]? =some b) (hb:¬b=126):VK s i=false:=by
 unfold VK;rw [decide_eq_false (by rw [h];simpa using hb)];rfl
theorem PAt.slash {s:BL} {i:Nat} {L:List BL} (p:PAt s i L) (h:s[i]? =some 47):PAt s (i+1) (L++[[]]) where
 le:=(List.getElem?_eq_some_iff.1 h).1
 z:=fun e=>absurd e (by omega)
 ok:=by
  by_cases h0:i=0
  ·subst h0;rw [List.drop_eq_nil_of_le (by simp [List.length_take];omega)];exact GR
  ·rw [UZ h (by omega)];exact Q22 p.ok (by decide)
 nm:=fun _=>by
  by_cases h0:i=0
  ·subst h0;rw [p.z rfl,List.drop_eq_nil_of_le (by simp [List.length_take];omega)];rfl
  ·rw [UZ h (by omega),QdF,←p.nm (by omega)]
 bad:=fun j hj=>by
  by_cases e:j=i
  ·subst e;exact Q8P h (by decide)
  ·exact p.bad j (by omega)
theorem PAt.byte {s:BL} {i:Nat} {L ps:List BL} {q:BL} {b:UInt8} (p:PAt s i L) (hi:1≤i) (hL:L=ps++[q]) (h:s[i]? =some b) (h7:¬b=47) (h126:¬b=126):PAt s (i+1) (ps++[q++[b]]) where
 le:=(List.getElem?_eq_some_iff.1 h).1
 z:=fun e=>absurd e (by omega)
 ok:=by rw [UZ h hi];exact Q22 p.ok h126
 nm:=fun _=>by rw [UZ h hi];exact (QdE ((p.nm hi).symm.trans hL) p.ok h7 h126).symm
 bad:=fun j hj=>by
  by_cases e:j=i
  ·subst e;exact Q8P h h126
  ·exact p.bad j (by omega)
theorem PAt.esc {s:BL} {i:Nat} {L ps:List BL} {q:BL} {b:UInt8} (p:PAt s i L) (hi:1≤i) (hL:L=ps++[q]) (h:s[i]? =some 126) (h2:s[i+1]? =some b) (hb:b=48∨b=49):PAt s (i+1+1) (ps++[q++[if b=49 then 47 else 126]]) where
 le:=(List.getElem?_eq_some_iff.1 h2).1
 z:=fun e=>absurd e (by omega)
 ok:=by rw [Q8N h h2 hi];exact Q5M p.ok hb
 nm:=fun _=>by rw [Q8N h h2 hi];exact (QdG ((p.nm hi).symm.trans hL) p.ok hb).symm
 bad:=fun j hj=>by
  by_cases e:j=i
  ·subst e;unfold VK;rw [h2];rcases hb with rfl|rfl<;>simp
  ·by_cases e2:j=i+1
   ·subst e2;exact Q8P h2 (by rcases hb with rfl|rfl<;>decide)
   ·exact p.bad j (by omega)
theorem PAt.done {s:BL} {L:List BL} (p:PAt s s.length L) (h0:¬s=[]) (h1:s[0]? =some 47):pE s=none∧pN s=L:=by
 have hl:1≤s.length:=List.length_pos_iff.2 h0
 have hE:pE s=none:=Q4x h0 h1 p.bad
 refine ⟨hE,?_⟩
 rw [p.nm hl]
 unfold pN;rw [if_neg h0,hE,List.take_length];rfl
theorem PAt.last {s:BL} {i:Nat} {L:List BL} (p:PAt s i L) (hi:1≤i):∃ ps q,L=ps++[q]:=by
 obtain ⟨ps,q,h⟩:=Q5J ((s.take i).drop 1)
 exact ⟨ps,q,(p.nm hi).trans h⟩
theorem PAt.len {s:BL} {i:Nat} {L:List BL} (p:PAt s i L):L.length≤i+1:=by
 by_cases h0:i=0
 ·rw [p.z h0];simp
 ·rw [p.nm (by omega)];unfold nms;rw [List.length_map]
  have:=Q0Y 47 ((s.take i).drop 1)
  rw [List.length_drop,List.length_take] at this;omega
theorem PAt.el {s:BL} {i:Nat} {L:List BL} (p:PAt s i L):∀ x∈L,x.length≤i:=by
 intro x hx
 by_cases h0:i=0
 ·rw [p.z h0] at hx;cases hx
 ·rw [p.nm (by omega)] at hx
  unfold nms at hx
  obtain ⟨y,hy,rfl⟩:=List.mem_map.1 hx
  have h1:=Q0Z _ _ (Nat.le_refl _) p.ok y hy
  have:=Q2d y h1.1
  have h2:=h1.2.2
  rw [List.length_drop,List.length_take] at h2;omega
end Lg
namespace Lg
open Go
structure JOp where
 op:Int
 pa:List BL
 fr:List BL
 v:JV
def XM (o:JOp):List AV:=.int .i64 o.op :: .sl false 1 (Qy o.pa) :: .sl false 1 (Qy o.fr) :: Qf o.v
def ZP (l:List JOp):List (List AV):=l.map XM
theorem QP (o:JOp):XM o=[.int .i64 o.op,.sl false 1 (Qy o.pa),.sl false 1 (Qy o.fr),.int .i64 o.v.kind,.bool o.v.b,.bool o.v.n.neg,.str o.v.n.digits,.int .i64 o.v.n.exp,.str o.v.s,.sl false 8 (Q7 o.v.l),.sl false 9 (Q5 o.v.m)]:=by
 rw [XM,Q3]
theorem Q3k (o:JOp):(XM o).length=11:=by rw [QP];rfl
theorem K9 (l:List JOp):(ZP l).length=l.length:=by simp [ZP]
theorem UN {l:List JOp} {i:Nat} {x:JOp} (h:l[i]? =some x):(ZP l)[i]? =some (XM x):=by simp [ZP,h]
theorem Q2b (l:List JOp):∀ r∈ZP l,r.length=11:=by
 intro r hr;simp [ZP] at hr;obtain ⟨x,_,rfl⟩:=hr;exact Q3k x
theorem Q5L [GLay] (l:List JOp):(ZP l).flatten.length=l.length * 11:=by rw [QJ (Q2b l),K9]
theorem Q3x (l:List JOp) (x:JOp):(ZP (l++[x])).flatten=(ZP l).flatten++XM x:=by simp [ZP]
section
variable [GLay]
@[simp] theorem Q5K (n:Nat) (o:JOp):AV.ltL n (XM o):=by
 rw [XM];exact ⟨trivial,U1 n _,U1 n _,Jk n _⟩
@[simp] theorem Q85 (n:Nat) (l:List JOp):AV.ltLL n (ZP l):=by
 rw [AV.ltLL_iff];intro e he;simp [ZP] at he;obtain ⟨x,_,rfl⟩:=he;exact Q5K n x
@[simp] theorem QdH (n:Nat) (l:List JOp):AV.ltL n (ZP l).flatten:=by
 rw [AV.ltL_iff];intro a ha
 obtain ⟨e,he,h⟩:=List.mem_flatten.1 ha
 exact (AV.ltL_iff _ _).1 ((AV.ltLL_iff _ _).1 (Q85 n l) e he) a h
end
def bOp:ByteArray:=⟨#[111,112]⟩
def XG:ByteArray:=⟨#[112,97,116,104]⟩
def YR:ByteArray:=⟨#[102,114,111,109]⟩
def YZ:ByteArray:=⟨#[118,97,108,117,101]⟩
def opL:List (ByteArray×Int):=[(⟨#[97,100,100]⟩,1),(⟨#[114,101,109,111,118,101]⟩,2),(⟨#[114,101,112,108,97,99,101]⟩,3),(⟨#[109,111,118,101]⟩,4),(⟨#[99,111,112,121]⟩,5),(⟨#[116,101,115,116]⟩,6)]
def opn (s:ByteArray):Int:=((opL.find? fun q=>decide (s=q.1)).map (·.2)).getD 0
def jfD (v:JV) (key:ByteArray):JV:=(Z7 v key).getD vz
def jfB (v:JV) (key:ByteArray):Bool:=(Z7 v key).isSome
def Yz (v:JV) (key:ByteArray):List BL:=if jfB v key=true∧(jfD v key).kind=3 then pN (jfD v key).s.data.toList else []
def KV (v:JV) (key:ByteArray):Bool:=jfB v key && decide ((jfD v key).kind=3) && (pE (jfD v key).s.data.toList).isNone
def Xn (v:JV):Int:=if jfB v bOp=true∧(jfD v bOp).kind=3 then opn (jfD v bOp).s else 0
def jop (v:JV):Option JOp:=
 if Xn v=0 then none else
 if KV v XG=false then none else
 if Xn v=4∨Xn v=5 then (if KV v YR=true then some ⟨Xn v,Yz v XG,Yz v YR,vz⟩ else none) else
 if Xn v=2 then some ⟨2,Yz v XG,[],vz⟩ else
 if jfB v YZ=true then some ⟨Xn v,Yz v XG,[],jfD v YZ⟩ else none
def YU:List JV→Option (List JOp)
 |[]=>some []
 |x :: r=>match jop x with
  |none=>none
  |some o=>(YU r).map (o :: ·)
theorem Q5y {l:List JV} {os:List JOp} {x:JV} (h:YU l=some os):YU (l++[x])=(jop x).map fun o=>os++[o]:=by
 induction l generalizing os with
 |nil=>simp [YU] at h;subst h;simp only [List.nil_append,YU];cases jop x<;>simp
 |cons a r ih=>
  rw [List.cons_append,YU]
  rw [YU] at h
  cases ha:jop a with
  |none=>rw [ha] at h;cases h
  |some o=>
   rw [ha] at h
   simp only [Option.map_eq_some_iff] at h
   obtain ⟨os',h1,rfl⟩:=h
   rw [ih h1]
   cases jop x<;>simp
theorem Q1S {l:List JV} {os:List JOp} (h:YU l=some os):os.length=l.length:=by
 induction l generalizing os with
 |nil=>simp [YU] at h;subst h;rfl
 |cons a r ih=>
  rw [YU] at h
  cases ha:jop a with
  |none=>rw [ha] at h;cases h
  |some o=>
   rw [ha] at h
   simp only [Option.map_eq_some_iff] at h
   obtain ⟨os',h1,rfl⟩:=h
   simp [ih h1]
theorem Q7p {l:List JV} {os:List JOp} (h:YU l=some os) {i:Nat} {x:JV} (hx:l[i]? =some x):∃ o,jop x=some o∧os[i]? =some o:=by
 induction l generalizing os i with
 |nil=>simp at hx
 |cons a r ih=>
  rw [YU] at h
  cases ha:jop a with
  |none=>rw [ha] at h;cases h
  |some o=>
   rw [ha] at h
   simp only [Option.map_eq_some_iff] at h
   obtain ⟨os',h1,rfl⟩:=h
   cases i with
   |zero=>simp at hx;subst hx;exact ⟨o,ha,rfl⟩
   |succ i=>simpa using ih h1 (by simpa using hx)
theorem Q5x {l:List JV} {i:Nat} {x:JV} (hx:l[i]? =some x) (h:jop x=none):YU l=none:=by
 induction l generalizing i with
 |nil=>simp at hx
 |cons a r ih=>
  rw [YU]
  cases i with
  |zero=>simp at hx;subst hx;rw [h]
  |succ i=>
   rw [ih (by simpa using hx)]
   cases jop a<;>rfl
def Q7e (l:List JV):Nat:=(l.takeWhile fun x=>(jop x).isSome).length
def Uv (v:JV):Int:=if ¬v.kind=4 then 1 else if 100 < v.l.length then 5 else if (YU v.l).isNone then 1 else 0
def Q0E (v:JV):Int:=if ¬v.kind=4 then 0 else if 100 < v.l.length then 100 else if (YU v.l).isNone then (Q7e v.l:Int) else 0
def jrd (v:JV):List JOp:=if ¬v.kind=4 then [] else if 100 < v.l.length then [] else (YU v.l).getD []
theorem Q9y {l:List JV} {i:Nat} {x:JV} {os:List JOp} (h:YU (l.take i)=some os) (hx:l[i]? =some x) (hn:jop x=none):Q7e l=i:=by
 have hi:=(List.getElem?_eq_some_iff.1 hx).1
 have e:l=l.take i++(x :: l.drop (i+1)):=by
  have h0:l.drop i=x :: l.drop (i+1):=by
   rw [List.drop_eq_getElem_cons hi];congr 1
   have:=List.getElem?_eq_getElem hi
   rw [hx] at this;exact (Option.some.inj this).symm
  rw [← h0,List.take_append_drop]
 unfold Q7e
 conv=>lhs;rw [e]
 rw [List.takeWhile_append_of_pos (fun a ha=>?_),List.takeWhile_cons_of_neg (by simp [hn])]
 ·simp;omega
 ·obtain ⟨j,hj⟩:=List.getElem?_of_mem ha
  obtain ⟨o,ho,_⟩:=Q7p h hj
  simp [ho]
theorem Qch {v:JV} {os:List JOp} (h4:v.kind=4) (hl:v.l.length≤100) (h:YU v.l=some os):jrd v=os∧Uv v=0∧Q0E v=0:=by
 unfold jrd Uv Q0E
 have h1:¬100 < v.l.length:=by omega
 simp [h4,h1,h]
theorem Q9G {v:JV} {i:Nat} {x:JV} {os:List JOp} (h4:v.kind=4) (hl:v.l.length≤100) (h:YU (v.l.take i)=some os) (hx:v.l[i]? =some x) (hn:jop x=none):jrd v=[]∧Uv v=1∧Q0E v=i:=by
 have h0:=Q5x hx hn
 unfold jrd Uv Q0E
 have h1:¬100 < v.l.length:=by omega
 simp [h4,h1,h0,Q9y h hx hn]
section
variable [GLay]
def OpR (v:JV) (σ:List AO):Out→List AO→Prop:=fun o σ'=>σ'=σ∧∃ r x b,o= .ret (.tup [.agg r,.bool b])∧AVleL r (XM x)∧(b=true→jop v=some x)∧(b=false→jop v=none)
def OpS (v:JV) (σ:List AO):Out→List AO→Prop:=fun o σ'=>σ'=σ∧∃ x b,o= .ret (.tup [.agg (XM x),.bool b])∧(b=true→jop v=some x)∧(b=false→jop v=none)
theorem OpR.strong {P:Program} {f:FuncId} {args:List AV} {v:JV} {σ:List AO} (h:ACalls P f args σ (OpR v σ)):ACalls P f args σ (OpS v σ):=
 h.weak (fun w σ' hr=>by
  obtain ⟨rfl,r,x,b,h1,h2,h3,h4⟩:=hr
  injection h1 with h1
  subst h1
  exact ⟨_,AVle.tup (r:=[.agg (XM x),.bool b]) ⟨AVle.agg h2,AVle.refl _,trivial⟩,rfl,x,b,rfl,h3,h4⟩) (fun w σ' hr=>by obtain ⟨_,r,x,b,h1,_⟩:=hr;cases h1)
theorem oz:AVleL [.int .i64 0,.nils,.nils,.int .i64 0,.bool false,.bool false,.str ⟨#[]⟩,.int .i64 0,.str ⟨#[]⟩,.nils,.nils] (XM ⟨0,[],[],vz⟩):=by
 rw [QP]
 exact ⟨AVle.refl _,AVle.nils false 1,AVle.nils false 1,AVle.refl _,AVle.refl _,AVle.refl _,AVle.refl _,AVle.refl _,AVle.refl _,XA,Xt,trivial⟩
end
end Lg
namespace Lg
open Go
def pEi (s:BL):Int:=match pE s with
 |none=>-1
 |some i=>(i:Int)
theorem QdL {s:BL} (h:pE s=none):pEi s= -1:=by unfold pEi;rw [h]
theorem Q86 {s:BL} {i:Nat} (h:pE s=some i):pEi s=i:=by unfold pEi;rw [h]
theorem Q0T {s:BL} {i:Nat} (h0:¬s=[]) (h:pE s=some i):pN s=[]:=by unfold pN;rw [if_neg h0,h];rfl
theorem Yn (L:List BL):(Qy L).flatten.length=L.length:=by rw [UW,List.length_map]
theorem VF (L:List BL) (x:BL):(Qy (L++[x])).flatten=(Qy L).flatten++[.str (ba x)]:=by rw [UW,UW,List.map_append];rfl
theorem Q6b (ps:List BL) (q:BL):(Qy (ps++[q])).flatten[(ps++[q]).length - 1]? =some (.str (ba q)):=by
 rw [VF,List.length_append]
 rw [List.getElem?_append_right (by rw [Yn];simp),Yn]
 simp
theorem UX (ps:List BL) (q r:BL):(Qy (ps++[q])).flatten.set ((ps++[q]).length - 1) (.str (ba r))=(Qy (ps++[r])).flatten:=by
 rw [VF,VF,List.length_append]
 rw [List.set_append_right _ _ (by rw [Yn];simp),Yn]
 simp
end Lg
namespace Lg
open Go
theorem Q0S {s:ByteArray} {c:Int} (h:opn s=c) (hc:c ≠ 0):(s,c)∈opL:=by
 unfold opn at h
 cases hf:opL.find? fun q=>decide (s=q.1) with
 |none=>rw [hf] at h;exact absurd h.symm hc
 |some q=>
  rw [hf] at h
  have hm:=List.mem_of_find?_eq_some hf
  have hq:=List.find?_some hf
  simp only [decide_eq_true_eq] at hq
  simp only [Option.map_some,Option.getD_some] at h
  obtain ⟨a,b⟩:=q
  simp only at hq h
  subst hq;subst h
  exact hm
theorem UM (s:ByteArray):0≤opn s∧opn s≤6:=by
 by_cases h:opn s=0
 ·omega
 ·have hm:=Q0S rfl h
  have:∀ q∈opL,0≤q.2∧q.2≤6:=by decide +kernel
  exact this _ hm
def opNm:List ByteArray:=[⟨#[]⟩,⟨#[97,100,100]⟩,⟨#[114,101,109,111,118,101]⟩,⟨#[114,101,112,108,97,99,101]⟩,⟨#[109,111,118,101]⟩,⟨#[99,111,112,121]⟩,⟨#[116,101,115,116]⟩]
theorem QcF:∀ i:Fin 6,opn (opNm[i.val+1]'(by have:=i.isLt;show _ < 7;omega))=(i.val+1:Nat):=by decide +kernel
theorem Q83 {i:Nat} {t:ByteArray} (h:opNm[i]? =some t) (h1:1≤i) (s:ByteArray):s=t↔opn s=(i:Int):=by
 have h7:=(List.getElem?_eq_some_iff.1 h)
 obtain ⟨hi,ht⟩:=h7
 have hi7:i < 7:=hi
 have e:=QcF ⟨i - 1,by omega⟩
 have hio:i - 1+1=i:=by omega
 simp only [hio] at e
 rw [ht] at e
 constructor
 ·rintro rfl;exact e
 ·intro hs
  have m1:=Q0S hs (by omega)
  have m2:=Q0S e (by omega)
  have inj:∀ a∈opL,∀ b∈opL,a.2=b.2→a.1=b.1:=by decide +kernel
  exact inj _ m1 _ m2 rfl
def opc (v:JV) (i:Nat):Int:=if jfB v bOp=true∧(jfD v bOp).kind=3∧opn (jfD v bOp).s < i then opn (jfD v bOp).s else 0
theorem QdI (v:JV):opc v 1=0:=by
 have:=UM (jfD v bOp).s
 unfold opc
 by_cases h:jfB v bOp=true∧(jfD v bOp).kind=3∧opn (jfD v bOp).s < ((1:Nat):Int)
 ·rw [if_pos h]
  have h1:opn (jfD v bOp).s < 1:=h.2.2
  have h2:=this.1
  omega
 ·rw [if_neg h]
theorem Qbh (v:JV):opc v 7=Xn v:=by
 have:=UM (jfD v bOp).s
 unfold opc Xn
 by_cases h:jfB v bOp=true∧(jfD v bOp).kind=3
 ·have h7:opn (jfD v bOp).s < ((7:Nat):Int):=Int.lt_of_le_of_lt this.2 (by decide)
  rw [if_pos h,if_pos ⟨h.1,h.2,h7⟩]
 ·rw [if_neg h,if_neg (fun x=>h ⟨x.1,x.2.1⟩)]
theorem Q81 {v:JV} (h:jfB v bOp=false) (i:Nat):opc v i=Xn v:=by
 unfold opc Xn;rw [if_neg (by simp [h]),if_neg (by simp [h])]
theorem Qak {v:JV} {i:Nat} {t:ByteArray} (hb:jfB v bOp=true) (hk:(jfD v bOp).kind=3) (ht:opNm[i]? =some t) (h1:1≤i) (h:(jfD v bOp).s=t):opc v (i+1)=(i:Int):=by
 have:=(Q83 ht h1 _).1 h
 have h7:opn (jfD v bOp).s < ((i+1:Nat):Int):=by omega
 unfold opc;rw [if_pos ⟨hb,hk,h7⟩,this]
theorem Q80 {v:JV} {i:Nat} {t:ByteArray} (ht:opNm[i]? =some t) (h1:1≤i) (h:¬(jfD v bOp).s=t):opc v (i+1)=opc v i:=by
 have hne:¬opn (jfD v bOp).s=(i:Int):=fun e=>h ((Q83 ht h1 _).2 e)
 unfold opc
 by_cases hc:jfB v bOp=true∧(jfD v bOp).kind=3∧opn (jfD v bOp).s < i
 ·have h9:=hc.2.2
  have h7:opn (jfD v bOp).s < ((i+1:Nat):Int):=by omega
  rw [if_pos hc,if_pos ⟨hc.1,hc.2.1,h7⟩]
 ·have h7:¬(jfB v bOp=true∧(jfD v bOp).kind=3∧opn (jfD v bOp).s < ((i+1:Nat):Int)):=fun x=>hc ⟨x.1,x.2.1,by have h8:=x.2.2;omega⟩
  rw [if_neg hc,if_neg h7]
theorem QdJ {v:JV} {i:Nat} (hk:¬(jfD v bOp).kind=3):opc v (i+1)=opc v i:=by
 unfold opc;rw [if_neg (fun x=>hk x.2.1),if_neg (fun x=>hk x.2.1)]
theorem W3 (v:JV):0≤Xn v∧Xn v≤6:=by
 unfold Xn;split
 ·exact UM _
 ·omega
theorem Q38 {v:JV} (h:Xn v=0):jop v=none:=by unfold jop;rw [if_pos h]
theorem Q39 {v:JV} (h:KV v XG=false):jop v=none:=by unfold jop;rw [h];simp
theorem Kv {v:JV} (hp:KV v XG=true) (h:Xn v=4∨Xn v=5):jop v=if KV v YR=true then some ⟨Xn v,Yz v XG,Yz v YR,vz⟩ else none:=by
 unfold jop;rw [if_neg (by omega),if_neg (by simp [hp]),if_pos h]
theorem Q3a {v:JV} (hp:KV v XG=true) (h:Xn v=2):jop v=some ⟨2,Yz v XG,[],vz⟩:=by
 unfold jop;rw [if_neg (by omega),if_neg (by simp [hp]),if_neg (by omega),if_pos h]
theorem Hx {v:JV} (hp:KV v XG=true) (h0:¬Xn v=0) (h4:¬(Xn v=4∨Xn v=5)) (h2:¬Xn v=2):jop v=if jfB v YZ=true then some ⟨Xn v,Yz v XG,[],jfD v YZ⟩ else none:=by
 unfold jop;rw [if_neg h0,if_neg (by simp [hp]),if_neg h4,if_neg h2]
theorem QcG (s:BL):decide (pEi s < 0)=(pE s).isNone:=by
 unfold pEi
 cases pE s with
 |none=>rfl
 |some i=>simp
theorem Q4a {v:JV} {key:ByteArray} (h1:jfB v key=true) (h2:(jfD v key).kind=3):Yz v key=pN (jfD v key).s.data.toList∧KV v key=(pE (jfD v key).s.data.toList).isNone:=by
 unfold Yz KV;rw [if_pos ⟨h1,h2⟩,h1,h2];simp
theorem Q0D {v:JV} {key:ByteArray} (h:jfB v key=false∨¬(jfD v key).kind=3):Yz v key=[]∧KV v key=false:=by
 unfold Yz KV
 rcases h with h|h
 ·rw [if_neg (by simp [h]),h];simp
 ·rw [if_neg (by simp [h]),decide_eq_false h];simp
section
variable [GLay]
theorem W2 {v:JV} {key:ByteArray} (h:jb v):jb (jfD v key):=by
 unfold jfD
 cases hf:Z7 v key with
 |none=>exact V4 _ _ _ _ (Nat.zero_le _) (Nat.zero_le _)
 |some x=>
  unfold Z7 at hf
  split at hf
  ·rw [Option.map_eq_some_iff] at hf
   obtain ⟨q,hq,rfl⟩:=hf
   obtain ⟨j,hj⟩:=List.getElem?_of_mem (List.mem_of_find?_eq_some hq)
   exact (JR ((Zy v).1 h).2.2.2.2.2 hj).2
  ·cases hf
theorem Q1R {v:JV} {key:ByteArray} {n:Int} (hs:Q6 v≤n) (hn:1≤n):Q6 (jfD v key)≤n:=by
 unfold jfD
 cases hf:Z7 v key with
 |none=>simp only [Option.getD_none,vz,XR];omega
 |some x=>
  unfold Z7 at hf
  split at hf
  ·rw [Option.map_eq_some_iff] at hf
   obtain ⟨q,hq,rfl⟩:=hf
   obtain ⟨j,hj⟩:=List.getElem?_of_mem (List.mem_of_find?_eq_some hq)
   have h1:=XS hj
   have h2:=Zs v
   have h3:=Ze v.l
   simp only [Option.getD_some];omega
  ·cases hf
structure OB (o:JOp):Prop where
 jb:jb o.v
 pa:o.pa.length≤2000000
 fr:o.fr.length≤2000000
theorem Q1T {v:JV} {key:ByteArray} (h:jb v) (hb:KV v key=true):(Yz v key).length≤2000000:=by
 by_cases h1:jfB v key=true
 ·by_cases h2:(jfD v key).kind=3
  ·obtain ⟨e1,e2⟩:=Q4a h1 h2
   rw [e1]
   rw [e2] at hb
   have h3:pE (jfD v key).s.data.toList=none:=by
    cases hp:pE (jfD v key).s.data.toList with
    |none=>rfl
    |some i=>rw [hp] at hb;cases hb
   have h4:=(Q87 h3).1
   have h5:=((Zy _).1 (W2 (key:=key) h)).2.1
   have h6:(jfD v key).s.data.toList.length=(jfD v key).s.size:=Array.length_toList ..
   omega
  ·rw [(Q0D (.inr h2)).1];exact Nat.zero_le _
 ·rw [(Q0D (.inl (by simpa using h1))).1];exact Nat.zero_le _
end
end Lg
namespace Lg
open Go
theorem Qcg {v:JV} (h:¬v.kind=4):jrd v=[]∧Uv v=1∧Q0E v=0:=by unfold jrd Uv Q0E;rw [if_pos h,if_pos h,if_pos h];exact ⟨rfl,rfl,rfl⟩
theorem Q7q {v:JV} (h:v.kind=4) (hl:100 < v.l.length):jrd v=[]∧Uv v=5∧Q0E v=100:=by unfold jrd Uv Q0E;simp [h,hl]
end Lg
namespace Lg
open Go
theorem Fh:∀ (l:BL) (v:Nat),aD l→Lib.decFrom v l=some (Xe v l).toNat∧0≤Xe v l∧Xe v l < ((v:Int)+1) * 10 ^ l.length
 |[],v,_=>⟨by simp [Lib.decFrom,Xe],by simp [Xe],by simp [Xe];omega⟩
 |b :: l,v,h=>by
  obtain ⟨hb,hl⟩:=Kt h
  have hd:Lib.digitVal b=some (b.toNat - 48):=by unfold Lib.digitVal;rw [if_pos hb]
  have hv:Xe v (b :: l)=Xe ((v * 10+(b.toNat - 48):Nat):Int) l:=by
   show Xe (10 * (v:Int)+(b.toNat:Int) - 48) l=_
   congr 1;omega
  obtain ⟨h1,h2,h3⟩:=Fh l (v * 10+(b.toNat - 48)) hl
  rw [hv]
  refine ⟨?_,h2,?_⟩
  ·simp only [Lib.decFrom,hd];exact h1
  ·refine Int.lt_of_lt_of_le h3 ?_
   rw [List.length_cons,Int.pow_succ,Int.mul_comm (10 ^ l.length) 10,←Int.mul_assoc]
   exact Int.mul_le_mul_of_nonneg_right (by omega) (Int.pow_nonneg (by omega))
end Lg
namespace Lg
open Go
end Lg
namespace Lg
open Go
structure JOk (n:JNum) (d:BL):Prop where
 dig:n.digits=ba d
 ne:d ≠ []
 ad:aD d
 hd:d.head? ≠ some 48
 lst:d.getLast? ≠ some 48
 len:d.length≤60
 lo: -1000≤n.exp
 hi:n.exp≤1000
def JMay (n:JNum):Prop:=n={}∨∃ d,JOk n d
theorem JOk.nil {n:JNum} {d:BL} (h:JOk n d):¬n.digits=⟨#[]⟩:=fun e=>h.ne (Q2V.1 (h.dig ▸ e))
theorem JOk.size {n:JNum} {d:BL} (h:JOk n d):n.digits.size=d.length:=by rw [h.dig,ZY]
theorem JMay.bnd {n:JNum} (h:JMay n):n.digits.size≤1000000∧-1000000≤n.exp∧n.exp≤1000000:=by
 rcases h with rfl|⟨d,h⟩
 ·exact ⟨by decide,by decide,by decide⟩
 ·have:=h.size;have:=h.len;have:=h.lo;have:=h.hi
  omega
end Lg
namespace Lg
open Go
theorem Q6l (l:BL) (c:UInt8) (v:Int):Xe v (l++[c])=10 * Xe v l+(c.toNat:Int) - 48:=by
 unfold Xe;rw [List.foldl_append];rfl
end Lg
namespace Lg
open Go
def WF (nm:BL):Prop:=nm=[]∨¬Xh (ba nm) 0=nm.length∨(1 < nm.length∧(bat (ba nm) 0).toNat=48)∨18 < nm.length
instance (nm:BL):Decidable (WF nm):=by unfold WF;infer_instance
def Uu (nm:BL) (n:Nat) (e:Bool):Option Nat:=
 if e=true∧nm=[45] then some n else
 if WF nm then none else
 if Xe 0 nm < n∨(Xe 0 nm=n∧e=true) then some (Xe 0 nm).toNat else none
def ZF (nm:BL) (n:Nat) (e:Bool):Int:=(Uu nm n e).elim 0 (fun k=>(k:Int))
def Zr (nm:BL) (n:Nat) (e:Bool):Bool:=(Uu nm n e).isSome
theorem FP {nm:BL} {n:Nat} {e:Bool} (h1:e=true) (h2:nm=[45]):ZF nm n e=n∧Zr nm n e=true:=by
 unfold ZF Zr Uu;rw [if_pos ⟨h1,h2⟩];exact ⟨rfl,rfl⟩
theorem Q48 {nm:BL} {n:Nat} {e:Bool} (h:¬(e=true∧nm=[45])) (hb:WF nm):ZF nm n e=0∧Zr nm n e=false:=by
 unfold ZF Zr Uu;rw [if_neg h,if_pos hb];exact ⟨rfl,rfl⟩
theorem GL {nm:BL} {n:Nat} {e:Bool} (h:¬(e=true∧nm=[45])) (hb:¬WF nm) (h0:0≤Xe 0 nm) (hv:Xe 0 nm < n∨(Xe 0 nm=n∧e=true)):ZF nm n e=Xe 0 nm∧Zr nm n e=true:=by
 unfold ZF Zr Uu;rw [if_neg h,if_neg hb,if_pos hv];exact ⟨Int.toNat_of_nonneg h0,rfl⟩
theorem GK {nm:BL} {n:Nat} {e:Bool} (h:¬(e=true∧nm=[45])) (hb:¬WF nm) (hv:¬(Xe 0 nm < n∨(Xe 0 nm=n∧e=true))):ZF nm n e=0∧Zr nm n e=false:=by
 unfold ZF Zr Uu;rw [if_neg h,if_neg hb,if_neg hv];exact ⟨rfl,rfl⟩
theorem Q0C {nm:BL} (h:¬WF nm):aD nm∧0 < nm.length∧nm.length≤18:=by
 unfold WF at h
 have h1:Xh (ba nm) 0=nm.length:=Classical.byContradiction fun x=>h (.inr (.inl x))
 rw [Q4L] at h1
 refine ⟨Um h1,?_,Nat.le_of_not_lt fun x=>h (.inr (.inr (.inr x)))⟩
 have h2:nm ≠ []:=fun x=>h (.inl x)
 exact List.length_pos_iff.2 h2
theorem H4 {l:BL} (h:aD l):0≤Xe 0 l∧Xe 0 l < 10 ^ l.length:=by
 have:=Fh l 0 h
 exact ⟨this.2.1,by have h2:=this.2.2;simpa using h2⟩
theorem GJ {nm:BL} {n k:Nat} {e:Bool} (h:Uu nm n e=some k):k≤n∧(e=false→k < n):=by
 unfold Uu at h
 split at h
 ·rename_i h1;cases h;exact ⟨Nat.le_refl _,fun h=>by rw [h1.1] at h;cases h⟩
 ·split at h
  ·cases h
  ·rename_i hb0
   have h0:=(H4 (Q0C hb0).1).1
   split at h
   ·rename_i h1
    cases h
    rcases h1 with h1|⟨h1,h2⟩
    ·exact ⟨by omega,fun _=>by omega⟩
    ·exact ⟨by omega,fun h=>by rw [h2] at h;cases h⟩
   ·cases h
theorem Q6n {l:BL} (h:aD l) (h18:l.length≤18) {i:Nat} (hi:i < l.length):0≤Xe 0 (l.take i)∧Xe 0 (l.take i) < 100000000000000000:=by
 have ha:aD (l.take i):=fun b hb=>h b (List.mem_of_mem_take hb)
 have h1:=H4 ha
 refine ⟨h1.1,Int.lt_of_lt_of_le h1.2 ?_⟩
 have h2:(l.take i).length≤17:=by rw [List.length_take];omega
 have h3:(10:Nat) ^ (l.take i).length≤10 ^ 17:=Nat.pow_le_pow_right (by decide) h2
 have h4:((10:Nat) ^ (l.take i).length:Int)≤((10 ^ 17:Nat):Int):=by exact_mod_cast h3
 exact h4
theorem Q6m {l:BL} {i:Nat} {c:UInt8} (h:l[i]? =some c):Xe 0 (l.take (i+1))=10 * Xe 0 (l.take i)+(c.toNat:Int) - 48:=by
 rw [QV h,Q6l]
def XL (last:Bool) (op:Int) (k:Nat) (x:JV) (i:Nat):List JV:=if i=k∧last=true∧op ≠ 2 then [x] else []
def Wr (last:Bool) (op:Int) (k:Nat) (y:JV) (l:List JV) (i:Nat):List JV:=match l[i]? with
 |none=>[]
 |some a=>if i=k then (if last=true then (if op=1 then [a] else []) else [y]) else [a]
def eA (last:Bool) (op:Int) (k:Nat) (x y:JV) (l:List JV):Nat→List JV
 |0=>[]
 |i+1=>eA last op k x y l i++XL last op k x i++Wr last op k y l i
def eMi (last:Bool) (op:Int) (key k:ByteArray) (put:Bool):Bool:=last && decide (op ≠ 2) && !put && !blt k key
def eM (last:Bool) (op:Int) (key:ByteArray) (x:JV) (f:JV→JV):List (ByteArray×JV)→Bool→List (ByteArray×JV)
 |[],put=>if (last && decide (op ≠ 2) && !put)=true then [(key,x)] else []
 |q :: r,put=>(if eMi last op key q.1 put=true then [(key,x)] else [])++((if q.1=key then (if last=true then [] else [(q.1,f q.2)]) else [q])++eM last op key x f r (put || eMi last op key q.1 put))
def Q0p (last:Bool) (key:ByteArray) (g:JV→Int) (m:List (ByteArray×JV)):Int:=if last=true then 0 else ((m.find? fun q=>decide (q.1=key) && decide (g q.2 ≠ 0)).map fun q=>g q.2).getD 0
def jed (op:Int) (x:JV):List BL→JV→JV×Int
 |[],v=>if op=2 then (vz,7) else (x,0)
 |nm :: r,v=>
  if v.kind=4 then
   if Zr nm v.l.length (decide (op=1) && r.isEmpty)=true then
    if r.isEmpty=false∧(jed op x r (v.l.getD (ZF nm v.l.length (decide (op=1) && r.isEmpty)).toNat vz)).2 ≠ 0 then (vz,(jed op x r (v.l.getD (ZF nm v.l.length (decide (op=1) && r.isEmpty)).toNat vz)).2)
    else (.mk v.kind v.b v.n v.s (eA r.isEmpty op (ZF nm v.l.length (decide (op=1) && r.isEmpty)).toNat x (jed op x r (v.l.getD (ZF nm v.l.length (decide (op=1) && r.isEmpty)).toNat vz)).1 v.l (v.l.length+1)) [],0)
   else (vz,6)
  else if v.kind ≠ 5∨(jfB v (ba nm)=false∧(op ≠ 1∨r.isEmpty=false)) then (vz,6)
  else if Q0p r.isEmpty (ba nm) (fun y=>(jed op x r y).2) v.m ≠ 0 then (vz,Q0p r.isEmpty (ba nm) (fun y=>(jed op x r y).2) v.m)
  else (.mk v.kind v.b v.n v.s [] (eM r.isEmpty op (ba nm) x (fun y=>(jed op x r y).1) v.m false),0)
theorem QbY (last:Bool) (op:Int) (k:Nat) (x y:JV) (l:List JV) (i:Nat):(eA last op k x y l i).length≤i+(if k < i then 1 else 0):=by
 induction i with
 |zero=>simp [eA]
 |succ i ih=>
  have h1:(Wr last op k y l i).length≤1:=by unfold Wr;(repeat' split)<;>simp
  have h2:(XL last op k x i).length≤(if i=k then 1 else 0):=by
   unfold XL;split
   ·rename_i h;rw [if_pos h.1];exact Nat.le_refl _
   ·exact Nat.zero_le _
  rw [eA,List.length_append,List.length_append]
  (repeat' split at ih)<;>(repeat' split at h2)<;>(repeat' split)<;>omega
theorem Q0q {last:Bool} {op:Int} {k:Nat} {x:JV} {i:Nat} (h:i=k∧last=true∧op ≠ 2):XL last op k x i=[x]:=if_pos h
theorem V0 {last:Bool} {op:Int} {k:Nat} {x:JV} {i:Nat} (h:¬(i=k∧last=true∧op ≠ 2)):XL last op k x i=[]:=if_neg h
end Lg
namespace Lg
open Go
def jeK (op : Int) (nm : BL) (last : Bool) (v : JV) : Int := ZF nm v.l.length (decide (op = 1) && last)
def jeO (op : Int) (nm : BL) (last : Bool) (v : JV) : Bool := Zr nm v.l.length (decide (op = 1) && last)
theorem Q9A {op : Int} {nm : BL} {last : Bool} {v : JV} : ∃ k : Nat, jeK op nm last v = k ∧ (jeO op nm last v = true → k ≤ v.l.length ∧ (last = false → k < v.l.length)) := by
  unfold jeK jeO ZF Zr
  cases h : Uu nm v.l.length (decide (op = 1) && last) with
  | none => exact ⟨0, rfl, fun x => by cases x⟩
  | some k =>
    have h1 := GJ h
    exact ⟨k, rfl, fun _ => ⟨h1.1, fun hl => h1.2 (by simp [hl])⟩⟩
variable {op : Int} {x v : JV} {nm : BL} {r : List BL}
theorem V5 : jed 2 x [] v = (vz, 7) := rfl
theorem Vx (h : ¬ op = 2) : jed op x [] v = (x, 0) := by rw [jed, if_neg h]
variable {last : Bool} {k : Nat}
theorem WB (hl : r.isEmpty = last) (h4 : v.kind = 4) (ho : jeO op nm last v = false) : jed op x (nm :: r) v = (vz, 6) := by
  subst hl
  rw [jed, if_pos h4, if_neg]; show ¬ jeO op nm r.isEmpty v = true; simp [ho]
theorem Q1P (hl : r.isEmpty = last) (h4 : v.kind = 4) (hk : jeK op nm last v = k) (ho : jeO op nm last v = true) (hr : last = false) {a : JV} (ha : v.l[k]? = some a) (hb : ¬ (jed op x r a).2 = 0) : jed op x (nm :: r) v = (vz, (jed op x r a).2) := by
  have e1 : (ZF nm v.l.length (decide (op = 1) && r.isEmpty)).toNat = k := by subst hl; show (jeK op nm r.isEmpty v).toNat = k; rw [hk]; rfl
  have e2 : v.l.getD k vz = a := by rw [List.getD_eq_getElem?_getD, ha]; rfl
  rw [jed, if_pos h4, if_pos (by subst hl; exact ho), e1, e2, if_pos ⟨by rw [hl, hr], hb⟩]
theorem WC (hl : r.isEmpty = last) (h4 : v.kind = 4) (hk : jeK op nm last v = k) (ho : jeO op nm last v = true) (hb : last = false → (jed op x r (v.l.getD k vz)).2 = 0) :
    jed op x (nm :: r) v = (.mk v.kind v.b v.n v.s (eA last op k x (jed op x r (v.l.getD k vz)).1 v.l (v.l.length + 1)) [], 0) := by
  have e1 : (ZF nm v.l.length (decide (op = 1) && r.isEmpty)).toNat = k := by subst hl; show (jeK op nm r.isEmpty v).toNat = k; rw [hk]; rfl
  rw [jed, if_pos h4, if_pos (by subst hl; exact ho), e1, if_neg, hl]
  rintro ⟨h1, h2⟩; exact h2 (hb (by rw [← hl]; exact h1))
theorem JH (hl : r.isEmpty = last) (h4 : ¬ v.kind = 4) (h : ¬ v.kind = 5 ∨ (jfB v (ba nm) = false ∧ (¬ op = 1 ∨ last = false))) : jed op x (nm :: r) v = (vz, 6) := by
  subst hl; rw [jed, if_neg h4, if_pos h]
theorem Q3Z {key : ByteArray} {g : JV → Int} {m : List (ByteArray × JV)} {i : Nat} {q : ByteArray × JV} (hq : m[i]? = some q) (h : ∀ p ∈ m.take i, p.1 = key → g p.2 = 0) (hk : q.1 = key) (hb : ¬ g q.2 = 0) : Q0p false key g m = g q.2 := by
  have hi := (List.getElem?_eq_some_iff.1 hq).1
  have e : m = m.take i ++ (q :: m.drop (i + 1)) := by
    have h0 : m.drop i = q :: m.drop (i + 1) := by
      rw [List.drop_eq_getElem_cons hi]; congr 1
      have := List.getElem?_eq_getElem hi
      rw [hq] at this; exact (Option.some.inj this).symm
    rw [← h0, List.take_append_drop]
  have hn : (m.take i).find? (fun q => decide (q.1 = key) && decide (g q.2 ≠ 0)) = none := by
    rw [List.find?_eq_none]; intro p hp; simp only [Bool.and_eq_true, decide_eq_true_eq, not_and]
    intro h1 h2; exact h2 (h p hp h1)
  unfold Q0p
  rw [if_neg (by simp), e, List.find?_append, hn, Option.none_or, List.find?_cons_of_pos (by simp [hk, hb])]
  rfl
theorem FK {key : ByteArray} {g : JV → Int} {m : List (ByteArray × JV)} (h : ∀ p ∈ m, p.1 = key → g p.2 = 0) (last : Bool) : Q0p last key g m = 0 := by
  unfold Q0p
  split
  · rfl
  · have hn : m.find? (fun q => decide (q.1 = key) && decide (g q.2 ≠ 0)) = none := by
      rw [List.find?_eq_none]; intro p hp; simp only [Bool.and_eq_true, decide_eq_true_eq, not_and]
      intro h1 h2; exact h2 (h p hp h1)
    rw [hn]; rfl
theorem Q1Q (hl : r.isEmpty = last) (h4 : ¬ v.kind = 4) (h5 : v.kind = 5) (h : jfB v (ba nm) = true ∨ (op = 1 ∧ last = true)) {b : Int} (hb : Q0p last (ba nm) (fun y => (jed op x r y).2) v.m = b) (hb0 : ¬ b = 0) : jed op x (nm :: r) v = (vz, b) := by
  subst hl; subst hb
  rw [jed, if_neg h4, if_neg (by simp only [h5, ne_eq, not_true, false_or]; rintro ⟨h1, h2⟩; rcases h with h | ⟨h, h'⟩; · rw [h1] at h; cases h
                                 · rcases h2 with h2 | h2; · exact h2 h
                                   · rw [h'] at h2; cases h2), if_pos hb0]
theorem WD (hl : r.isEmpty = last) (h4 : ¬ v.kind = 4) (h5 : v.kind = 5) (h : jfB v (ba nm) = true ∨ (op = 1 ∧ last = true)) (hb : Q0p last (ba nm) (fun y => (jed op x r y).2) v.m = 0) :
    jed op x (nm :: r) v = (.mk v.kind v.b v.n v.s [] (eM last op (ba nm) x (fun y => (jed op x r y).1) v.m false), 0) := by
  subst hl
  rw [jed, if_neg h4, if_neg (by simp only [h5, ne_eq, not_true, false_or]; rintro ⟨h1, h2⟩; rcases h with h | ⟨h, h'⟩; · rw [h1] at h; cases h
                                 · rcases h2 with h2 | h2; · exact h2 h
                                   · rw [h'] at h2; cases h2), if_neg (by simp [hb])]
section
variable {y a : JV} {l : List JV} {i : Nat}
theorem Hi (h : l[i]? = none) : Wr last op k y l i = [] := by unfold Wr; rw [h]
theorem Q0t (h : l[i]? = some a) (hk : ¬ i = k) : Wr last op k y l i = [a] := by unfold Wr; rw [h]; simp only; rw [if_neg hk]
theorem Q41 (h : l[i]? = some a) (hk : i = k) (hl : last = false) : Wr last op k y l i = [y] := by unfold Wr; rw [h]; simp only; rw [if_pos hk, if_neg (by simp [hl])]
theorem FL (h : l[i]? = some a) (hl : last = true) (ho : op = 1) : Wr last op k y l i = [a] := by unfold Wr; rw [h]; simp only; split <;> simp [hl, ho]
theorem Hh (hk : i = k) (hl : last = true) (ho : ¬ op = 1) : Wr last op k y l i = [] := by unfold Wr; split <;> simp [hk, hl, ho]
end
theorem Qdr {y : JV} {l : List JV} (i : Nat) : (eA last op k x y l i).length ≤ i + 1 := by have := QbY last op k x y l i; split at this <;> omega
theorem Q9r {i : Nat} : (XL last op k x i).length ≤ 1 := by unfold XL; split <;> simp
theorem YJ (nm : BL) (r : List BL) : ((Qy (nm :: r)).drop 1).take ((Qy (nm :: r)).length - 1) = Qy r := by
  simp only [Qy, List.map_cons, List.drop_succ_cons, List.drop_zero, List.length_cons, Nat.add_sub_cancel]; rw [List.take_of_length_le (Nat.le_refl _)]
end Lg
namespace Lg
theorem Yt {α : Type} (l : List α) (a : α) : (l ++ [a]).length = l.length + 1 := by simp
end Lg
namespace Lg
open Go
abbrev BJ:=ByteArray×JV
def eMh (last:Bool) (op:Int) (key:ByteArray) (put:Bool):Option BJ→Bool
 |none=>last && decide (op ≠ 2) && !put
 |some q=>eMi last op key q.1 put
def eMn (last:Bool) (op:Int) (key:ByteArray) (x:JV) (put:Bool) (o:Option BJ):List BJ:=if eMh last op key put o=true then [(key,x)] else []
variable {last:Bool} {op:Int} {key:ByteArray} {x:JV} {f:JV→JV} {m:List BJ} {i:Nat} {put:Bool} {q:BJ}
theorem Qc1 (h:m[i]? =none):eM last op key x f (m.drop i) put=eMn last op key x put m[i]? :=by
 rw [h,List.drop_of_length_le (by simpa using h)];rfl
theorem Q0s (h:m[i]? =some q):eM last op key x f (m.drop i) put=eMn last op key x put m[i]? ++((if q.1=key then (if last=true then [] else [(q.1,f q.2)]) else [q])++eM last op key x f (m.drop (i+1)) (put || eMh last op key put m[i]?)):=by
 have hi:=(List.getElem?_eq_some_iff.1 h).1
 have e:m.drop i=q :: m.drop (i+1):=by
  rw [List.drop_eq_getElem_cons hi];congr 1
  have:=List.getElem?_eq_getElem hi
  rw [h] at this;exact (Option.some.inj this).symm
 rw [e,eM,h];rfl
theorem Qb8 (h:eMh last op key put m[i]? =true):eMn last op key x put m[i]? =[(key,x)]∧(put || eMh last op key put m[i]?)=true:=by
 unfold eMn;rw [if_pos h,h];exact ⟨rfl,by simp⟩
theorem Q40 (h:eMh last op key put m[i]? =false):eMn last op key x put m[i]? =[]∧(put || eMh last op key put m[i]?)=put:=by
 unfold eMn;rw [if_neg (by simp [h]),h];exact ⟨rfl,by simp⟩
theorem Qc2 (o:Option BJ):(eMn last op key x put o).length+(if put=true then 1 else 0)≤(if (put || eMh last op key put o)=true then 1 else 0):=by
 unfold eMn
 have:put=true→eMh last op key put o=false:=by
  intro hp;subst hp;cases o<;>simp [eMh,eMi]
 cases put<;>simp_all
 split<;>simp
theorem Q9s (h:m[i]? =none) (h1:last=true) (h2:¬op=2) (h3:put=false):eMh last op key put m[i]? =true:=by rw [h];simp [eMh,h1,h2,h3]
theorem Q6Z (h:m[i]? =some q) (h1:last=true) (h2:¬op=2) (h3:put=false):eMh last op key put m[i]? = !blt q.1 key:=by rw [h];simp [eMh,eMi,h1,h2,h3]
theorem Q32 (h:last=false∨op=2∨put=true):eMh last op key put m[i]? =false:=by
 cases m[i]? with
 |none=>rcases h with h|h|h<;>simp [eMh,h]
 |some q=>rcases h with h|h|h<;>simp [eMh,eMi,h]
end Lg
namespace Lg
theorem no5 {a c:Prop} [Decidable a] [Decidable c] {b l:Bool} (h:¬(¬a∨(b=false∧(¬c∨l=false)))):a∧(b=true∨(c∧l=true)):=by
 by_cases ha:a<;>by_cases hc:c<;>cases b<;>cases l<;>simp_all
theorem Q6W {key:ByteArray} {g:JV→Int} {m:List (ByteArray×JV)} {last:Bool} (h:last=false→∀ p∈m,p.1=key→g p.2=0):Q0p last key g m=0:=by
 cases last with
 |true=>rfl
 |false=>exact FK (h rfl) _
theorem VO {α:Type} {l:List α} {i:Nat} {x p:α} (hx:l[i]? =some x) (h:p∈l.take (i+1)):p∈l.take i∨p=x:=by
 rw [QV hx,List.mem_append,List.mem_singleton] at h;exact h
end Lg
namespace Lg
open Go
section
variable [GLay]
end
end Lg
namespace Lg
open Go
end Lg
namespace Lg
open Go
variable {sz:Nat} {rows:List (List AV)} {row:List AV} {i:Nat}
theorem Ju (i:Nat):rows.flatten=(rows.take i).flatten++(rows.drop i).flatten:=by
 rw [← List.flatten_append,List.take_append_drop]
theorem Wc [GLay] (hel:∀ r∈rows,r.length=sz) (hi:i≤rows.length):(rows.take i).flatten.length=i * sz:=by
 rw [QJ (fun r hr=>hel r (List.mem_of_mem_take hr)),List.length_take,Nat.min_eq_left hi]
theorem Jm [GLay] (hel:∀ r∈rows,r.length=sz):(rows.drop i).flatten.length=(rows.length - i) * sz:=by
 rw [QJ (fun r hr=>hel r (List.mem_of_mem_drop hr)),List.length_drop]
theorem Wz (i:Nat):(rows.take i++row :: rows.drop i).flatten=(rows.take i).flatten++(row++(rows.drop i).flatten):=by simp
theorem JG (hi:i≤rows.length):(rows.take i++row :: rows.drop i).length=rows.length+1:=by simp;omega
theorem JP (hel:∀ r∈rows,r.length=sz) (hr:row.length=sz):∀ r∈rows.take i++row :: rows.drop i,r.length=sz:=by
 intro r h
 simp only [List.mem_append,List.mem_cons] at h
 rcases h with h|rfl|h
 ·exact hel r (List.mem_of_mem_take h)
 ·exact hr
 ·exact hel r (List.mem_of_mem_drop h)
theorem cpy {α:Type} {A B C ds:List α} {a:Nat} (h:A.length=a) (hd:ds.length=B.length):(A++(B++C)).take a++ds++(A++(B++C)).drop (a+ds.length)=A++(ds++C):=by
 subst h
 rw [List.take_left,List.append_assoc,←List.drop_drop,List.drop_left,hd,List.drop_left]
theorem Q9n {α:Type} {A B C:List α} {a b:Nat} (h:A.length=a) (hb:B.length=b):((A++(B++C)).drop a).take b=B:=by
 subst h;subst hb
 rw [List.drop_left,List.take_left]
end Lg
namespace Lg
open Go
section
variable [GLay] {σ:List AO} {p:Nat} {X y z:AO}
theorem Y5:(σ.set p X++[y])[σ.length]? =some y:=by
 simp
theorem Kh:(σ.set p X++[y]).set σ.length z=σ.set p X++[z]:=by
 simp
theorem JZ (h:p < σ.length):(σ.set p X++[y])[p]? =some X:=Qt h
theorem Q2s (h:p < σ.length):(σ.set p X++[y]).set p z=σ.set p z++[y]:=by
 rw [List.set_append_left _ _ (by simpa using h),List.set_set]
end
variable {sz:Nat} {rows:List (List AV)} {row:List AV} {i:Nat}
theorem Hq [GLay] {cap:Nat} (hel:∀ r∈rows,r.length=sz) (hi:i < rows.length):
  ((rows.flatten++List.replicate ((cap - rows.length) * sz) AV.any).drop (0 * sz)).take (i * sz)++List.replicate ((rows.length+1 - i) * sz) .any=(rows.take i).flatten++(List.replicate sz .any++List.replicate ((rows.length - i) * sz) .any):=by
 rw [Nat.zero_mul,List.drop_zero,Ju i,List.append_assoc,List.take_left' (Wc hel (by omega)),List.replicate_append_replicate]
 congr 2
 rw [show rows.length+1 - i=(rows.length - i)+1 by omega,Nat.add_mul];omega
theorem HN [GLay] {cap:Nat} (hel:∀ r∈rows,r.length=sz) (hi:i < rows.length) (hc:rows.length+1≤cap):
  rows.flatten++List.replicate ((cap - rows.length) * sz) AV.any=(rows.take i).flatten++((rows.drop i).flatten++(List.replicate sz .any++List.replicate ((cap - rows.length - 1) * sz) .any)):=by
 obtain ⟨k,rfl⟩:∃ k,cap=rows.length+1+k:=⟨cap - (rows.length+1),by omega⟩
 rw [Ju i,List.append_assoc,List.replicate_append_replicate]
 congr 3
 rw [show rows.length+1+k - rows.length=k+1 by omega,show k+1 - 1=k by omega,Nat.add_mul,Nat.one_mul,Nat.add_comm]
end Lg
namespace Lg
open Go
theorem Ut [GLay] {rows:List (List AV)} {row:List AV} {i:Nat} (h:∀ n,AV.ltLL n rows) (h2:∀ n,AV.ltL n row) (n:Nat):AV.ltLL n (rows.take i++row :: rows.drop i):=by
 rw [AV.ltLL_iff]
 intro e he
 simp only [List.mem_append,List.mem_cons] at he
 have hh:=(AV.ltLL_iff n rows).1 (h n)
 rcases he with he|rfl|he
 ·exact hh e (List.mem_of_mem_take he)
 ·exact h2 n
 ·exact hh e (List.mem_of_mem_drop he)
theorem Jh [GLay] {rows:List (List AV)} (i:Nat) (h:Zf rows.flatten=true):Zf (rows.drop i).flatten=true:=by
 rw [K5] at h ⊢
 intro a ha
 exact h a (by rw [Ju i];exact List.mem_append_right _ ha)
theorem Vv {rows:List (List AV)} {row:List AV}:rows.take rows.length++row :: rows.drop rows.length=rows++[row]:=by simp
theorem ZN [GLay] {P:Program} {N:Nat} {σ:List AO} {e:Env} {c:Code} {Q:QA} (t p gg sz n:Nat) (es:List (List AV)) {cs:List AV} (hl:Zc e.l t=some (.arr p gg sz 0 n)) (hp:σ[p]? =some (.arr sz gg cs)) (hes:es.flatten=cs.take (n * sz)) (hel:∀ r∈es,r.length=sz) (hn:es.length=n) (hsz:sz ≠ 0) (hfit:n * sz≤cs.length)
  (h:AWp P N c (e.put (some t) (.sl false sz es)) (σ.set p .dead) Q) (ht:t < N):AWp P N c e σ Q:=
 VL t p gg sz 0 n hl hp es (by rw [Nat.zero_mul,List.drop_zero];exact hes) hel hn hsz (by rw [Nat.zero_add];exact hfit) h ht
end Lg
namespace Lg
open Go
theorem Qdq {α:Type} {A r B ds:List α} {a:Nat} (h:A.length+r.length=a) (hd:ds.length=B.length):(A++(r++B)).take a++ds++(A++(r++B)).drop (a+ds.length)=A++(r++ds):=by
 subst h
 rw [← List.append_assoc A r B,←List.length_append,List.take_left,←List.drop_drop,List.drop_left,hd,List.drop_length,List.append_nil,List.append_assoc]
theorem QcU {α:Type} {A D R E:List α} {a:Nat} (h:A.length=a):(A++(D++(R++E))).take (a+R.length)++D++(A++(D++(R++E))).drop (a+R.length+D.length)=A++((D++(R++E)).take R.length++(D++E)):=by
 subst h
 rw [List.take_append,List.take_of_length_le (Nat.le_add_right _ _),Nat.add_sub_cancel_left,show A.length+R.length+D.length=A.length+(D.length+R.length) by omega,←List.drop_drop,List.drop_left,←List.drop_drop,List.drop_left,List.drop_left]
 simp [List.append_assoc]
theorem Vl [GLay] {P:Program} {σ:List AO} {p g sz off len i:Nat} {rows:List (List AV)} {X:List AV} (hσ:σ[p]? =some (.arr sz g (rows.flatten++X))) (hel:∀ r∈rows,r.length=sz) (hoff:off=i) (hi:i≤rows.length) (hlen:rows.length - i≤len) (hfit:(off+len) * sz≤(rows.flatten++X).length):
  Q2Q P σ (.arr p g sz off len) sz len (rows.length - i) (rows.drop i).flatten:=by
 subst hoff
 have h:=QaC (P:=P) hσ hlen hfit
 rwa [Ju off,List.append_assoc,Q9n (Wc hel hi) (Jm hel)] at h
end Lg
namespace Lg
theorem Q4O {A D E:List AV} {i z:Nat} (h:A.length=i * z):(A++(D++(List.replicate z AV.any++E))).take ((i+1) * z)++D++(A++(D++(List.replicate z AV.any++E))).drop ((i+1) * z+D.length)=A++((D++(List.replicate z AV.any++E)).take z++(D++E)):=by
 have:=QcU (D:=D) (R:=List.replicate z AV.any) (E:=E) h
 rw [List.length_replicate] at this
 rw [Nat.add_mul,Nat.one_mul];exact this
end Lg
namespace Lg
open Go
theorem Q05 [GLay] {P:Program} {σ:List AO} {p g sz off len i:Nat} {rows:List (List AV)} {X:List AV} (hσ:σ[p]? =some (.arr sz g (rows.flatten++X))) (hel:∀ r∈rows,r.length=sz) (hoff:off=i) (hi:i≤rows.length) (hlen:len=rows.length - i):
  Q2Q P σ (.arr p g sz off len) sz len len (rows.drop i).flatten:=by
 have hfl:rows.flatten.length=rows.length * sz:=QJ hel
 subst hoff;subst hlen
 exact Vl hσ hel rfl hi (Nat.le_refl _) (by
  rw [List.length_append,hfl,show off+(rows.length - off)=rows.length by omega];omega)
theorem Q6T {sz i:Nat} {rows:List (List AV)} (hel:∀ r∈rows,r.length=sz):∀ r∈rows.take i++rows.drop (i+1),r.length=sz:=by
 intro r h
 rcases List.mem_append.1 h with h|h
 ·exact hel r (List.mem_of_mem_take h)
 ·exact hel r (List.mem_of_mem_drop h)
theorem Q3W {i:Nat} {rows:List (List AV)} (hi:i < rows.length):(rows.take i++rows.drop (i+1)).length=rows.length - 1:=by simp;omega
theorem Q6U [GLay] {rows:List (List AV)} {i:Nat} (h:∀ n,AV.ltLL n rows) (n:Nat):AV.ltLL n (rows.take i++rows.drop (i+1)):=by
 rw [AV.ltLL_iff]
 intro e he
 have hh:=(AV.ltLL_iff n rows).1 (h n)
 rcases List.mem_append.1 he with he|he
 ·exact hh e (List.mem_of_mem_take he)
 ·exact hh e (List.mem_of_mem_drop he)
theorem FJ [GLay] {sz i:Nat} {rows:List (List AV)} {R ds:List AV} (hel:∀ r∈rows,r.length=sz) (hi:i≤rows.length):(rows.flatten++R).take (i * sz)++ds++(rows.flatten++R).drop (i * sz+ds.length)=(rows.take i).flatten++(ds++(rows.flatten++R).drop (i * sz+ds.length)):=by
 conv=>lhs;arg 1;arg 1;rw [Ju i,List.append_assoc,List.take_left' (Wc hel hi)]
 rw [List.append_assoc]
theorem Q9o {A D E X Y:List AV} {k:Nat} (h:(A++D).length=k):((A++(D++E)).take k++X++Y).take k=A++D:=by
 rw [List.append_assoc,List.take_left' (by rw [List.length_take,←List.append_assoc,List.length_append,h];omega),←List.append_assoc,List.take_left' h]
end Lg
namespace Lg
open Go
theorem Wp {A D E X Y:List AV} {k k1 k2:Nat} (h:(A++D).length=k) (h1:k1=k) (h2:k2=k):((A++(D++E)).take k1++X++Y).take k2=A++D:=by
 subst h1;subst h2;exact Q9o h
theorem Gg {cs:List AV} {k:Nat} (h:(cs.take k).length=k):k≤cs.length:=by rw [List.length_take] at h;omega
end Lg
namespace Lg
open Go
def fnd (m:List BJ) (key:ByteArray):Bool:=match m[QU m key]? with
 |some q=>decide (q.1=key)
 |none=>false
theorem Q94 {α:Type} {p:α→Bool}:∀ {l:List α} {k:Nat},k≤l.length→(∀ (j:Nat) q,j < k→l[j]? =some q→p q=true)→(∀ (j:Nat) q,k≤j→l[j]? =some q→p q=false)→(l.takeWhile p).length=k
 |[],k,hk,_,_=>by simp at hk;subst hk;rfl
 |a :: r,0,_,_,h2=>by rw [List.takeWhile_cons,if_neg (by rw [h2 0 a (Nat.le_refl _) rfl];simp)];rfl
 |a :: r,k+1,hk,h1,h2=>by
  rw [List.takeWhile_cons,if_pos (h1 0 a (by omega) rfl),List.length_cons,Q94 (by simpa using hk) (fun j q hj hq=>h1 (j+1) q (by omega) (by simpa using hq)) (fun j q hj hq=>h2 (j+1) q (by omega) (by simpa using hq))]
def Zq (m:List BJ):Prop:=m.Pairwise fun p q=>blt p.1 q.1=true
theorem Q7H {m:List BJ} (h:Zq m) {i j:Nat} {p q:BJ} (hij:i < j) (hp:m[i]? =some p) (hq:m[j]? =some q):blt p.1 q.1=true:=by
 have h1:=(List.getElem?_eq_some_iff.1 hp)
 have h2:=(List.getElem?_eq_some_iff.1 hq)
 obtain ⟨a,rfl⟩:=h1
 obtain ⟨b,rfl⟩:=h2
 exact List.pairwise_iff_getElem.1 h i j a b hij
theorem Q0k [GLay] (a:ByteArray):blt a a=false:=by
 cases h:blt a a with
 |false=>rfl
 |true=>have:=Q6G (a:=a) (b:=a) (by simp [h]);rw [h] at this;cases this
end Lg
namespace Lg
open Go
theorem Q3O {n:Int} (h0:0≤n) (h1:n < 18446744073709551616):IntKind.wrap .u64 n=n:=by
 show n % (2 ^ 64:Int)=n
 exact Int.emod_eq_of_lt h0 h1
end Lg
namespace Lg
open Go
def dgs:BL:=[48,49,50,51,52,53,54,55,56,57]
theorem Q3X (b:UInt8):dgs.contains b=isD b:=by
 revert b
 have h:∀ n:Fin 256,dgs.contains (UInt8.ofNat n.val)=isD (UInt8.ofNat n.val):=by decide +kernel
 intro b
 have:=h ⟨b.toNat,b.toNat_lt⟩
 simpa using this
theorem Q9q {p:UInt8→Bool} {l:BL}:l.dropWhile p=[]↔∀ b∈l,p b=true:=by
 induction l with
 |nil=>simp
 |cons a r ih=>
  rw [List.dropWhile_cons]
  cases h:p a with
  |true=>simp [h,ih]
  |false=>simp [h]
theorem Q91 (l:BL):Lib.trimS l dgs=[]↔aD l:=by
 unfold Lib.trimS Lib.trimLeftS Lib.trimRightS aD
 rw [Q9q]
 constructor
 ·intro h b hb
  rw [← Q3X]
  by_cases hx:b∈(l.reverse.dropWhile (dgs.contains ·)).reverse
  ·exact h b hx
  ·have hr:b∈l.reverse:=List.mem_reverse.2 hb
   rw [← List.takeWhile_append_dropWhile (p:=(dgs.contains ·)) (l:=l.reverse)] at hr
   rcases List.mem_append.1 hr with h1|h1
   ·exact List.all_eq_true.1 (List.all_takeWhile (p:=(dgs.contains ·)) (l:=l.reverse)) b h1
   ·exact absurd (List.mem_reverse.2 h1) hx
 ·intro h b hb
  rw [Q3X]
  exact h b (List.mem_reverse.1 ((List.dropWhile_sublist _).mem (List.mem_reverse.1 hb)))
theorem QbG {l:BL}:aD l↔Xh (ba l) 0=l.length:=by
 rw [Q4L]
 constructor
 ·intro h
  congr 1
  induction l with
  |nil=>rfl
  |cons a r ih=>
   rw [List.takeWhile_cons,if_pos (h a (List.mem_cons_self ..)),ih (fun b hb=>h b (List.mem_cons_of_mem _ hb))]
 ·exact Um
theorem Q6y {l:BL} (h:aD l) (h0:0 < l.length):Lib.atoi l=some (Xe 0 l):=by
 cases l with
 |nil=>simp at h0
 |cons b r=>
  have hb:=(Vw b).1 (h b (List.mem_cons_self ..))
  have n1:¬(b == 45)=true:=fun e=>by have:=eq_of_beq e;subst this;revert hb;decide
  have n2:¬(b == 43)=true:=fun e=>by have:=eq_of_beq e;subst this;revert hb;decide
  obtain ⟨h1,h2,_⟩:=Fh (b :: r) 0 h
  have e2:Lib.atoi (b :: r)=(Lib.decNat (b :: r)).map fun (m:Nat)=>(m:Int):=by rw [Lib.atoi,if_neg n1,if_neg n2]
  have e3:Lib.decNat (b :: r)=Lib.decFrom 0 (b :: r):=rfl
  have e:Xe ((0:Nat):Int) (b :: r)=Xe 0 (b :: r):=rfl
  rw [e] at h1 h2
  rw [e2,e3,h1]
  simp only [Option.map_some,Option.some.injEq]
  omega
end Lg
namespace Lg
open Go
def trE (nm:BL):ByteArray:=⟨(Lib.trimS nm dgs).toArray⟩
theorem YN {nm:BL}:trE nm=⟨#[]⟩↔Xh (ba nm) 0=nm.length:=by
 rw [← QbG,←Q91]
 constructor
 ·intro h
  have h1:(trE nm).data.toList=[]:=by rw [h]
  have h2:(trE nm).data.toList=Lib.trimS nm dgs:=by simp [trE]
  rw [← h2];exact h1
 ·intro h;unfold trE;rw [h]
def Qz:List BL→JV→JV×Bool
 |[],v=>(v,true)
 |nm :: r,v=>if v.kind=4 then (if Zr nm v.l.length false=true then Qz r (v.l.getD (ZF nm v.l.length false).toNat vz) else (vz,false)) else
  if jfB v (ba nm)=true then Qz r (jfD v (ba nm)) else (vz,false)
theorem V7 {nm:BL} {r:List BL} {v:JV} (h4:v.kind=4) (h:Zr nm v.l.length false=false):Qz (nm :: r) v=(vz,false):=by rw [Qz,if_pos h4,if_neg (by simp [h])]
theorem Hv {nm:BL} {r:List BL} {v a:JV} {k:Nat} (h4:v.kind=4) (h:Zr nm v.l.length false=true) (hk:ZF nm v.l.length false=k) (ha:v.l[k]? =some a):Qz (nm :: r) v=Qz r a:=by
 have e:v.l.getD (ZF nm v.l.length false).toNat vz=a:=by rw [hk,Int.toNat_natCast,List.getD_eq_getElem?_getD,ha];rfl
 rw [Qz,if_pos h4,if_pos h,e]
theorem Jn {nm:BL} {r:List BL} {v:JV} (h4:¬v.kind=4) (h:jfB v (ba nm)=false):Qz (nm :: r) v=(vz,false):=by rw [Qz,if_neg h4,if_neg (by simp [h])]
theorem Hw {nm:BL} {r:List BL} {v:JV} (h4:¬v.kind=4) (h:jfB v (ba nm)=true):Qz (nm :: r) v=Qz r (jfD v (ba nm)):=by rw [Qz,if_neg h4,if_pos h]
theorem Xw {nm:BL} {n:Nat} (h:Zr nm n false=true):∃ k:Nat,ZF nm n false=k∧k < n:=by
 unfold Zr ZF at *
 cases h1:Uu nm n false with
 |none=>rw [h1] at h;cases h
 |some k=>exact ⟨k,rfl,(GJ h1).2 rfl⟩
theorem Vz [GLay]:∀ (l:List BL) {v:JV},jb v→jb (Qz l v).1
 |[],v,h=>h
 |nm :: r,v,h=>by
  have hz:jb vz:=V4 _ _ _ _ (Nat.zero_le _) (Nat.zero_le _)
  by_cases h4:v.kind=4
  ·by_cases ho:Zr nm v.l.length false=true
   ·obtain ⟨k,hk,hlt⟩:=Xw ho
    rw [Hv h4 ho hk (List.getElem?_eq_getElem hlt)]
    exact Vz r (Ys ((Zy v).1 h).2.2.2.2.1 (List.getElem?_eq_getElem hlt))
   ·rw [V7 h4 (by simpa using ho)];exact hz
  ·by_cases ho:jfB v (ba nm)=true
   ·rw [Hw h4 ho];exact Vz r (W2 h)
   ·rw [Jn h4 (by simpa using ho)];exact hz
theorem K0 [GLay]:∀ (l:List BL) {v:JV} {n:Int},Q6 v≤n→1≤n→Q6 (Qz l v).1≤n
 |[],v,n,h,_=>h
 |nm :: r,v,n,h,h1=>by
  have hz:Q6 vz≤n:=by have:Q6 vz=1:=XR _ _ _ _;omega
  by_cases h4:v.kind=4
  ·by_cases ho:Zr nm v.l.length false=true
   ·obtain ⟨k,hk,hlt⟩:=Xw ho
    rw [Hv h4 ho hk (List.getElem?_eq_getElem hlt)]
    have:=ZG (List.getElem?_eq_getElem hlt)
    have:=Zs v
    have:=Zh v.m
    exact K0 r (by omega) h1
   ·rw [V7 h4 (by simpa using ho)];exact hz
  ·by_cases ho:jfB v (ba nm)=true
   ·rw [Hw h4 ho];exact K0 r (Q1R h h1) h1
   ·rw [Jn h4 (by simpa using ho)];exact hz
end Lg
namespace Lg
open Go
def Ve (m:List BJ) (key:ByteArray) (x:JV):List BJ:=if fnd m key=true then m.set (QU m key) (key,x) else m.take (QU m key)++(key,x) :: m.drop (QU m key)
def Vf (nm:BL) (x v:JV):JV×Bool:=
 if v.kind=4 then (if Zr nm v.l.length true=true then (.mk v.kind v.b v.n v.s (v.l.take (ZF nm v.l.length true).toNat++x :: v.l.drop (ZF nm v.l.length true).toNat) v.m,true) else (vz,false))
 else if v.kind=5 then (.mk v.kind v.b v.n v.s v.l (Ve v.m (ba nm) x),true) else (vz,false)
def KE (nm:BL) (v:JV):JV×Bool:=
 if v.kind=4 then (if Zr nm v.l.length false=true then (.mk v.kind v.b v.n v.s (v.l.take (ZF nm v.l.length false).toNat++v.l.drop ((ZF nm v.l.length false).toNat+1)) v.m,true) else (vz,false))
 else if v.kind=5 then (if fnd v.m (ba nm)=true then (.mk v.kind v.b v.n v.s v.l (v.m.take (QU v.m (ba nm))++v.m.drop (QU v.m (ba nm)+1)),true) else (vz,false)) else (vz,false)
theorem WG {nm:BL} {n:Nat} {e:Bool} (h:Zr nm n e=true):∃ k:Nat,ZF nm n e=k∧k≤n:=by
 unfold Zr ZF at *
 cases h1:Uu nm n e with
 |none=>rw [h1] at h;cases h
 |some k=>exact ⟨k,rfl,(GJ h1).1⟩
theorem GS {nm:BL} {x v:JV} (h4:v.kind=4) (h:Zr nm v.l.length true=false):Vf nm x v=(vz,false):=by unfold Vf;rw [if_pos h4,if_neg (by simp [h])]
theorem Q0U {nm:BL} {x v:JV} {k:Nat} (h4:v.kind=4) (h:Zr nm v.l.length true=true) (hk:ZF nm v.l.length true=k):Vf nm x v=(.mk v.kind v.b v.n v.s (v.l.take k++x :: v.l.drop k) v.m,true):=by unfold Vf;rw [if_pos h4,if_pos h,hk,Int.toNat_natCast]
theorem Q0V {nm:BL} {x v:JV} (h5:v.kind=5):Vf nm x v=(.mk v.kind v.b v.n v.s v.l (Ve v.m (ba nm) x),true):=by unfold Vf;rw [if_neg (by omega),if_pos h5]
theorem Q0W {nm:BL} {x v:JV} (h4:¬v.kind=4) (h5:¬v.kind=5):Vf nm x v=(vz,false):=by unfold Vf;rw [if_neg h4,if_neg h5]
theorem GU {nm:BL} {v:JV} (h4:v.kind=4) (h:Zr nm v.l.length false=false):KE nm v=(vz,false):=by unfold KE;rw [if_pos h4,if_neg (by simp [h])]
theorem Q11 {nm:BL} {v:JV} {k:Nat} (h4:v.kind=4) (h:Zr nm v.l.length false=true) (hk:ZF nm v.l.length false=k):KE nm v=(.mk v.kind v.b v.n v.s (v.l.take k++v.l.drop (k+1)) v.m,true):=by unfold KE;rw [if_pos h4,if_pos h,hk,Int.toNat_natCast]
theorem Q12 {nm:BL} {v:JV} (h5:v.kind=5) (h:fnd v.m (ba nm)=true):KE nm v=(.mk v.kind v.b v.n v.s v.l (v.m.take (QU v.m (ba nm))++v.m.drop (QU v.m (ba nm)+1)),true):=by unfold KE;rw [if_neg (by omega),if_pos h5,if_pos h]
theorem WO {nm:BL} {v:JV} (h5:v.kind=5) (h:fnd v.m (ba nm)=false):KE nm v=(vz,false):=by unfold KE;rw [if_neg (by omega),if_pos h5,if_neg (by simp [h])]
theorem Q13 {nm:BL} {v:JV} (h4:¬v.kind=4) (h5:¬v.kind=5):KE nm v=(vz,false):=by unfold KE;rw [if_neg h4,if_neg h5]
theorem JF {m:List BJ} {key:ByteArray} (h:fnd m key=true):∃ q,m[QU m key]? =some q∧q.1=key:=by
 unfold fnd at h
 split at h
 ·rename_i q hq;exact ⟨q,hq,of_decide_eq_true h⟩
 ·cases h
end Lg
namespace Lg
open Go
def pwi (g:JV→JV×Bool):List BL→JV→JV×Bool
 |[],v=>g v
 |nm :: r,v=>
  if v.kind=4 then
   if Zr nm v.l.length false=true∧(pwi g r (v.l.getD (ZF nm v.l.length false).toNat vz)).2=true then
    (.mk v.kind v.b v.n v.s (v.l.set (ZF nm v.l.length false).toNat (pwi g r (v.l.getD (ZF nm v.l.length false).toNat vz)).1) v.m,true)
   else (vz,false)
  else if v.kind=5∧fnd v.m (ba nm)=true∧(pwi g r (v.m.getD (QU v.m (ba nm)) (ba nm,vz)).2).2=true then
   (.mk v.kind v.b v.n v.s v.l (v.m.set (QU v.m (ba nm)) (ba nm,(pwi g r (v.m.getD (QU v.m (ba nm)) (ba nm,vz)).2).1)),true)
  else (vz,false)
variable {g:JV→JV×Bool} {nm:BL} {r:List BL} {v:JV}
theorem WR (h4:v.kind=4) (h:Zr nm v.l.length false=false):pwi g (nm :: r) v=(vz,false):=by rw [pwi,if_pos h4,if_neg (by simp [h])]
theorem Q2f {a:JV} {k:Nat} (h4:v.kind=4) (h:Zr nm v.l.length false=true) (hk:ZF nm v.l.length false=k) (ha:v.l[k]? =some a) (hb:(pwi g r a).2=true):pwi g (nm :: r) v=(.mk v.kind v.b v.n v.s (v.l.set k (pwi g r a).1) v.m,true):=by
 have e:v.l.getD (ZF nm v.l.length false).toNat vz=a:=by rw [hk,Int.toNat_natCast,List.getD_eq_getElem?_getD,ha];rfl
 rw [pwi,if_pos h4,e,if_pos ⟨h,hb⟩,hk,Int.toNat_natCast]
theorem WP {a:JV} {k:Nat} (h4:v.kind=4) (hk:ZF nm v.l.length false=k) (ha:v.l[k]? =some a) (hb:(pwi g r a).2=false):pwi g (nm :: r) v=(vz,false):=by
 have e:v.l.getD (ZF nm v.l.length false).toNat vz=a:=by rw [hk,Int.toNat_natCast,List.getD_eq_getElem?_getD,ha];rfl
 rw [pwi,if_pos h4,e,if_neg (by simp [hb])]
theorem Q2h (h4:¬v.kind=4) (h5:¬v.kind=5):pwi g (nm :: r) v=(vz,false):=by rw [pwi,if_neg h4,if_neg (by simp [h5])]
theorem WS (h4:¬v.kind=4) (h:fnd v.m (ba nm)=false):pwi g (nm :: r) v=(vz,false):=by rw [pwi,if_neg h4,if_neg (by simp [h])]
theorem Q2g {q:BJ} (h4:¬v.kind=4) (h5:v.kind=5) (h:fnd v.m (ba nm)=true) (hq:v.m[QU v.m (ba nm)]? =some q) (hb:(pwi g r q.2).2=true):pwi g (nm :: r) v=(.mk v.kind v.b v.n v.s v.l (v.m.set (QU v.m (ba nm)) (ba nm,(pwi g r q.2).1)),true):=by
 have e:(v.m.getD (QU v.m (ba nm)) (ba nm,vz)).2=q.2:=by rw [List.getD_eq_getElem?_getD,hq];rfl
 rw [pwi,if_neg h4,e,if_pos ⟨h5,h,hb⟩]
theorem WQ {q:BJ} (h4:¬v.kind=4) (hq:v.m[QU v.m (ba nm)]? =some q) (hb:(pwi g r q.2).2=false):pwi g (nm :: r) v=(vz,false):=by
 have e:(v.m.getD (QU v.m (ba nm)) (ba nm,vz)).2=q.2:=by rw [List.getD_eq_getElem?_getD,hq];rfl
 rw [pwi,if_neg h4,e,if_neg (by simp [hb])]
end Lg
namespace Lg
open Go
theorem Qcp [GLay] {v:JV} (h:Ye v):Zq v.m:=by
 have hm:=((Yr v).1 h).2.1
 refine List.pairwise_iff_getElem.2 fun i j hi hj hij=>?_
 induction j with
 |zero=>omega
 |succ j ih=>
  have hs:=((hm (j+1) v.m[j+1] hj (List.getElem?_eq_getElem hj)).1).2 v.m[j] (by omega) (by rw [Nat.add_sub_cancel];exact List.getElem?_eq_getElem (by omega))
  by_cases e:i=j
  ·subst e;exact hs
  ·exact XQ (ih (by omega) (by omega)) hs
inductive jst:JV→Prop where
 |mk (k:Int) (b:Bool) (n:JNum) (s:ByteArray) (l:List JV) (m:List BJ) (h4:¬k=4→l=[]) (h5:¬k=5→m=[]) (hs:Zq m) (hl:∀ x∈l,jst x) (hm:∀ q∈m,jst q.2):jst (.mk k b n s l m)
theorem XY (v:JV):jst v↔(¬v.kind=4→v.l=[])∧(¬v.kind=5→v.m=[])∧Zq v.m∧(∀ x∈v.l,jst x)∧(∀ q∈v.m,jst q.2):=by
 constructor
 ·intro h
  cases h with
  |mk k b n s l m h4 h5 hs hl hm=>exact ⟨h4,h5,hs,hl,hm⟩
 ·intro h
  cases v with
  |mk k b n s l m=>exact .mk k b n s l m h.1 h.2.1 h.2.2.1 h.2.2.2.1 h.2.2.2.2
theorem W9 {v:JV} (h:jst v) (hk:¬v.kind=4):v.l=[]:=((XY v).1 h).1 hk
theorem Wa {v:JV} (h:jst v) (hk:¬v.kind=5):v.m=[]:=((XY v).1 h).2.1 hk
theorem Gt {v:JV} (h:jst v):Zq v.m:=((XY v).1 h).2.2.1
theorem Q1f {v:JV} (h:jst v) {i:Nat} {x:JV} (hx:v.l[i]? =some x):jst x:=((XY v).1 h).2.2.2.1 x (List.mem_of_getElem? hx)
theorem Q1g {v:JV} (h:jst v) {i:Nat} {q:BJ} (hq:v.m[i]? =some q):jst q.2:=((XY v).1 h).2.2.2.2 q (List.mem_of_getElem? hq)
theorem XZ:jst vz:=.mk _ _ _ _ _ _ (fun _=>rfl) (fun _=>rfl) List.Pairwise.nil (fun x h=>by cases h) (fun x h=>by cases h)
theorem Q0J [GLay]:∀ (n:Nat) (v:JV),(Q6 v).toNat≤n→Ye v→jst v
 |0,v,h,_=>by have:=Qi v;omega
 |n+1,v,h,hm=>by
  have h1:=Zs v
  have h2:=Ze v.l
  have h3:=Zh v.m
  rw [XY]
  refine ⟨Q9V hm,Q9W hm,Qcp hm,fun x hx=>?_,fun q hq=>?_⟩
  ·obtain ⟨i,hi⟩:=List.getElem?_of_mem hx
   have:=ZG hi
   have:=Qi x
   exact Q0J n x (by omega) (Q9U hm hi)
  ·obtain ⟨i,hi⟩:=List.getElem?_of_mem hq
   have:=XS hi
   have:=Qi q.2
   exact Q0J n q.2 (by omega) (Q7A hm hi)
theorem Q7B [GLay] {v:JV} (h:Ye v):jst v:=Q0J _ v (Nat.le_refl _) h
end Lg
namespace Lg
open Go
section
variable {last:Bool} {op:Int} {k:Nat} {x y:JV} {l:List JV}
theorem Q30 (hk:k≤l.length):∀ i,i≤k→eA last op k x y l i=l.take i
 |0,_=>by simp [eA]
 |i+1,h=>by
  have hx:l[i]? =some l[i]:=List.getElem?_eq_getElem (by omega)
  rw [eA,Q30 hk i (by omega),V0 (by rintro ⟨h1,_,_⟩;omega),Q0t hx (by omega),List.append_nil,QV hx]
theorem Q3Y (hk:k < l.length):∀ d,k+1+d≤l.length→eA last op k x y l (k+1+d)=eA last op k x y l (k+1)++(l.drop (k+1)).take d
 |0,_=>by simp
 |d+1,h=>by
  have hx:l[k+1+d]? =some l[k+1+d]:=List.getElem?_eq_getElem (by omega)
  have hx2:(l.drop (k+1))[d]? =some l[k+1+d]:=by rw [List.getElem?_drop];exact hx
  rw [show k+1+(d+1)=(k+1+d)+1 by omega,eA,Q3Y hk d (by omega),V0 (by rintro ⟨h1,_,_⟩;omega),Q0t hx (by omega),List.append_nil,QV hx2,List.append_assoc]
theorem Q0o (hk:k < l.length):eA last op k x y l (l.length+1)=l.take k++(XL last op k x k++Wr last op k y l k)++l.drop (k+1):=by
 have h:=Q3Y (last:=last) (op:=op) (x:=x) (y:=y) hk (l.length - (k+1)) (by omega)
 rw [show k+1+(l.length - (k+1))=l.length by omega,List.take_of_length_le (by simp)] at h
 rw [eA,V0 (by rintro ⟨h1,_,_⟩;omega),Hi (List.getElem?_eq_none (Nat.le_refl _)),List.append_nil,List.append_nil,h,eA,Q30 (by omega) k (Nat.le_refl _),List.append_assoc (l.take k)]
theorem Qc0 (hk:k < l.length):eA false op k x y l (l.length+1)=l.set k y:=by
 rw [Q0o hk,V0 (by rintro ⟨_,h,_⟩;cases h),Q41 (List.getElem?_eq_getElem hk) rfl rfl,List.set_eq_take_append_cons_drop,if_pos hk];simp
theorem QbX (hk:k≤l.length):eA true 1 k x y l (l.length+1)=l.take k++x :: l.drop k:=by
 by_cases h:k=l.length
 ·subst h
  rw [eA,Q30 (Nat.le_refl _) _ (Nat.le_refl _),Q0q ⟨rfl,rfl,by decide⟩,Hi (List.getElem?_eq_none (Nat.le_refl _))];simp
 ·have hk':k < l.length:=by omega
  rw [Q0o hk',Q0q ⟨rfl,rfl,by decide⟩,FL (List.getElem?_eq_getElem hk') rfl rfl,List.drop_eq_getElem_cons hk'];simp
theorem QbW (hk:k < l.length):eA true 2 k x y l (l.length+1)=l.take k++l.drop (k+1):=by
 rw [Q0o hk,V0 (by rintro ⟨_,_,h⟩;exact h rfl),Hh rfl rfl (by decide)];simp
theorem QbZ (hk:k < l.length):eA true 3 k x y l (l.length+1)=l.set k x:=by
 rw [Q0o hk,Q0q ⟨rfl,rfl,by decide⟩,Hh rfl rfl (by decide),List.set_eq_take_append_cons_drop,if_pos hk];simp
end
section
variable [GLay] {last:Bool} {op:Int} {key:ByteArray} {x:JV} {f:JV→JV}
theorem H8 {a b:ByteArray} (h:blt a b=true):¬a=b:=fun e=>by subst e;rw [Q0k] at h;cases h
theorem Q6F {a b:ByteArray} (h:blt a b=true):blt b a=false:=Q6G (by rw [h];rfl)
theorem Hg:∀ (m:List BJ) (put:Bool),(∀ q∈m,blt key q.1=true)→eM last op key x f m put=(if (last && decide (op ≠ 2) && !put)=true then [(key,x)] else [])++m
 |[],put,_=>by rw [eM,List.append_nil]
 |q :: r,put,h=>by
  have hq:=h q (List.mem_cons_self ..)
  have hi:eMi last op key q.1 put=(last && decide (op ≠ 2) && !put):=by unfold eMi;rw [Q6F hq];simp
  have hr:(last && decide (op ≠ 2) && !(put || eMi last op key q.1 put))=false:=by rw [hi];cases last<;>cases put<;>simp
  have hne:¬q.1=key:=fun e=>H8 hq e.symm
  rw [eM,Hg r _ (fun p hp=>h p (List.mem_cons_of_mem _ hp)),hr,if_neg hne,hi]
  simp
theorem Jt (q:BJ) (r:List BJ):QU (q :: r) key=if blt q.1 key=true then QU r key+1 else 0:=by
 unfold QU;rw [List.takeWhile_cons];split<;>simp
theorem Wv (q:BJ) (r:List BJ):fnd (q :: r) key=if blt q.1 key=true then fnd r key else decide (q.1=key):=by
 unfold fnd;rw [Jt]
 by_cases h:blt q.1 key=true
 ·rw [if_pos h,if_pos h];rfl
 ·rw [if_neg h,if_neg h];rfl
theorem GE {a b:ByteArray} (h1:¬blt a b=true) (h2:¬a=b):blt b a=true:=QbL (by simp [h1,h2])
theorem Wq:∀ (m:List BJ),Zq m→eM last op key x f m false=m.take (QU m key)++((if last=true then (if op=2 then [] else [(key,x)]) else match (if fnd m key=true then m[QU m key]? else none) with|some q=>[(q.1,f q.2)]|none=>[])++m.drop (QU m key+(if fnd m key=true then 1 else 0)))
 |[],_=>by
  rw [eM]
  cases last<;>by_cases h:op=2<;>simp [h,fnd,QU]
 |q :: r,hs=>by
  have hs':Zq r:=(List.pairwise_cons.1 hs).2
  have hall:=(List.pairwise_cons.1 hs).1
  by_cases hb:blt q.1 key=true
  ·have hi:eMi last op key q.1 false=false:=by unfold eMi;rw [hb];simp
   rw [eM,hi,if_neg (by simp),if_neg (H8 hb),Bool.or_false,Wq r hs',Jt,if_pos hb,Wv,if_pos hb,show QU r key+1+(if fnd r key=true then 1 else 0)=(QU r key+(if fnd r key=true then 1 else 0))+1 by omega]
   rfl
  ·rw [Jt,if_neg hb,Wv,if_neg hb]
   have hi:eMi last op key q.1 false=(last && decide (op ≠ 2)):=by unfold eMi;simp [hb]
   by_cases hq:q.1=key
   ·have hab:∀ p∈r,blt key p.1=true:=fun p hp=>hq ▸ hall p hp
    rw [eM,Hg r _ hab,hi,if_pos hq]
    cases last<;>by_cases h:op=2<;>simp [h,hq]
   ·have hlt:=GE hb hq
    have hab:∀ p∈q :: r,blt key p.1=true:=fun p hp=>by
     rcases List.mem_cons.1 hp with rfl|hp
     ·exact hlt
     ·exact XQ hlt (hall p hp)
    rw [Hg _ _ hab]
    cases last<;>by_cases h:op=2<;>simp [h,hq]
end
end Lg
namespace Lg
open Go
variable [GLay]
def eC (b:Bool):Int:=if b=true then 0 else 6
theorem Vt {key:ByteArray}:∀ (m:List BJ),Zq m→m.find? (fun q=>decide (q.1=key))=if fnd m key=true then m[QU m key]? else none
 |[],_=>by simp [fnd]
 |q :: r,hs=>by
  have hs':Zq r:=(List.pairwise_cons.1 hs).2
  have hall:=(List.pairwise_cons.1 hs).1
  rw [Jt,Wv]
  by_cases hb:blt q.1 key=true
  ·rw [if_pos hb,if_pos hb,List.find?_cons_of_neg (by simp [H8 hb]),Vt r hs'];rfl
  ·rw [if_neg hb,if_neg hb]
   by_cases hq:q.1=key
   ·rw [List.find?_cons_of_pos (by simp [hq])];simp [hq]
   ·rw [List.find?_cons_of_neg (by simp [hq]),List.find?_eq_none.2 (fun p hp=>by
     have:=H8 (XQ (GE hb hq) (hall p hp))
     simpa using fun e=>this e.symm)]
    simp [hq]
theorem J8 {v:JV} {key:ByteArray} (h5:v.kind=5) (hs:Zq v.m):jfB v key=fnd v.m key:=by
 unfold jfB Z7
 rw [if_pos h5,Vt v.m hs]
 by_cases h:fnd v.m key=true
 ·obtain ⟨q,hq,_⟩:=JF h
  rw [if_pos h,hq,h];rfl
 ·rw [if_neg h];simpa using h
theorem QdD {m:List BJ} {key:ByteArray} {j:Nat} {p:BJ} (hj:j < QU m key) (hp:m[j]? =some p):blt p.1 key=true:=by
 have h1:(m.takeWhile fun q=>blt q.1 key)[j]? =some p:=by
  obtain ⟨t,ht⟩:=List.takeWhile_prefix (fun q:BJ=>blt q.1 key) (l:=m)
  rw [← ht,List.getElem?_append_left hj] at hp
  exact hp
 exact List.all_eq_true.1 (List.all_takeWhile (p:=fun q=>blt q.1 key) (l:=m)) p (List.mem_of_getElem? h1)
theorem Qcs {m:List BJ} (hs:Zq m) {i j:Nat} {p q:BJ} (hp:m[i]? =some p) (hq:m[j]? =some q) (h:p.1=q.1):p=q:=by
 rcases Nat.lt_trichotomy i j with e|e|e
 ·have:=Q7H hs e hp hq;rw [h,Q0k] at this;cases this
 ·subst e;rw [hp] at hq;exact Option.some.inj hq
 ·have:=Q7H hs e hq hp;rw [h,Q0k] at this;cases this
variable {op:Int} {x:JV} {g:JV→JV×Bool} {r0:List BL}
theorem WE (h0:r0 ≠ []) (base:∀ v,jst v→jed op x r0 v=((g v).1,eC (g v).2)):∀ (l:List BL) (v:JV),jst v→jed op x (l++r0) v=((pwi g l v).1,eC (pwi g l v).2)
 |[],v,h=>base v h
 |nm :: r,v,h=>by
  have hl:(r++r0).isEmpty=false:=by cases r<;>cases r0<;>simp_all
  have hs:=Gt h
  rw [List.cons_append]
  by_cases h4:v.kind=4
  ·have hm0:v.m=[]:=Wa h (by omega)
   have hjo:jeO op nm false v=Zr nm v.l.length false:=by unfold jeO;simp
   have hjk:jeK op nm false v=ZF nm v.l.length false:=by unfold jeK;simp
   by_cases ho:Zr nm v.l.length false=true
   ·obtain ⟨k,hk,hkl⟩:=Xw ho
    have ha:v.l[k]? =some v.l[k]:=List.getElem?_eq_getElem hkl
    have ih:=WE h0 base r v.l[k] (Q1f h ha)
    have hgd:v.l.getD k vz=v.l[k]:=by rw [List.getD_eq_getElem?_getD,ha];rfl
    cases hb:(pwi g r v.l[k]).2 with
    |true=>
     rw [hb] at ih
     rw [WC hl h4 (by rw [hjk,hk]) (by rw [hjo];exact ho) (fun _=>by rw [hgd,ih];rfl),Q2f h4 ho hk ha hb,hgd,ih,Qc0 hkl,hm0];rfl
    |false=>
     rw [hb] at ih
     rw [Q1P hl h4 (by rw [hjk,hk]) (by rw [hjo];exact ho) rfl ha (by rw [ih];show ¬eC false=0;decide),WP h4 hk ha hb,ih]<;>rfl
   ·rw [WB hl h4 (by rw [hjo];simpa using ho),WR h4 (by simpa using ho)];rfl
  ·by_cases h5:v.kind=5
   ·have hl0:v.l=[]:=W9 h h4
    by_cases hf:fnd v.m (ba nm)=true
    ·obtain ⟨q,hq,hqk⟩:=JF hf
     have ih:=WE h0 base r q.2 (Q1g h hq)
     have hjf:jfB v (ba nm)=true:=by rw [J8 h5 hs];exact hf
     cases hb:(pwi g r q.2).2 with
     |true=>
      rw [hb] at ih
      have hlt:=(List.getElem?_eq_some_iff.1 hq).1
      rw [WD hl h4 h5 (.inl hjf) (FK (fun p hp hk=>by
       obtain ⟨j,hj⟩:=List.getElem?_of_mem hp
       rw [Qcs hs hj hq (hk.trans hqk.symm),ih];rfl) _),Q2g h4 h5 hf hq hb,Wq v.m hs,if_neg (by simp),if_pos hf,if_pos hf,hq,hl0,List.set_eq_take_append_cons_drop,if_pos hlt]
      simp only [ih,hqk];(try rfl)
     |false=>
      rw [hb] at ih
      rw [Q1Q hl h4 h5 (.inl hjf) (Q3Z (g:=fun y=>(jed op x (r++r0) y).2) hq (fun p hp hk=>by
       obtain ⟨j,hj⟩:=List.getElem?_of_mem hp
       rw [List.getElem?_take] at hj
       split at hj
       ·rename_i hjl;exact absurd hk (H8 (QdD hjl hj))
       ·cases hj) hqk (by simp only [ih];show ¬eC false=0;decide)) (by simp only [ih];show ¬eC false=0;decide),WQ h4 hq hb]
      simp only [ih]
    ·rw [JH hl h4 (.inr ⟨by rw [J8 h5 hs];simpa using hf,.inr rfl⟩),WS h4 (by simpa using hf)];rfl
   ·rw [JH hl h4 (.inl h5),Q2h h4 h5];rfl
end Lg
namespace Lg
open Go
variable [GLay]
theorem Q6x (x:JV) (nm:BL) (v:JV) (h:jst v):jed 1 x [nm] v=((Vf nm x v).1,eC (Vf nm x v).2):=by
 have hs:=Gt h
 have hl:([]:List BL).isEmpty=true:=rfl
 by_cases h4:v.kind=4
 ·have hm0:v.m=[]:=Wa h (by omega)
  have hjo:jeO 1 nm true v=Zr nm v.l.length true:=rfl
  have hjk:jeK 1 nm true v=ZF nm v.l.length true:=rfl
  by_cases ho:Zr nm v.l.length true=true
  ·obtain ⟨k,hk,hkl⟩:=WG ho
   rw [WC hl h4 (by rw [hjk,hk]) (by rw [hjo];exact ho) (fun h=>by cases h),Q0U h4 ho hk,QbX hkl,hm0];rfl
  ·rw [WB hl h4 (by rw [hjo];simpa using ho),GS h4 (by simpa using ho)];rfl
 ·by_cases h5:v.kind=5
  ·have hl0:v.l=[]:=W9 h h4
   rw [WD hl h4 h5 (.inr ⟨rfl,rfl⟩) rfl,Q0V h5,Wq v.m hs,if_pos rfl,if_neg (by decide),hl0]
   have:Ve v.m (ba nm) x=v.m.take (QU v.m (ba nm))++([(ba nm,x)]++v.m.drop (QU v.m (ba nm)+if fnd v.m (ba nm)=true then 1 else 0)):=by
    unfold Ve
    by_cases hf:fnd v.m (ba nm)=true
    ·obtain ⟨q,hq,_⟩:=JF hf
     rw [if_pos hf,if_pos hf,List.set_eq_take_append_cons_drop,if_pos (List.getElem?_eq_some_iff.1 hq).1];rfl
    ·rw [if_neg hf,if_neg hf];rfl
   rw [this];rfl
  ·rw [JH hl h4 (.inl h5),Q0W h4 h5];rfl
theorem Q8m (x:JV) (nm:BL) (v:JV) (h:jst v):jed 2 x [nm] v=((KE nm v).1,eC (KE nm v).2):=by
 have hs:=Gt h
 have hl:([]:List BL).isEmpty=true:=rfl
 by_cases h4:v.kind=4
 ·have hm0:v.m=[]:=Wa h (by omega)
  have hjo:jeO 2 nm true v=Zr nm v.l.length false:=rfl
  have hjk:jeK 2 nm true v=ZF nm v.l.length false:=rfl
  by_cases ho:Zr nm v.l.length false=true
  ·obtain ⟨k,hk,hkl⟩:=Xw ho
   rw [WC hl h4 (by rw [hjk,hk]) (by rw [hjo];exact ho) (fun h=>by cases h),Q11 h4 ho hk,QbW hkl,hm0];rfl
  ·rw [WB hl h4 (by rw [hjo];simpa using ho),GU h4 (by simpa using ho)];rfl
 ·by_cases h5:v.kind=5
  ·have hl0:v.l=[]:=W9 h h4
   by_cases hf:fnd v.m (ba nm)=true
   ·rw [WD hl h4 h5 (.inl (by rw [J8 h5 hs];exact hf)) rfl,Q12 h5 hf,Wq v.m hs,if_pos rfl,if_pos rfl,if_pos hf,hl0];rfl
   ·rw [JH hl h4 (.inr ⟨by rw [J8 h5 hs];simpa using hf,.inl (by decide)⟩),WO h5 (by simpa using hf)];rfl
  ·rw [JH hl h4 (.inl h5),Q13 h4 h5];rfl
theorem Q8n (x:JV) (nm:BL) (v:JV) (h:jst v):jed 3 x [nm] v=((pwi (fun _=>(x,true)) [nm] v).1,eC (pwi (fun _=>(x,true)) [nm] v).2):=by
 have hs:=Gt h
 have hl:([]:List BL).isEmpty=true:=rfl
 by_cases h4:v.kind=4
 ·have hm0:v.m=[]:=Wa h (by omega)
  have hjo:jeO 3 nm true v=Zr nm v.l.length false:=rfl
  have hjk:jeK 3 nm true v=ZF nm v.l.length false:=rfl
  by_cases ho:Zr nm v.l.length false=true
  ·obtain ⟨k,hk,hkl⟩:=Xw ho
   have ha:v.l[k]? =some v.l[k]:=List.getElem?_eq_getElem hkl
   rw [WC hl h4 (by rw [hjk,hk]) (by rw [hjo];exact ho) (fun h=>by cases h),Q2f h4 ho hk ha rfl,QbZ hkl,hm0];rfl
  ·rw [WB hl h4 (by rw [hjo];simpa using ho),WR h4 (by simpa using ho)];rfl
 ·by_cases h5:v.kind=5
  ·have hl0:v.l=[]:=W9 h h4
   by_cases hf:fnd v.m (ba nm)=true
   ·obtain ⟨q,hq,_⟩:=JF hf
    rw [WD hl h4 h5 (.inl (by rw [J8 h5 hs];exact hf)) rfl,Q2g h4 h5 hf hq rfl,Wq v.m hs,if_pos rfl,if_neg (by decide),if_pos hf,hl0,List.set_eq_take_append_cons_drop,if_pos (List.getElem?_eq_some_iff.1 hq).1];rfl
   ·rw [JH hl h4 (.inr ⟨by rw [J8 h5 hs];simpa using hf,.inl (by decide)⟩),WS h4 (by simpa using hf)];rfl
  ·rw [JH hl h4 (.inl h5),Q2h h4 h5];rfl
theorem Q4B {g:JV→JV×Bool} (r:List BL):∀ (l:List BL) (v:JV),pwi g (l++r) v=pwi (pwi g r) l v
 |[],v=>rfl
 |nm :: l,v=>by rw [List.cons_append,pwi,pwi];simp only [Q4B r l]
theorem GG (x:JV) (l:List BL) (nm:BL) (v:JV) (h:jst v):jed 1 x (l++[nm]) v=((pwi (Vf nm x) l v).1,eC (pwi (Vf nm x) l v).2):=WE (by simp) (Q6x x nm) l v h
theorem Vy (x:JV) (l:List BL) (nm:BL) (v:JV) (h:jst v):jed 2 x (l++[nm]) v=((pwi (KE nm) l v).1,eC (pwi (KE nm) l v).2):=WE (by simp) (Q8m x nm) l v h
theorem GH (x:JV) (l:List BL) (v:JV) (h:jst v):jed 3 x l v=((pwi (fun _=>(x,true)) l v).1,eC (pwi (fun _=>(x,true)) l v).2):=by
 rcases List.eq_nil_or_concat l with rfl|⟨l0,nm,rfl⟩
 ·rw [Vx (by decide)];rfl
 ·rw [List.concat_eq_append,Q4B];exact WE (by simp) (Q8n x nm) l0 v h
end Lg
namespace Lg
end Lg
namespace Lg
open Go
theorem V9 (l:List JV):lb l↔∀ x∈l,jb x:=by
 induction l with
 |nil=>simp [lb]
 |cons a r ih=>simp [lb,ih]
theorem JS (m:List (ByteArray×JV)):mb m↔∀ q∈m,q.1.size≤1000000∧jb q.2:=by
 induction m with
 |nil=>simp [mb]
 |cons a r ih=>obtain ⟨k,v⟩:=a;simp [mb,ih,and_assoc]
theorem XF:jb vz:=Qeg.1
theorem Q58:Q6 vz=1:=by simp [vz,Q6,Qm,Qw]
theorem Qds {v:JV} {k:Nat} (hs:Q6 v≤10000) (hb:jb v):Q6 (v.l.getD k vz)≤10000∧jb (v.l.getD k vz):=by
 rw [List.getD_eq_getElem?_getD]
 cases h:v.l[k]? with
 |none=>exact ⟨by rw [Option.getD_none,Q58];decide,XF⟩
 |some x=>
  have h1:=ZG h
  have h2:=Zs v
  have h3:=Zh v.m
  exact ⟨by rw [Option.getD_some];omega,Ys ((Zy v).1 hb).2.2.2.2.1 h⟩
theorem Qdt {v:JV} {k:Nat} {key:ByteArray} (hs:Q6 v≤10000) (hb:jb v):Q6 (v.m.getD k (key,vz)).2≤10000∧jb (v.m.getD k (key,vz)).2:=by
 rw [List.getD_eq_getElem?_getD]
 cases h:v.m[k]? with
 |none=>exact ⟨by rw [Option.getD_none,Q58];decide,XF⟩
 |some x=>
  have h1:=XS h
  have h2:=Zs v
  have h3:=Ze v.l
  exact ⟨by rw [Option.getD_some];omega,((JS _).1 ((Zy v).1 hb).2.2.2.2.2 x (List.mem_of_getElem? h)).2⟩
theorem Q6B {nm:BL} (h:nm.length≤1000000):(ba nm).size≤1000000:=by rw [ZY];exact h
theorem Q14 {g:JV→JV×Bool} (hg:∀ v,Q6 v≤10000→jb v→jb (g v).1):∀ (l:List BL) (v:JV),(∀ n∈l,n.length≤1000000)→Q6 v≤10000→jb v→jb (pwi g l v).1
 |[],v,_,hs,hb=>hg v hs hb
 |nm :: r,v,hl,hs,hb=>by
  have ih:=Q14 hg r
  have hl':∀ n∈r,n.length≤1000000:=fun n h=>hl n (List.mem_cons_of_mem _ h)
  have hv:=(Zy v).1 hb
  rw [pwi]
  split
  ·split
   ·rw [Zy]
    refine ⟨hv.1,hv.2.1,by simp only [JV.l,List.length_set];exact hv.2.2.1,hv.2.2.2.1,(V9 _).2 fun x hx=>?_,hv.2.2.2.2.2⟩
    rcases List.mem_or_eq_of_mem_set hx with h|h
    ·exact (V9 _).1 hv.2.2.2.2.1 x h
    ·rw [h];exact ih _ hl' (Qds hs hb).1 (Qds hs hb).2
   ·exact XF
  ·split
   ·rw [Zy]
    refine ⟨hv.1,hv.2.1,hv.2.2.1,by simp only [JV.m,List.length_set];exact hv.2.2.2.1,hv.2.2.2.2.1,(JS _).2 fun x hx=>?_⟩
    rcases List.mem_or_eq_of_mem_set hx with h|h
    ·exact (JS _).1 hv.2.2.2.2.2 x h
    ·rw [h];exact ⟨Q6B (hl nm (List.mem_cons_self ..)),ih _ hl' (Qdt hs hb).1 (Qdt hs hb).2⟩
   ·exact XF
theorem Q1Y:∀ l:List JV,(l.length:Int)≤Qm l
 |[]=>by simp [Qm]
 |a :: r=>by have h1:=Q1Y r;have h2:=Qi a;simp only [Qm,List.length_cons];omega
theorem Q20:∀ l:List (ByteArray×JV),(l.length:Int)≤Qw l
 |[]=>by simp [Qw]
 |(k,a) :: r=>by have h1:=Q20 r;have h2:=Qi a;simp only [Qw,List.length_cons];omega
theorem Qba {v:JV} (hs:Q6 v≤10000):v.l.length≤10000∧v.m.length≤10000:=by
 have h2:=Zs v
 have h3:=Q1Y v.l
 have h4:=Q20 v.m
 omega
theorem Qal {nm:BL} {x:JV} (hn:nm.length≤1000000) (hx:jb x) (v:JV) (hs:Q6 v≤10000) (hb:jb v):jb (Vf nm x v).1:=by
 have hv:=(Zy v).1 hb
 have hln:=Qba hs
 unfold Vf
 split
 ·split
  ·rw [Zy]
   refine ⟨hv.1,hv.2.1,?_,hv.2.2.2.1,(V9 _).2 fun y hy=>?_,hv.2.2.2.2.2⟩
   ·show List.length (_++_)≤_
    simp only [List.length_append,List.length_take,List.length_cons,List.length_drop];omega
   ·rcases List.mem_append.1 hy with h|h
    ·exact (V9 _).1 hv.2.2.2.2.1 y (List.mem_of_mem_take h)
    ·rcases List.mem_cons.1 h with h|h
     ·rw [h];exact hx
     ·exact (V9 _).1 hv.2.2.2.2.1 y (List.mem_of_mem_drop h)
  ·exact XF
 ·split
  ·rw [Zy]
   have hm:(Ve v.m (ba nm) x).length≤1000000∧∀ q∈Ve v.m (ba nm) x,q.1.size≤1000000∧jb q.2:=by
    unfold Ve
    split
    ·refine ⟨by rw [List.length_set];omega,fun q hq=>?_⟩
     rcases List.mem_or_eq_of_mem_set hq with h|h
     ·exact (JS _).1 hv.2.2.2.2.2 q h
     ·rw [h];exact ⟨Q6B hn,hx⟩
    ·refine ⟨by simp only [List.length_append,List.length_take,List.length_cons,List.length_drop];omega,fun q hq=>?_⟩
     rcases List.mem_append.1 hq with h|h
     ·exact (JS _).1 hv.2.2.2.2.2 q (List.mem_of_mem_take h)
     ·rcases List.mem_cons.1 h with h|h
      ·rw [h];exact ⟨Q6B hn,hx⟩
      ·exact (JS _).1 hv.2.2.2.2.2 q (List.mem_of_mem_drop h)
   exact ⟨hv.1,hv.2.1,hv.2.2.1,hm.1,hv.2.2.2.2.1,(JS _).2 hm.2⟩
  ·exact XF
theorem Qao {nm:BL} (v:JV) (hs:Q6 v≤10000) (hb:jb v):jb (KE nm v).1:=by
 have hv:=(Zy v).1 hb
 have hln:=Qba hs
 unfold KE
 split
 ·split
  ·rw [Zy]
   refine ⟨hv.1,hv.2.1,?_,hv.2.2.2.1,(V9 _).2 fun y hy=>?_,hv.2.2.2.2.2⟩
   ·show List.length (_++_)≤_
    simp only [List.length_append,List.length_take,List.length_drop];omega
   ·rcases List.mem_append.1 hy with h|h
    ·exact (V9 _).1 hv.2.2.2.2.1 y (List.mem_of_mem_take h)
    ·exact (V9 _).1 hv.2.2.2.2.1 y (List.mem_of_mem_drop h)
  ·exact XF
 ·split
  ·split
   ·rw [Zy]
    refine ⟨hv.1,hv.2.1,hv.2.2.1,?_,hv.2.2.2.2.1,(JS _).2 fun q hq=>?_⟩
    ·show List.length (_++_)≤_
     simp only [List.length_append,List.length_take,List.length_drop];omega
    ·rcases List.mem_append.1 hq with h|h
     ·exact (JS _).1 hv.2.2.2.2.2 q (List.mem_of_mem_take h)
     ·exact (JS _).1 hv.2.2.2.2.2 q (List.mem_of_mem_drop h)
   ·exact XF
  ·exact XF
theorem Hu [GLay] {op:Int} (hop:op=1∨op=2∨op=3) {x:JV} (hx:jb x) (l:List BL) (hl:∀ n∈l,n.length≤1000000) {v:JV} (hs:Q6 v≤10000) (hb:jb v) (hm:jst v):jb (jed op x l v).1∧0≤(jed op x l v).2∧(jed op x l v).2≤7:=by
 have he:∀ b,0≤eC b∧eC b≤7:=by decide
 rcases hop with rfl|rfl|rfl
 ·rcases List.eq_nil_or_concat l with rfl|⟨l0,nm,rfl⟩
  ·rw [Vx (by decide)];exact ⟨hx,Int.le_refl _,show (0:Int)≤7 by decide⟩
  ·rw [List.concat_eq_append] at *
   rw [GG x l0 nm v hm]
   exact ⟨Q14 (Qal (hl nm (by simp)) hx) l0 v (fun n h=>hl n (List.mem_append_left _ h)) hs hb,he _⟩
 ·rcases List.eq_nil_or_concat l with rfl|⟨l0,nm,rfl⟩
  ·rw [V5];exact ⟨XF,show (0:Int)≤7 by decide,Int.le_refl _⟩
  ·rw [List.concat_eq_append] at *
   rw [Vy x l0 nm v hm]
   exact ⟨Q14 Qao l0 v (fun n h=>hl n (List.mem_append_left _ h)) hs hb,he _⟩
 ·rw [GH x l v hm]
  exact ⟨Q14 (fun _ _ _=>hx) l v hl hs hb,he _⟩
end Lg
namespace Lg
open Go
def prM (m:List BJ) (key:ByteArray):List BJ:=m.take (QU m key)++m.drop (QU m key+1)
section
variable [GLay] {key:ByteArray} {x y:JV}
theorem HI:Ve [] key x=[(key,x)]:=by simp [Ve,fnd,QU]
theorem UO (q:BJ) (r:List BJ):Ve (q :: r) key x=if blt q.1 key=true then q :: Ve r key x else if q.1=key then (key,x) :: r else (key,x) :: q :: r:=by
 unfold Ve
 rw [Jt,Wv]
 by_cases h:blt q.1 key=true
 ·simp only [if_pos h]
  by_cases hf:fnd r key=true
  ·rw [if_pos hf,if_pos hf];rfl
  ·rw [if_neg hf,if_neg hf];rfl
 ·simp only [if_neg h]
  by_cases hq:q.1=key
  ·simp [hq]
  ·simp [hq]
theorem HH:∀ (m:List BJ),∀ q∈Ve m key x,q=(key,x)∨q∈m
 |[],q,h=>by rw [HI] at h;simp at h;exact .inl h
 |p :: r,q,h=>by
  rw [UO] at h
  split at h
  ·rcases List.mem_cons.1 h with h|h
   ·exact .inr (h ▸ List.mem_cons_self ..)
   ·rcases HH r q h with h|h
    ·exact .inl h
    ·exact .inr (List.mem_cons_of_mem _ h)
  ·split at h
   ·rcases List.mem_cons.1 h with h|h
    ·exact .inl h
    ·exact .inr (List.mem_cons_of_mem _ h)
   ·rcases List.mem_cons.1 h with h|h
    ·exact .inl h
    ·exact .inr h
theorem Gq:∀ {m:List BJ},Zq m→Zq (Ve m key x)
 |[],_=>by rw [HI];exact List.pairwise_singleton _ _
 |p :: r,hs=>by
  have hs':Zq r:=(List.pairwise_cons.1 hs).2
  have hall:=(List.pairwise_cons.1 hs).1
  rw [UO]
  split
  ·rename_i hb
   refine List.pairwise_cons.2 ⟨fun q hq=>?_,Gq hs'⟩
   rcases HH r q hq with h|h
   ·subst h;exact hb
   ·exact hall q h
  ·rename_i hb
   split
   ·rename_i hq
    exact List.pairwise_cons.2 ⟨fun q h=>by rw [← hq];exact hall q h,hs'⟩
   ·rename_i hq
    have hlt:=GE hb hq
    refine List.pairwise_cons.2 ⟨fun q h=>?_,hs⟩
    rcases List.mem_cons.1 h with h|h
    ·subst h;exact hlt
    ·exact XQ hlt (hall q h)
theorem Q3z {m:List BJ} (h:Zq m):Zq (prM m key):=by
 unfold prM;rw [← List.eraseIdx_eq_take_drop_succ]
 exact List.Pairwise.sublist (List.eraseIdx_sublist ..) h
theorem Q8F {m:List BJ} {k:Nat} {q:BJ} (hq:m[k]? =some q):(m.set k (q.1,y)).map (·.1)=m.map (·.1):=by
 obtain ⟨hk,e⟩:=List.getElem?_eq_some_iff.1 hq
 rw [List.map_set]
 have:(m.map (·.1))[k]'(by simpa using hk)=q.1:=by simp [e]
 show List.set _ k q.1=_
 rw [← this,List.set_getElem_self]
theorem Q9Y {m n:List BJ} (h:m.map (·.1)=n.map (·.1)) (hs:Zq n):Zq m:=by
 have h1:(n.map (·.1)).Pairwise (fun a b=>blt a b=true):=List.pairwise_map.2 hs
 rw [← h] at h1
 exact List.pairwise_map.1 h1
end
section
variable [GLay] {nm:BL} {r:List BL} {v:JV}
theorem Q9B {q:BJ} (hs:Zq v.m) (h5:v.kind=5) (hf:fnd v.m (ba nm)=true) (hq:v.m[QU v.m (ba nm)]? =some q):Qz (nm :: r) v=Qz r q.2:=by
 have e:jfD v (ba nm)=q.2:=by unfold jfD Z7;rw [if_pos h5,Vt _ hs,if_pos hf,hq];rfl
 rw [Hw (by omega) (by rw [J8 h5 hs];exact hf),e]
theorem Q7m (hs:Zq v.m) (h5:v.kind=5) (hf:fnd v.m (ba nm)=false):Qz (nm :: r) v=(vz,false):=Jn (by omega) (by rw [J8 h5 hs];exact hf)
theorem Q9C (h4:¬v.kind=4) (h5:¬v.kind=5):Qz (nm :: r) v=(vz,false):=Jn h4 (by unfold jfB Z7;rw [if_neg h5];rfl)
theorem GI:∀ (l:List BL) {v:JV},jst v→jst (Qz l v).1
 |[],v,h=>h
 |nm :: r,v,h=>by
  by_cases h4:v.kind=4
  ·by_cases ho:Zr nm v.l.length false=true
   ·obtain ⟨k,hk,hlt⟩:=Xw ho
    rw [Hv h4 ho hk (List.getElem?_eq_getElem hlt)]
    exact GI r (Q1f h (List.getElem?_eq_getElem hlt))
   ·rw [V7 h4 (by simpa using ho)];exact XZ
  ·by_cases h5:v.kind=5
   ·by_cases hf:fnd v.m (ba nm)=true
    ·obtain ⟨q,hq,_⟩:=JF hf
     rw [Q9B (Gt h) h5 hf hq];exact GI r (Q1g h hq)
    ·rw [Q7m (Gt h) h5 (by simpa using hf)];exact XZ
   ·rw [Q9C h4 h5];exact XZ
end
section
variable [GLay] {g:JV→JV×Bool}
theorem Q4N {α:Type} {l:List α} {k:Nat} {a x:α} (h:x∈l.set k a):x∈l∨x=a:=List.mem_or_eq_of_mem_set h
theorem HL (hg:∀ v,jst v→jst (g v).1):∀ (l:List BL) (v:JV),jst v→jst (pwi g l v).1
 |[],v,h=>hg v h
 |nm :: l,v,hv=>by
  by_cases h4:v.kind=4
  ·by_cases ho:Zr nm v.l.length false=true
   ·obtain ⟨k,hk,hkl⟩:=Xw ho
    have ha:v.l[k]? =some v.l[k]:=List.getElem?_eq_getElem hkl
    cases hb:(pwi g l v.l[k]).2 with
    |false=>rw [WP h4 hk ha hb];exact XZ
    |true=>
     rw [Q2f h4 ho hk ha hb,XY]
     have hv':=(XY v).1 hv
     refine ⟨fun h=>absurd h4 h,hv'.2.1,hv'.2.2.1,fun x hx=>?_,hv'.2.2.2.2⟩
     rcases Q4N hx with hx|hx
     ·exact hv'.2.2.2.1 x hx
     ·rw [hx];exact HL hg l _ (Q1f hv ha)
   ·rw [WR h4 (by simpa using ho)];exact XZ
  ·by_cases h5:v.kind=5
   ·by_cases hf:fnd v.m (ba nm)=true
    ·obtain ⟨q,hq,hqk⟩:=JF hf
     have hqk:q.1=ba nm:=hqk
     cases hb:(pwi g l q.2).2 with
     |false=>rw [WQ h4 hq hb];exact XZ
     |true=>
      rw [Q2g h4 h5 hf hq hb,XY]
      have hv':=(XY v).1 hv
      refine ⟨hv'.1,fun h=>absurd h5 h,Q9Y (n:=v.m) (by rw [← hqk];rw [← hqk] at hq;exact Q8F hq) hv'.2.2.1,hv'.2.2.2.1,fun x hx=>?_⟩
      rcases Q4N hx with hx|hx
      ·exact hv'.2.2.2.2 x hx
      ·rw [hx];exact HL hg l _ (Q1g hv hq)
    ·rw [WS h4 (by simpa using hf)];exact XZ
   ·rw [Q2h h4 h5];exact XZ
end
section
variable [GLay] {nm:BL} {x u:JV}
theorem Qam (hx:jst x) (v:JV) (hv:jst v):jst (Vf nm x v).1:=by
 have hv':=(XY v).1 hv
 by_cases h4:v.kind=4
 ·by_cases ho:Zr nm v.l.length true=true
  ·obtain ⟨k,hk,hkl⟩:=WG ho
   rw [Q0U h4 ho hk,XY]
   refine ⟨fun h=>absurd h4 h,hv'.2.1,hv'.2.2.1,fun y hy=>?_,hv'.2.2.2.2⟩
   rcases List.mem_append.1 hy with h|h
   ·exact hv'.2.2.2.1 y (List.mem_of_mem_take h)
   ·rcases List.mem_cons.1 h with h|h
    ·rw [h];exact hx
    ·exact hv'.2.2.2.1 y (List.mem_of_mem_drop h)
  ·rw [GS h4 (by simpa using ho)];exact XZ
 ·by_cases h5:v.kind=5
  ·rw [Q0V h5,XY]
   refine ⟨hv'.1,fun h=>absurd h5 h,Gq hv'.2.2.1,hv'.2.2.2.1,fun q hq=>?_⟩
   rcases HH _ q hq with h|h
   ·rw [h];exact hx
   ·exact hv'.2.2.2.2 q h
  ·rw [Q0W h4 h5];exact XZ
theorem Qap (v:JV) (hv:jst v):jst (KE nm v).1:=by
 have hv':=(XY v).1 hv
 by_cases h4:v.kind=4
 ·by_cases ho:Zr nm v.l.length false=true
  ·obtain ⟨k,hk,hkl⟩:=Xw ho
   rw [Q11 h4 ho hk,XY]
   refine ⟨fun h=>absurd h4 h,hv'.2.1,hv'.2.2.1,fun y hy=>?_,hv'.2.2.2.2⟩
   rcases List.mem_append.1 hy with h|h
   ·exact hv'.2.2.2.1 y (List.mem_of_mem_take h)
   ·exact hv'.2.2.2.1 y (List.mem_of_mem_drop h)
  ·rw [GU h4 (by simpa using ho)];exact XZ
 ·by_cases h5:v.kind=5
  ·by_cases hf:fnd v.m (ba nm)=true
   ·rw [Q12 h5 hf,XY]
    refine ⟨hv'.1,fun h=>absurd h5 h,Q3z hv'.2.2.1,hv'.2.2.2.1,fun q hq=>?_⟩
    rcases List.mem_append.1 hq with h|h
    ·exact hv'.2.2.2.2 q (List.mem_of_mem_take h)
    ·exact hv'.2.2.2.2 q (List.mem_of_mem_drop h)
   ·rw [WO h5 (by simpa using hf)];exact XZ
  ·rw [Q13 h4 h5];exact XZ
theorem Q0B {op:Int} (hop:op=1∨op=2∨op=3) {x:JV} (hx:jst x) (l:List BL) {v:JV} (hv:jst v):jst (jed op x l v).1:=by
 rcases hop with rfl|rfl|rfl
 ·rcases List.eq_nil_or_concat l with rfl|⟨l0,nm,rfl⟩
  ·rw [Vx (by decide)];exact hx
  ·rw [List.concat_eq_append,GG x l0 nm v hv];exact HL (Qam hx) l0 v hv
 ·rcases List.eq_nil_or_concat l with rfl|⟨l0,nm,rfl⟩
  ·rw [V5];exact XZ
  ·rw [List.concat_eq_append,Vy x l0 nm v hv];exact HL Qap l0 v hv
 ·rw [GH x l v hv];exact HL (fun _ _=>hx) l v hv
end
section
variable [GLay] {x z v:JV} {l0:List BL} {nm:BL}
end
end Lg
namespace Lg
open Go
noncomputable def jdo (v:JV) (o:JOp):JV×Int:=open Classical in
 if o.op≤3 then jed o.op o.v o.pa v else
 if o.op=4∧o.fr.length < o.pa.length∧o.pa.take o.fr.length=o.fr then (vz,9) else
 if (Qz (if o.op=6 then o.pa else o.fr) v).2=false then (vz,6) else
 if o.op=6 then (if (Qz o.pa v).1=o.v then (v,0) else (vz,8)) else
 if o.op=4 then (if o.pa=o.fr then (v,0) else if (jed 2 vz o.fr v).2 ≠ 0 then (vz,(jed 2 vz o.fr v).2) else jed 1 (Qz o.fr v).1 o.pa (jed 2 vz o.fr v).1) else
 jed 1 (Qz o.fr v).1 o.pa v
def pmv (v:JV) (o:JOp):JV×Int:=
 if o.fr.length < o.pa.length∧o.pa.take o.fr.length=o.fr then (vz,9) else
 if (Qz o.fr v).2=false then (v,6) else
 if o.pa=o.fr then (v,0) else
 if (jed 2 vz o.fr v).2 ≠ 0 then (vz,(jed 2 vz o.fr v).2) else jed 1 (Qz o.fr v).1 o.pa (jed 2 vz o.fr v).1
noncomputable def pts (v:JV) (o:JOp):JV×Int:=open Classical in
 (v,if (Qz o.pa v).2=false then 6 else if (Qz o.pa v).1=o.v then 0 else 8)
noncomputable def pdo (v:JV) (o:JOp):JV×Int:=
 if o.op=1∨o.op=2∨o.op=3 then jed o.op o.v o.pa v else
 if o.op=4 then pmv v o else
 if o.op=5 then (if (Qz o.fr v).2=false then (vz,6) else jed 1 (Qz o.fr v).1 o.pa v) else pts v o
theorem Q4z {v:JV} {o:JOp} (h1:1≤o.op) (h6:o.op≤6):(pdo v o).2=(jdo v o).2∧((jdo v o).2=0→pdo v o=jdo v o):=by
 obtain ⟨op,pa,fr,w⟩:=o
 simp only at h1 h6
 rcases (show op=1∨op=2∨op=3∨op=4∨op=5∨op=6 by omega) with rfl|rfl|rfl|rfl|rfl|rfl
 ·exact ⟨rfl,fun _=>rfl⟩
 ·exact ⟨rfl,fun _=>rfl⟩
 ·exact ⟨rfl,fun _=>rfl⟩
 ·have e1:pdo v ⟨4,pa,fr,w⟩=pmv v ⟨4,pa,fr,w⟩:=rfl
  have e2:jdo v ⟨4,pa,fr,w⟩=if fr.length < pa.length∧pa.take fr.length=fr then (vz,9) else if (Qz fr v).2=false then (vz,6) else (if pa=fr then (v,0) else if (jed 2 vz fr v).2 ≠ 0 then (vz,(jed 2 vz fr v).2) else jed 1 (Qz fr v).1 pa (jed 2 vz fr v).1):=by
   unfold jdo
   simp only [if_neg (show ¬(4:Int)≤3 by decide),if_neg (show ¬(4:Int)=6 by decide),true_and,if_true]
  rw [e1,e2]
  unfold pmv
  simp only
  by_cases ha:fr.length < pa.length∧pa.take fr.length=fr
  ·rw [if_pos ha,if_pos ha];exact ⟨rfl,fun _=>rfl⟩
  ·rw [if_neg ha,if_neg ha]
   by_cases hb:(Qz fr v).2=false
   ·rw [if_pos hb,if_pos hb];exact ⟨rfl,fun h=>absurd h (show ¬(6:Int)=0 by decide)⟩
   ·rw [if_neg hb,if_neg hb];exact ⟨rfl,fun _=>rfl⟩
 ·have e1:pdo v ⟨5,pa,fr,w⟩=if (Qz fr v).2=false then (vz,6) else jed 1 (Qz fr v).1 pa v:=rfl
  have e2:jdo v ⟨5,pa,fr,w⟩=if (Qz fr v).2=false then (vz,6) else jed 1 (Qz fr v).1 pa v:=by
   unfold jdo
   simp only [if_neg (show ¬(5:Int)≤3 by decide),if_neg (show ¬(5:Int)=6 by decide),if_neg (show ¬(5:Int)=4 by decide)]
   rw [if_neg (fun h=>absurd h.1 (by decide))]
  rw [e1,e2];exact ⟨rfl,fun _=>rfl⟩
 ·have e1:pdo v ⟨6,pa,fr,w⟩=pts v ⟨6,pa,fr,w⟩:=rfl
  have e2:jdo v ⟨6,pa,fr,w⟩=open Classical in if (Qz pa v).2=false then (vz,6) else if (Qz pa v).1=w then (v,0) else (vz,8):=by
   unfold jdo
   simp only [if_neg (show ¬(6:Int)≤3 by decide),if_true]
   rw [if_neg (fun h=>absurd h.1 (by decide))]
  rw [e1,e2]
  unfold pts
  simp only
  by_cases hb:(Qz pa v).2=false
  ·rw [if_pos hb,if_pos hb];exact ⟨rfl,fun h=>absurd h (show ¬(6:Int)=0 by decide)⟩
  ·rw [if_neg hb,if_neg hb]
   by_cases hs:(Qz pa v).1=w
   ·rw [if_pos hs,if_pos hs];exact ⟨rfl,fun _=>rfl⟩
   ·rw [if_neg hs,if_neg hs];exact ⟨rfl,fun h=>absurd h (show ¬(8:Int)=0 by decide)⟩
def Xm (r:JV×Int):Int:=if r.2 ≠ 0 then r.2 else if 3000 < Q6 r.1 then 5 else if 32 < QZ r.1 then 3 else 0
noncomputable def jap:List JOp→JV→Nat→JV×Int×Int
 |[],v,_=>(v,0,0)
 |o :: r,v,i=>if Xm (jdo v o) ≠ 0 then (vz,Xm (jdo v o),(i:Int)) else jap r (jdo v o).1 (i+1)
theorem Ht {o:JOp} {r:List JOp} {v:JV} {i:Nat} (h:Xm (jdo v o)=0):jap (o :: r) v i=jap r (jdo v o).1 (i+1):=by rw [jap,if_neg (by simp [h])]
theorem WA {o:JOp} {r:List JOp} {v:JV} {i:Nat} {c:Int} (h:Xm (jdo v o)=c) (hc:¬c=0):jap (o :: r) v i=(vz,c,(i:Int)):=by rw [jap,h,if_pos hc]
theorem Q0z {r:JV×Int} (h:Xm r=0):r.2=0∧Q6 r.1≤3000∧QZ r.1≤32:=by
 unfold Xm at h
 split at h
 ·rename_i h1;exact absurd h h1
 ·rename_i h1
  split at h
  ·cases h
  ·split at h
   ·cases h
   ·exact ⟨Classical.byContradiction h1,by omega,by omega⟩
end Lg
namespace Lg
open Go
theorem Jg (a b:List JV):Qm (a++b)=Qm a+Qm b:=by
 induction a with
 |nil=>simp [Qm]
 |cons x r ih=>simp only [List.cons_append,Qm,ih];omega
theorem UC (a b:List BJ):Qw (a++b)=Qw a+Qw b:=by
 induction a with
 |nil=>simp [Qw]
 |cons x r ih=>obtain ⟨k,x⟩:=x;simp only [List.cons_append,Qw,ih];omega
theorem Gk {l:List JV} {k:Nat} (hk:k < l.length):Qm l=Qm (l.take k)+Q6 l[k]+Qm (l.drop (k+1)):=by
 have h:l=l.take k++(l[k] :: l.drop (k+1)):=by rw [← List.drop_eq_getElem_cons hk,List.take_append_drop]
 conv=>lhs;rw [h]
 rw [Jg,Qm];omega
theorem Gl {l:List BJ} {k:Nat} (hk:k < l.length):Qw l=Qw (l.take k)+Q6 l[k].2+Qw (l.drop (k+1)):=by
 have h:l=l.take k++(l[k] :: l.drop (k+1)):=by rw [← List.drop_eq_getElem_cons hk,List.take_append_drop]
 have e:l[k]=(l[k].1,l[k].2):=rfl
 conv=>lhs;rw [h,e]
 rw [UC,Qw];omega
theorem Q5D {l:List JV} {k:Nat} (hk:k < l.length) (a:JV):Qm (l.set k a)=Qm l - Q6 l[k]+Q6 a:=by
 rw [Gk hk,List.set_eq_take_append_cons_drop,if_pos hk,Jg,Qm];omega
theorem Q5G {l:List BJ} {k:Nat} (hk:k < l.length) (n:ByteArray) (a:JV):Qw (l.set k (n,a))=Qw l - Q6 l[k].2+Q6 a:=by
 rw [Gl hk,List.set_eq_take_append_cons_drop,if_pos hk,UC,Qw];omega
theorem XW:Q6 vz=1:=Q58
section
variable [GLay] {g:JV→JV×Bool} {C:Int}
theorem Vg (hC:0≤C) (hg:∀ v,Q6 (g v).1≤Q6 v+C):∀ (l:List BL) (v:JV),Q6 (pwi g l v).1≤Q6 v+C
 |[],v=>hg v
 |nm :: r,v=>by
  have hp:=Qi v
  have hz:Q6 vz≤Q6 v+C:=by rw [XW];omega
  have hv:=Zs v
  by_cases h4:v.kind=4
  ·by_cases ho:Zr nm v.l.length false=true
   ·obtain ⟨k,hk,hkl⟩:=Xw ho
    have ha:v.l[k]? =some v.l[k]:=List.getElem?_eq_getElem hkl
    cases hb:(pwi g r v.l[k]).2 with
    |false=>rw [WP h4 hk ha hb];exact hz
    |true=>
     rw [Q2f h4 ho hk ha hb]
     show Q6 (JV.mk _ _ _ _ (v.l.set k _) _)≤_
     have ih:=Vg hC hg r v.l[k]
     rw [Q6,Q5D hkl];omega
   ·rw [WR h4 (by simpa using ho)];exact hz
  ·by_cases h5:v.kind=5
   ·by_cases hf:fnd v.m (ba nm)=true
    ·obtain ⟨q,hq,hqk⟩:=JF hf
     have hkl:=(List.getElem?_eq_some_iff.1 hq).1
     have hqe:v.m[QU v.m (ba nm)]=q:=(List.getElem?_eq_some_iff.1 hq).2
     cases hb:(pwi g r q.2).2 with
     |false=>rw [WQ h4 hq hb];exact hz
     |true=>
      rw [Q2g h4 h5 hf hq hb]
      show Q6 (JV.mk _ _ _ _ _ (v.m.set (QU v.m (ba nm)) _))≤_
      have ih:=Vg hC hg r q.2
      rw [Q6,Q5G hkl,hqe];omega
    ·rw [WS h4 (by simpa using hf)];exact hz
   ·rw [Q2h h4 h5];exact hz
theorem Q5Y (m:List BJ) (key:ByteArray) (x:JV):Qw (Ve m key x)≤Qw m+Q6 x:=by
 induction m with
 |nil=>rw [HI];simp [Qw]
 |cons q r ih=>
  obtain ⟨k,y⟩:=q
  have:=Qi y
  rw [UO]
  split
  ·simp only [Qw];omega
  ·split
   ·simp only [Qw];omega
   ·simp only [Qw];omega
theorem Q5Z (nm:BL) (x v:JV):Q6 (Vf nm x v).1≤Q6 v+Q6 x:=by
 have hp:=Qi v
 have hx:=Qi x
 have hv:=Zs v
 by_cases h4:v.kind=4
 ·by_cases ho:Zr nm v.l.length true=true
  ·obtain ⟨k,hk,hkl⟩:=WG ho
   rw [Q0U h4 ho hk]
   show Q6 (JV.mk _ _ _ _ (v.l.take k++x :: v.l.drop k) _)≤_
   have h1:Qm (v.l.take k)+Qm (v.l.drop k)=Qm v.l:=by rw [← Jg,List.take_append_drop]
   rw [Q6,Jg,Qm];omega
  ·rw [GS h4 (by simpa using ho)];show Q6 vz≤_;rw [XW];omega
 ·by_cases h5:v.kind=5
  ·rw [Q0V h5]
   show Q6 (JV.mk _ _ _ _ _ (Ve v.m (ba nm) x))≤_
   have:=Q5Y v.m (ba nm) x
   rw [Q6];omega
  ·rw [Q0W h4 h5];show Q6 vz≤_;rw [XW];omega
theorem Q61 (nm:BL) (v:JV):Q6 (KE nm v).1≤Q6 v+0:=by
 have hp:=Qi v
 have hv:=Zs v
 by_cases h4:v.kind=4
 ·by_cases ho:Zr nm v.l.length false=true
  ·obtain ⟨k,hk,hkl⟩:=Xw ho
   rw [Q11 h4 ho hk]
   show Q6 (JV.mk _ _ _ _ (v.l.take k++v.l.drop (k+1)) _)≤_
   have h1:=Gk hkl
   have h2:=Qi v.l[k]
   rw [Q6,Jg];omega
  ·rw [GU h4 (by simpa using ho)];show Q6 vz≤_;rw [XW];omega
 ·by_cases h5:v.kind=5
  ·by_cases hf:fnd v.m (ba nm)=true
   ·obtain ⟨q,hq,hqk⟩:=JF hf
    have hkl:=(List.getElem?_eq_some_iff.1 hq).1
    rw [Q12 h5 hf]
    show Q6 (JV.mk _ _ _ _ _ (v.m.take (QU v.m (ba nm))++v.m.drop (QU v.m (ba nm)+1)))≤_
    have h1:=Gl hkl
    have h2:=Qi v.m[QU v.m (ba nm)].2
    rw [Q6,UC];omega
   ·rw [WO h5 (by simpa using hf)];show Q6 vz≤_;rw [XW];omega
  ·rw [Q13 h4 h5];show Q6 vz≤_;rw [XW];omega
theorem V6 {op:Int} (hop:op=1∨op=2∨op=3) (x:JV) (l:List BL) {v:JV} (hv:jst v):Q6 (jed op x l v).1≤Q6 v+Q6 x:=by
 have hx:=Qi x
 have hp:=Qi v
 rcases hop with rfl|rfl|rfl
 ·rcases List.eq_nil_or_concat l with rfl|⟨l0,nm,rfl⟩
  ·rw [Vx (by decide)];show Q6 x≤_;omega
  ·rw [List.concat_eq_append,GG x l0 nm v hv];exact Vg (by omega) (Q5Z nm x) l0 v
 ·rcases List.eq_nil_or_concat l with rfl|⟨l0,nm,rfl⟩
  ·rw [V5];show Q6 vz≤_;rw [XW];omega
  ·rw [List.concat_eq_append,Vy x l0 nm v hv]
   have:=Vg (Int.le_refl 0) (Q61 nm) l0 v
   show Q6 (pwi _ _ _).1≤_;omega
 ·rw [GH x l v hv]
  exact Vg (by omega) (fun u=>by have:=Qi u;show Q6 x≤_;omega) l v
end
structure OPB (o:JOp):Prop where
 lo:1≤o.op
 hi:o.op≤6
 jb:Lg.jb o.v
 st:jst o.v
 sz:Q6 o.v≤3000
 pa:o.pa.length≤2000000
 fr:o.fr.length≤2000000
 pan:∀ n∈o.pa,n.length≤1000000
 frn:∀ n∈o.fr,n.length≤1000000
section
variable [GLay] {v:JV} {o:JOp}
theorem Q9z (h:o.op≤3):jdo v o=jed o.op o.v o.pa v:=by unfold jdo;rw [if_pos h]
theorem Q7i (h:¬o.op≤3) (hi:o.op=4∧o.fr.length < o.pa.length∧o.pa.take o.fr.length=o.fr):jdo v o=(vz,9):=by unfold jdo;rw [if_neg h,if_pos hi]
theorem Q7j (h:¬o.op≤3) (hi:¬(o.op=4∧o.fr.length < o.pa.length∧o.pa.take o.fr.length=o.fr)) (hg:(Qz (if o.op=6 then o.pa else o.fr) v).2=false):jdo v o=(vz,6):=by unfold jdo;rw [if_neg h,if_neg hi,if_pos hg]
theorem Qce (h:¬o.op≤3) (hi:¬(o.op=4∧o.fr.length < o.pa.length∧o.pa.take o.fr.length=o.fr)) (hg:¬(Qz (if o.op=6 then o.pa else o.fr) v).2=false) (h6:o.op=6) (hs:¬(Qz o.pa v).1=o.v):jdo v o=(vz,8):=by unfold jdo;rw [if_neg h,if_neg hi,if_neg hg,if_pos h6,if_neg hs]
theorem Qcd (h:¬o.op≤3) (hi:¬(o.op=4∧o.fr.length < o.pa.length∧o.pa.take o.fr.length=o.fr)) (hg:¬(Qz (if o.op=6 then o.pa else o.fr) v).2=false) (h6:o.op=6) (hs:(Qz o.pa v).1=o.v):jdo v o=(v,0):=by unfold jdo;rw [if_neg h,if_neg hi,if_neg hg,if_pos h6,if_pos hs]
theorem Q7l (h:¬o.op≤3) (hi:¬(o.op=4∧o.fr.length < o.pa.length∧o.pa.take o.fr.length=o.fr)) (hg:¬(Qz (if o.op=6 then o.pa else o.fr) v).2=false) (h6:¬o.op=6) (h4:o.op=4) (he:o.pa=o.fr):jdo v o=(v,0):=by unfold jdo;rw [if_neg h,if_neg hi,if_neg hg,if_neg h6,if_pos h4,if_pos he]
theorem Q7k (h:¬o.op≤3) (hi:¬(o.op=4∧o.fr.length < o.pa.length∧o.pa.take o.fr.length=o.fr)) (hg:¬(Qz (if o.op=6 then o.pa else o.fr) v).2=false) (h6:¬o.op=6) (h4:o.op=4) (he:¬o.pa=o.fr) (hr:¬(jed 2 vz o.fr v).2=0):jdo v o=(vz,(jed 2 vz o.fr v).2):=by unfold jdo;rw [if_neg h,if_neg hi,if_neg hg,if_neg h6,if_pos h4,if_neg he,if_pos hr]
theorem Qcc (h:¬o.op≤3) (hi:¬(o.op=4∧o.fr.length < o.pa.length∧o.pa.take o.fr.length=o.fr)) (hg:¬(Qz (if o.op=6 then o.pa else o.fr) v).2=false) (h6:¬o.op=6) (h4:o.op=4) (he:¬o.pa=o.fr) (hr:(jed 2 vz o.fr v).2=0):jdo v o=jed 1 (Qz o.fr v).1 o.pa (jed 2 vz o.fr v).1:=by unfold jdo;rw [if_neg h,if_neg hi,if_neg hg,if_neg h6,if_pos h4,if_neg he,if_neg (fun x=>x hr)]
theorem Qcb (h:¬o.op≤3) (hi:¬(o.op=4∧o.fr.length < o.pa.length∧o.pa.take o.fr.length=o.fr)) (hg:¬(Qz (if o.op=6 then o.pa else o.fr) v).2=false) (h6:¬o.op=6) (h4:¬o.op=4):jdo v o=jed 1 (Qz o.fr v).1 o.pa v:=by unfold jdo;rw [if_neg h,if_neg hi,if_neg hg,if_neg h6,if_neg h4]
theorem QcL (hob:OPB o) (hb:jb v) (hs:jst v) (hz:Q6 v≤3000):(jb (pmv v o).1∧jst (pmv v o).1∧Q6 (pmv v o).1≤9000)∧0≤(pmv v o).2∧(pmv v o).2≤9:=by
 have hvz:jb vz∧jst vz∧Q6 vz≤9000:=⟨XF,XZ,by rw [XW];decide⟩
 have hw:=Vz o.fr hb
 have hws:=GI o.fr hs
 have hwz:=K0 o.fr hz (by decide)
 have hr:=Hu (op:=2) (.inr (.inl rfl)) XF o.fr hob.frn (by omega:Q6 v≤10000) hb hs
 have hrs:=Q0B (op:=2) (.inr (.inl rfl)) XZ o.fr hs
 have hrz:=V6 (op:=2) (.inr (.inl rfl)) vz o.fr hs
 rw [XW] at hrz
 have ha:=Hu (op:=1) (.inl rfl) hw o.pa hob.pan (by omega:Q6 (jed 2 vz o.fr v).1≤10000) hr.1 hrs
 have has:=Q0B (op:=1) (.inl rfl) hws o.pa hrs
 have haz:=V6 (op:=1) (.inl rfl) (Qz o.fr v).1 o.pa hrs
 unfold pmv
 split
 ·exact ⟨hvz,by show (0:Int)≤9;decide,Int.le_refl _⟩
 ·split
  ·exact ⟨⟨hb,hs,by show Q6 v≤9000;omega⟩,by show (0:Int)≤6;decide,by show (6:Int)≤9;decide⟩
  ·split
   ·exact ⟨⟨hb,hs,by show Q6 v≤9000;omega⟩,Int.le_refl _,by show (0:Int)≤9;decide⟩
   ·split
    ·exact ⟨hvz,hr.2.1,by have:=hr.2.2;show (jed 2 vz o.fr v).2≤9;omega⟩
    ·exact ⟨⟨ha.1,has,by omega⟩,ha.2.1,by have:=ha.2.2;omega⟩
theorem Q10 (hob:OPB o) (hb:jb v) (hs:jst v) (hz:Q6 v≤3000):(jb (pdo v o).1∧jst (pdo v o).1∧Q6 (pdo v o).1≤9000)∧0≤(pdo v o).2∧(pdo v o).2≤9:=by
 have hvz:jb vz∧jst vz∧Q6 vz≤9000:=⟨XF,XZ,by rw [XW];decide⟩
 unfold pdo
 split
 ·rename_i h
  have h1:=Hu h hob.jb o.pa hob.pan (by omega:Q6 v≤10000) hb hs
  have h2:=V6 h o.v o.pa hs
  have h3:=hob.sz
  exact ⟨⟨h1.1,Q0B h hob.st o.pa hs,by omega⟩,h1.2.1,by have:=h1.2.2;omega⟩
 ·split
  ·exact QcL hob hb hs hz
  ·split
   ·split
    ·exact ⟨hvz,by show (0:Int)≤6;decide,by show (6:Int)≤9;decide⟩
    ·have hw:=Vz o.fr hb
     have h1:=Hu (op:=1) (.inl rfl) hw o.pa hob.pan (by omega:Q6 v≤10000) hb hs
     have h2:=V6 (op:=1) (.inl rfl) (Qz o.fr v).1 o.pa hs
     have h3:=K0 o.fr hz (by decide)
     exact ⟨⟨h1.1,Q0B (.inl rfl) (GI o.fr hs) o.pa hs,by omega⟩,h1.2.1,by have:=h1.2.2;omega⟩
   ·refine ⟨⟨hb,hs,by show Q6 v≤9000;omega⟩,?_⟩
    show 0≤(if _ then _ else _:Int)∧(if _ then _ else _:Int)≤9
    split
    ·decide
    ·split<;>decide
theorem QaB {a b:List BL}:ba (shw a)=ba (shw b)↔a=b:=by
 constructor
 ·intro h
  have h1:=congrArg (fun x=>x.data.toList) h
  simp only [Zu] at h1
  have h2:=congrArg pN h1
  rwa [(Q88 a).2,(Q88 b).2] at h2
 ·intro h;rw [h]
theorem QdV (h:(Qz o.pa v).2=false):pts v o=(v,6):=by unfold pts;rw [if_pos h]
theorem QdU (h:¬(Qz o.pa v).2=false) (hs:(Qz o.pa v).1=o.v):pts v o=(v,0):=by unfold pts;rw [if_neg h,if_pos hs]
theorem QdW (h:¬(Qz o.pa v).2=false) (hs:¬(Qz o.pa v).1=o.v):pts v o=(v,8):=by unfold pts;rw [if_neg h,if_neg hs]
theorem Q8a (h:o.fr.length < o.pa.length∧o.pa.take o.fr.length=o.fr):pmv v o=(vz,9):=by unfold pmv;rw [if_pos h]
theorem Q8b (h:¬(o.fr.length < o.pa.length∧o.pa.take o.fr.length=o.fr)) (hg:(Qz o.fr v).2=false):pmv v o=(v,6):=by unfold pmv;rw [if_neg h,if_pos hg]
theorem Q8d (h:¬(o.fr.length < o.pa.length∧o.pa.take o.fr.length=o.fr)) (hg:¬(Qz o.fr v).2=false) (he:o.pa=o.fr):pmv v o=(v,0):=by unfold pmv;rw [if_neg h,if_neg hg,if_pos he]
theorem Q8c (h:¬(o.fr.length < o.pa.length∧o.pa.take o.fr.length=o.fr)) (hg:¬(Qz o.fr v).2=false) (he:¬o.pa=o.fr) (hr:¬(jed 2 vz o.fr v).2=0):pmv v o=(vz,(jed 2 vz o.fr v).2):=by unfold pmv;rw [if_neg h,if_neg hg,if_neg he,if_pos hr]
theorem QcK (h:¬(o.fr.length < o.pa.length∧o.pa.take o.fr.length=o.fr)) (hg:¬(Qz o.fr v).2=false) (he:¬o.pa=o.fr) (hr:(jed 2 vz o.fr v).2=0):pmv v o=jed 1 (Qz o.fr v).1 o.pa (jed 2 vz o.fr v).1:=by unfold pmv;rw [if_neg h,if_neg hg,if_neg he,if_neg (fun z=>z hr)]
theorem QdN (h:o.op=1):pdo v o=jed 1 o.v o.pa v:=by unfold pdo;rw [if_pos (.inl h),h]
theorem QdO (h:o.op=2):pdo v o=jed 2 o.v o.pa v:=by unfold pdo;rw [if_pos (.inr (.inl h)),h]
theorem QdP (h:o.op=3):pdo v o=jed 3 o.v o.pa v:=by unfold pdo;rw [if_pos (.inr (.inr h)),h]
theorem QdQ (h:o.op=4):pdo v o=pmv v o:=by unfold pdo;rw [if_neg (by omega),if_pos h]
theorem QcI (h:o.op=5) (hg:(Qz o.fr v).2=false):pdo v o=(vz,6):=by unfold pdo;rw [if_neg (by omega),if_neg (by omega),if_pos h,if_pos hg]
theorem QdR (h:o.op=5) (hg:¬(Qz o.fr v).2=false):pdo v o=jed 1 (Qz o.fr v).1 o.pa v:=by unfold pdo;rw [if_neg (by omega),if_neg (by omega),if_pos h,if_neg hg]
theorem QdS (h:o.op=6):pdo v o=pts v o:=by unfold pdo;rw [if_neg (by omega),if_neg (by omega),if_neg (by omega)]
end
end Lg
namespace Lg
open Go
section
variable [GLay]
theorem Qcf {v:JV} {key:ByteArray} (h:jst v):jst (jfD v key):=by
 unfold jfD Z7
 split
 ·cases hf:v.m.find? fun q=>decide (q.1=key) with
  |none=>exact XZ
  |some q=>exact ((XY v).1 h).2.2.2.2 q (List.mem_of_find?_eq_some hf)
 ·exact XZ
theorem QdM (s:BL):∀ x∈pN s,x.length≤s.length:=by
 cases h:pE s with
 |none=>exact (Q87 h).2
 |some i=>
  by_cases h0:s=[]
  ·subst h0;intro x hx;simp [pN] at hx
  ·rw [Q0T h0 h];intro x hx;cases hx
theorem Q49 {v:JV} {key:ByteArray} (h:jb v):∀ n∈Yz v key,n.length≤1000000:=by
 unfold Yz
 split
 ·have h5:=((Zy _).1 (W2 (key:=key) h)).2.1
  have h6:(jfD v key).s.data.toList.length=(jfD v key).s.size:=Array.length_toList ..
  intro n hn
  have:=QdM _ n hn
  omega
 ·intro n hn;cases hn
theorem Q9E {v:JV} {o:JOp} (hb:jb v) (hs:jst v) (hz:Q6 v≤3000) (ho:jop v=some o):OPB o:=by
 have hr:=W3 v
 have hz1:Q6 vz≤3000:=by rw [XW];decide
 by_cases h0:Xn v=0
 ·rw [Q38 h0] at ho;cases ho
 ·by_cases hp:KV v XG=true
  ·have hpl:=Q1T hb hp
   have hpn:=Q49 (key:=XG) hb
   have he:∀ n∈([]:List BL),n.length≤1000000:=fun n hn=>by cases hn
   by_cases h4:Xn v=4∨Xn v=5
   ·rw [Kv hp h4] at ho
    split at ho
    ·rename_i hf
     cases ho
     exact ⟨by show 1≤Xn v;omega,hr.2,XF,XZ,hz1,hpl,Q1T hb hf,hpn,Q49 hb⟩
    ·cases ho
   ·by_cases h2:Xn v=2
    ·rw [Q3a hp h2] at ho;cases ho
     exact ⟨by show (1:Int)≤2;decide,by show (2:Int)≤6;decide,XF,XZ,hz1,hpl,Nat.zero_le _,hpn,he⟩
    ·rw [Hx hp h0 h4 h2] at ho
     split at ho
     ·cases ho
      exact ⟨by show 1≤Xn v;omega,hr.2,W2 hb,Qcf hs,Q1R hz (by decide),hpl,Nat.zero_le _,hpn,he⟩
     ·cases ho
  ·rw [Q39 (by simpa using hp)] at ho;cases ho
theorem Q7o {l:List JV} {os:List JOp} (hl:∀ x∈l,jb x∧jst x∧Q6 x≤3000) (h:YU l=some os):∀ o∈os,OPB o:=by
 induction l generalizing os with
 |nil=>simp [YU] at h;subst h;intro o ho;cases ho
 |cons a r ih=>
  rw [YU] at h
  cases ha:jop a with
  |none=>rw [ha] at h;cases h
  |some o=>
   rw [ha] at h
   simp only [Option.map_eq_some_iff] at h
   obtain ⟨os',h1,rfl⟩:=h
   intro p hp
   have h2:=hl a (List.mem_cons_self ..)
   rcases List.mem_cons.1 hp with rfl|hp
   ·exact Q9E h2.1 h2.2.1 h2.2.2 ha
   ·exact ih (fun x hx=>hl x (List.mem_cons_of_mem _ hx)) h1 p hp
noncomputable def opQ (s:ByteArray):List JOp×Int:=if (QW s).2=0 then ([],0) else if ¬Uv (QW s).1=0 then ([],0) else (jrd (QW s).1,1)
theorem Qbe {s:ByteArray} (h:(QW s).2=0):opQ s=([],0):=by unfold opQ;rw [if_pos h]
theorem Qbf {s:ByteArray} (h:¬(QW s).2=0) (hb:¬Uv (QW s).1=0):opQ s=([],0):=by unfold opQ;rw [if_neg h,if_pos hb]
theorem Qbg {s:ByteArray} (h:¬(QW s).2=0) (hb:Uv (QW s).1=0):opQ s=(jrd (QW s).1,1):=by unfold opQ;rw [if_neg h,if_neg (fun x=>x hb)]
theorem Q9F {v:JV} (hb:jb v) (hs:jst v) (hz:Q6 v≤3000):(jrd v).length≤100∧∀ o∈jrd v,OPB o:=by
 have he:∀ o∈([]:List JOp),OPB o:=fun o ho=>by cases ho
 unfold jrd
 split
 ·exact ⟨Nat.zero_le _,he⟩
 ·split
  ·exact ⟨Nat.zero_le _,he⟩
  ·rename_i h1 h2
   cases hj:YU v.l with
   |none=>exact ⟨Nat.zero_le _,he⟩
   |some os=>
    refine ⟨by have:=Q1S hj;show os.length≤100;omega,?_⟩
    exact Q7o (fun x hx=>by
     obtain ⟨i,hi⟩:=List.getElem?_of_mem hx
     have h3:=ZG hi
     have h4:=Zs v
     have h5:=Zh v.m
     exact ⟨Ys ((Zy v).1 hb).2.2.2.2.1 hi,Q1f hs hi,by omega⟩) hj
theorem Q7L (s:ByteArray):(opQ s).1.length≤100∧∀ o∈(opQ s).1,OPB o:=by
 have he:∀ o∈([]:List JOp),OPB o:=fun o ho=>by cases ho
 by_cases h:(QW s).2=0
 ·rw [Qbe h];exact ⟨Nat.zero_le _,he⟩
 ·by_cases hb:Uv (QW s).1=0
  ·rw [Qbg h hb]
   rcases US s with h1|⟨_,h2,h3,h4⟩
   ·exact absurd h1.1 h
   ·exact Q9F h3 (Q7B h2) (by omega)
  ·rw [Qbf h hb];exact ⟨Nat.zero_le _,he⟩
def jE (r:JV×Int×Int):Option (Int×Int):=if r.2.1=0 then none else some (r.2.2,r.2.1)
theorem Qdw {r:JV×Int×Int} (h:r.2.1=0):jE r=none:=by unfold jE;rw [if_pos h]
theorem Qdx {r:JV×Int×Int} (h:¬r.2.1=0):jE r=some (r.2.2,r.2.1):=by unfold jE;rw [if_neg h]
theorem GT {v:JV} {o:JOp} (hob:OPB o):Xm (pdo v o)=Xm (jdo v o)∧(Xm (jdo v o)=0→pdo v o=jdo v o):=by
 obtain ⟨h1,h2⟩:=Q4z (v:=v) hob.lo hob.hi
 by_cases h:(jdo v o).2=0
 ·rw [h2 h];exact ⟨rfl,fun _=>rfl⟩
 ·have e1:Xm (jdo v o)=(jdo v o).2:=by unfold Xm;rw [if_pos h]
  have e2:Xm (pdo v o)=(jdo v o).2:=by unfold Xm;rw [if_pos (by rw [h1];exact h),h1]
  rw [e1,e2];exact ⟨rfl,fun h0=>absurd h0 h⟩
theorem Q0A {r:JV×Int} (h:¬r.2=0):Xm r=r.2:=by unfold Xm;rw [if_pos h]
theorem Q7g {r:JV×Int} (h:r.2=0) (h1:3000 < Q6 r.1):Xm r=5:=by unfold Xm;rw [if_neg (fun x=>x h),if_pos h1]
theorem Q7f {r:JV×Int} (h:r.2=0) (h1:¬3000 < Q6 r.1) (h2:32 < QZ r.1):Xm r=3:=by unfold Xm;rw [if_neg (fun x=>x h),if_neg h1,if_pos h2]
theorem Q47 {r:JV×Int} (h:r.2=0) (h1:¬3000 < Q6 r.1) (h2:¬32 < QZ r.1):Xm r=0:=by unfold Xm;rw [if_neg (fun x=>x h),if_neg h1,if_neg h2]
def Fq (r:JV×Int):Int:=if r.2 ≠ 0 then r.2 else if 3000 < Q6 r.1 then 5 else 0
theorem Q36 {r:JV×Int} (h:¬r.2=0):Fq r=r.2:=by unfold Fq;rw [if_pos h]
theorem Q35 {r:JV×Int} (h:r.2=0) (h1:3000 < Q6 r.1):Fq r=5:=by unfold Fq;rw [if_neg (fun x=>x h),if_pos h1]
theorem Q7h {r:JV×Int} (h:r.2=0) (h1:¬3000 < Q6 r.1):Fq r=0:=by unfold Fq;rw [if_neg (fun x=>x h),if_neg h1]
theorem Qc9 {r:JV×Int} (h:¬Fq r=0):Xm r=Fq r:=by
 by_cases h0:r.2=0
 ·by_cases h1:3000 < Q6 r.1
  ·rw [Q7g h0 h1,Q35 h0 h1]
  ·rw [Q7h h0 h1] at h;exact absurd rfl h
 ·rw [Q0A h0,Q36 h0]
theorem Qca {r:JV×Int} (h:Fq r=0):r.2=0∧¬3000 < Q6 r.1:=by
 by_cases h0:r.2=0
 ·by_cases h1:3000 < Q6 r.1
  ·rw [Q35 h0 h1] at h;cases h
  ·exact ⟨h0,h1⟩
 ·rw [Q36 h0] at h;exact absurd h h0
theorem Q1O {v:JV} {o:JOp} (hob:OPB o) (hb:jb v) (hs:jst v) (hz:Q6 v≤3000):0≤Xm (pdo v o)∧Xm (pdo v o)≤9:=by
 have h:=(Q10 hob hb hs hz).2
 unfold Xm
 split
 ·exact h
 ·split
  ·decide
  ·split<;>decide
theorem Q34:∀ (l:List JOp) (v:JV) (i:Nat),(∀ o∈l,OPB o)→jb v→jst v→Q6 v≤3000→jb (jap l v i).1∧jst (jap l v i).1∧Q6 (jap l v i).1≤3000
 |[],v,i,_,hb,hs,hz=>⟨hb,hs,hz⟩
 |o :: r,v,i,hl,hb,hs,hz=>by
  have hob:=hl o (List.mem_cons_self ..)
  by_cases h:Xm (jdo v o)=0
  ·rw [Ht h]
   have h1:=Q10 hob hb hs hz
   rw [(GT hob).2 h] at h1
   exact Q34 r _ _ (fun p hp=>hl p (List.mem_cons_of_mem _ hp)) h1.1.1 h1.1.2.1 (Q0z h).2.1
  ·rw [WA rfl h];exact ⟨XF,XZ,by show Q6 vz≤3000;rw [XW];decide⟩
end
end Lg
namespace Lg
open Go
section
variable [GLay]
end
end Lg
namespace Lg
open Go
inductive JT where
 |mk (id k:Int) (b:Bool) (n:JNum) (s:ByteArray) (ks:List ByteArray) (ch:List JT)
def JT.id:JT→Int| .mk i _ _ _ _ _ _=>i
def JT.k:JT→Int| .mk _ k _ _ _ _ _=>k
def JT.b:JT→Bool| .mk _ _ b _ _ _ _=>b
def JT.n:JT→JNum| .mk _ _ _ n _ _ _=>n
def JT.s:JT→ByteArray| .mk _ _ _ _ s _ _=>s
def JT.ks:JT→List ByteArray| .mk _ _ _ _ _ ks _=>ks
def JT.ch:JT→List JT| .mk _ _ _ _ _ _ ch=>ch
def ZC (l:List ByteArray):List (List AV):=l.map fun x=>[AV.str x]
mutual
def tc:JT→List AV
 | .mk id k b n s ks ch=>.int .i64 id :: (H7 k b n s++[.sl false 1 (ZC ks),.sl false 1 (tcs ch)])
def tcs:List JT→List (List AV)
 |[]=>[]
 |x :: r=>[.pp (tc x)] :: tcs r
end
mutual
def tv:JT→JV
 | .mk _ k b n s ks ch=>.mk k b n s (if k=4 then tvs ch else []) (if k=4 then [] else ks.zip (tvs ch))
def tvs:List JT→List JV
 |[]=>[]
 |x :: r=>tv x :: tvs r
end
theorem Yb:∀ l,tcs l=l.map fun x=>[AV.pp (tc x)]
 |[]=>rfl
 |x :: r=>by rw [tcs,Yb r];rfl
theorem X7:∀ l,tvs l=l.map tv
 |[]=>rfl
 |x :: r=>by rw [tvs,X7 r];rfl
theorem X0 (l:List JT):(tcs l).length=l.length:=by rw [Yb];simp
theorem Xz (l:List JT):(tvs l).length=l.length:=by rw [X7];simp
theorem ZD (l:List ByteArray):(ZC l).length=l.length:=by simp [ZC]
theorem KK {l:List JT} {i:Nat} {x:JT} (h:l[i]? =some x):(tcs l)[i]? =some [.pp (tc x)]:=by rw [Yb];simp [h]
theorem YP {l:List JT} {i:Nat} {x:JT} (h:l[i]? =some x):(tvs l)[i]? =some (tv x):=by rw [X7];simp [h]
theorem Wm {l:List ByteArray} {i:Nat} {x:ByteArray} (h:l[i]? =some x):(ZC l)[i]? =some [.str x]:=by simp [ZC,h]
theorem JC (l:List ByteArray):∀ r∈ZC l,r.length=1:=by intro r hr;simp [ZC] at hr;obtain ⟨a,_,rfl⟩:=hr;rfl
theorem Wb (l:List JT):∀ r∈tcs l,r.length=1:=by intro r hr;rw [Yb] at hr;simp at hr;obtain ⟨a,_,rfl⟩:=hr;rfl
theorem Qe6 (t:JT):tc t= .int .i64 t.id :: (H7 t.k t.b t.n t.s++[.sl false 1 (ZC t.ks),.sl false 1 (tcs t.ch)]):=by
 cases t;simp [tc,JT.id,JT.k,JT.b,JT.n,JT.s,JT.ks,JT.ch]
theorem G0 (t:JT):tc t=[.int .i64 t.id,.int .i64 t.k,.bool t.b,.bool t.n.neg,.str t.n.digits,.int .i64 t.n.exp,.str t.s,.nils,.nils,.sl false 1 (ZC t.ks),.sl false 1 (tcs t.ch)]:=Qe6 t
theorem Gu (t:JT):tv t= .mk t.k t.b t.n t.s (if t.k=4 then tvs t.ch else []) (if t.k=4 then [] else t.ks.zip (tvs t.ch)):=by
 cases t;rw [tv];rfl
theorem XK (t:JT):(tv t).kind=t.k:=by rw [Gu];rfl
theorem Q2B (t:JT):(tv t).b=t.b:=by rw [Gu];rfl
theorem Q2D (t:JT):(tv t).n=t.n:=by rw [Gu];rfl
theorem Q2E (t:JT):(tv t).s=t.s:=by rw [Gu];rfl
theorem Ko {t:JT} (h:t.k=4):(tv t).l=tvs t.ch:=by rw [Gu,if_pos h];rfl
theorem Q2C {t:JT} (h:t.k=4):(tv t).m=[]:=by rw [Gu,if_pos h];simp [h,JV.m]
theorem Fa {t:JT} (h:¬t.k=4):(tv t).l=[]:=by rw [Gu,if_neg h];rfl
theorem U9 {t:JT} (h:¬t.k=4):(tv t).m=t.ks.zip (tvs t.ch):=by rw [Gu,if_neg h,if_neg h];rfl
inductive TW:JT→Prop where
 |mk (id k:Int) (b:Bool) (n:JNum) (s:ByteArray) (ks:List ByteArray) (ch:List JT) (h5:¬k=5→ks=[]) (hl:k=5→ks.length=ch.length) (h4:¬k=4→¬k=5→ch=[])
  (hs:ks.Pairwise fun p q=>blt p q=true) (hc:∀ x∈ch,TW x):TW (.mk id k b n s ks ch)
theorem Vq (t:JT):TW t↔(¬t.k=5→t.ks=[])∧(t.k=5→t.ks.length=t.ch.length)∧(¬t.k=4→¬t.k=5→t.ch=[])∧(t.ks.Pairwise fun p q=>blt p q=true)∧∀ x∈t.ch,TW x:=by
 constructor
 ·intro h
  cases h with
  |mk id k b n s ks ch h5 hl h4 hs hc=>exact ⟨h5,hl,h4,hs,hc⟩
 ·intro h
  cases t with
  |mk id k b n s ks ch=>exact .mk id k b n s ks ch h.1 h.2.1 h.2.2.1 h.2.2.2.1 h.2.2.2.2
section
variable {t:JT} (h:TW t)
include h
theorem Uc (hk:¬t.k=5):t.ks=[]:=((Vq t).1 h).1 hk
theorem Vr (hk:t.k=5):t.ks.length=t.ch.length:=((Vq t).1 h).2.1 hk
theorem Q0c (h4:¬t.k=4) (h5:¬t.k=5):t.ch=[]:=((Vq t).1 h).2.2.1 h4 h5
theorem We:t.ks.Pairwise fun p q=>blt p q=true:=((Vq t).1 h).2.2.2.1
theorem JW {i:Nat} {x:JT} (hx:t.ch[i]? =some x):TW x:=((Vq t).1 h).2.2.2.2 x (List.mem_of_getElem? hx)
end
theorem Fk {α β:Type}:∀ (a:List α) (b:List β),a.length=b.length→(a.zip b).map (·.1)=a∧(a.zip b).map (·.2)=b
 |[],[],_=>⟨rfl,rfl⟩
 |x :: a,y :: b,h=>by
  obtain ⟨h1,h2⟩:=Fk a b (by simpa using h)
  exact ⟨by simp [h1],by simp [h2]⟩
 |[],_ :: _,h=>by simp at h
 |_ :: _,[],h=>by simp at h
theorem KM {t:JT} (h:TW t):K1 (tv t)=tvs t.ch:=by
 unfold K1
 by_cases h4:t.k=4
 ·rw [Ko h4,Q2C h4];simp
 ·rw [Fa h4,U9 h4]
  by_cases h5:t.k=5
  ·rw [(Fk _ _ (by rw [Xz];exact Vr h h5)).2];rfl
  ·rw [Q0c h h4 h5];simp [tvs]
theorem YO {t:JT} (h:TW t):(tv t).m.map (·.1)=t.ks:=by
 by_cases h4:t.k=4
 ·rw [Q2C h4,Uc h (by omega)];rfl
 ·rw [U9 h4]
  by_cases h5:t.k=5
  ·rw [(Fk _ _ (by rw [Xz];exact Vr h h5)).1]
  ·rw [Uc h h5];rfl
theorem Qbd {m:List BJ}:Zq m↔(m.map (·.1)).Pairwise fun p q=>blt p q=true:=by
 unfold Zq;rw [List.pairwise_map]
mutual
theorem Jx:∀ t:JT,TW t→jst (tv t)
 | .mk id k b n s ks ch,h=>by
  have hk:=KM h
  have hy:=YO h
  have hc:=Q95 ch (fun x hx=>((Vq _).1 h).2.2.2.2 x hx)
  rw [XY]
  refine ⟨fun h4=>?_,fun h5=>?_,?_,fun x hx=>?_,fun q hq=>?_⟩
  ·exact Fa (t:=.mk id k b n s ks ch) (by rw [← XK];exact h4)
  ·have h5':¬JT.k (.mk id k b n s ks ch)=5:=by rw [← XK];exact h5
   have e:=Uc h h5'
   rw [e] at hy
   exact List.map_eq_nil_iff.1 hy
  ·rw [Qbd,hy];exact We h
  ·exact hc x (by rw [show tvs ch=K1 (tv (.mk id k b n s ks ch)) from hk.symm];exact List.mem_append_left _ hx)
  ·exact hc q.2 (by rw [show tvs ch=K1 (tv (.mk id k b n s ks ch)) from hk.symm];exact List.mem_append_right _ (List.mem_map.2 ⟨q,hq,rfl⟩))
theorem Q95:∀ l:List JT,(∀ x∈l,TW x)→∀ v∈tvs l,jst v
 |[],_,v,hv=>by cases hv
 |x :: r,h,v,hv=>by
  rw [tvs] at hv
  rcases List.mem_cons.1 hv with rfl|hv
  ·exact Jx x (h x (List.mem_cons_self ..))
  ·exact Q95 r (fun y hy=>h y (List.mem_cons_of_mem _ hy)) v hv
end
mutual
def tj:JV→Int→JT
 | .mk k b n s l m,id=>.mk id k b n s (m.map (·.1)) (tjl l (id+1)++tjm m (id+1+Qm l))
def tjl:List JV→Int→List JT
 |[],_=>[]
 |x :: r,id=>tj x id :: tjl r (id+Q6 x)
def tjm:List (ByteArray×JV)→Int→List JT
 |[],_=>[]
 |(_,x) :: r,id=>tj x id :: tjm r (id+Q6 x)
end
mutual
theorem VG:∀ (v:JV) (id:Int),Y3 v id=tc (tj v id)
 | .mk k b n s l m,id=>by
  rw [Y3,tj,tc,Qbm l,Qbn m,Yb,Yb,Yb,List.map_append];simp [JQ,ZC]
theorem Qbm:∀ (l:List JV) (id:Int),tL l id=tcs (tjl l id)
 |[],id=>rfl
 |x :: r,id=>by rw [tL,tjl,tcs,VG x,Qbm r]
theorem Qbn:∀ (l:List (ByteArray×JV)) (id:Int),tM l id=tcs (tjm l id)
 |[],id=>rfl
 |(a,x) :: r,id=>by rw [tM,tjm,tcs,VG x,Qbn r]
end
theorem Q4T:∀ (l:List (ByteArray×JV)) (id:Int),(tjm l id).length=l.length
 |[],_=>rfl
 |(a,x) :: r,id=>by rw [tjm,List.length_cons,Q4T r,List.length_cons]
mutual
theorem Q2w:∀ (v:JV) (id:Int),jst v→TW (tj v id)
 | .mk k b n s l m,id,h=>by
  have h1:=W9 h
  have h2:=Wa h
  rw [tj]
  refine .mk _ _ _ _ _ _ _ (fun h5=>?_) (fun h5=>?_) (fun h4 h5=>?_) ?_ (fun x hx=>?_)
  ·rw [show m=[] from h2 h5];rfl
  ·rw [show l=[] from h1 (by show ¬k=4;omega)];simp [tjl,Q4T]
  ·rw [show l=[] from h1 h4,show m=[] from h2 h5];rfl
  ·exact Qbd.1 (Gt h)
  ·rcases List.mem_append.1 hx with hx|hx
   ·exact Q8W l _ (fun y hy=>((XY _).1 h).2.2.2.1 y hy) x hx
   ·exact Q8X m _ (fun y hy=>((XY _).1 h).2.2.2.2 y hy) x hx
theorem Q8W:∀ (l:List JV) (id:Int),(∀ x∈l,jst x)→∀ t∈tjl l id,TW t
 |[],_,_,t,ht=>by cases ht
 |x :: r,id,h,t,ht=>by
  rw [tjl] at ht
  rcases List.mem_cons.1 ht with rfl|ht
  ·exact Q2w x id (h x (List.mem_cons_self ..))
  ·exact Q8W r _ (fun y hy=>h y (List.mem_cons_of_mem _ hy)) t ht
theorem Q8X:∀ (l:List (ByteArray×JV)) (id:Int),(∀ x∈l,jst x.2)→∀ t∈tjm l id,TW t
 |[],_,_,t,ht=>by cases ht
 |(a,x) :: r,id,h,t,ht=>by
  rw [tjm] at ht
  rcases List.mem_cons.1 ht with rfl|ht
  ·exact Q2w x id (h (a,x) (List.mem_cons_self ..))
  ·exact Q8X r _ (fun y hy=>h y (List.mem_cons_of_mem _ hy)) t ht
end
mutual
theorem Q0b:∀ (v:JV) (id:Int),jst v→tv (tj v id)=v
 | .mk k b n s l m,id,h=>by
  have h1:=W9 h
  have h2:=Wa h
  have e1:=Q53 l (id+1) (fun y hy=>((XY _).1 h).2.2.2.1 y hy)
  have e2:=Q54 m (id+1+Qm l) (fun y hy=>((XY _).1 h).2.2.2.2 y hy)
  rw [tj,tv,X7,List.map_append,←X7,←X7,e1,e2]
  by_cases h4:k=4
  ·rw [if_pos h4,if_pos h4,show m=[] from h2 (by show ¬k=5;omega)];simp
  ·rw [if_neg h4,if_neg h4,show l=[] from h1 h4]
   congr 1
   rw [List.nil_append]
   clear e1 e2 h h1 h2
   induction m with
   |nil=>rfl
   |cons q r ih=>simp [ih]
theorem Q53:∀ (l:List JV) (id:Int),(∀ x∈l,jst x)→tvs (tjl l id)=l
 |[],_,_=>rfl
 |x :: r,id,h=>by rw [tjl,tvs,Q0b x id (h x (List.mem_cons_self ..)),Q53 r _ (fun y hy=>h y (List.mem_cons_of_mem _ hy))]
theorem Q54:∀ (l:List (ByteArray×JV)) (id:Int),(∀ x∈l,jst x.2)→tvs (tjm l id)=l.map (·.2)
 |[],_,_=>rfl
 |(a,x) :: r,id,h=>by rw [tjm,tvs,Q0b x id (h (a,x) (List.mem_cons_self ..)),Q54 r _ (fun y hy=>h y (List.mem_cons_of_mem _ hy))];rfl
end
end Lg
