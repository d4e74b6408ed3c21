/- A part of the proof of The tree's Apply, and what the reference says of it: the same answer and the same tree.: Lg14 Lg15 Lg16 Lg17 Lg18 Lg19 Lg20 Lg21 Lg22 Lg23 Lu8 Vg Lg24 Lg25 Lg26 Lg27 Lg28 Lv1. -/
import Derived.Test.YtjfcfncgalmofaaGreatDoorT1
import Derived.Deep.LoopGhost
import Derived.ChangeKeysEq
import Derived.Laws.IdiomStrings
import Derived.Laws.BytesArg
import Derived.Laws.Pointers
import Derived.Shelf.Unicode.DecodeSlow
import Derived.WalkKit
set_option linter.unusedVariables false
set_option linter.unusedSimpArgs false
set_option linter.unusedSectionVars false
namespace Lg
open Go Go.RowKit
variable [GLay]

inductive AEx where
 |normal
 |exit (id:Nat)
 |ret
 |pan (v:AV)

abbrev QA:=AEx→Env→List AO→Prop

def Q9h (s0:CS) (N:Nat) (Q:QA):Exit→Act→World→Prop:=fun ex a w=>∃ s,s.w=w∧Good s∧Ext s0 s∧∃ e,EnvOK s N e a∧
 match ex with
 | .normal=>Q .normal e s.σ
 | .exit id=>Q (.exit id) e s.σ
 | .ret=>Q .ret e s.σ
 | .panic [en]=>en={ v:=en.v,recovered:=false}∧∃ v,V s v en.v∧Q (.pan v) e s.σ
 |_=>False

def AWp (P:Program) (N:Nat) (c:Code) (e:Env) (σ:List AO) (Q:QA):Prop:=
 ∀ (s0 s:CS) (a:Act),s.σ=σ→Good s→Ext s0 s→EnvOK s N e a→c.wp P (Q9h s0 N Q) a s.w
def X9 (P:Program) (N:Nat) (ops:Array Oper) (l:List Oper) (e:Env) (σ:List AO) (Q:QA):Prop:=
 ∀ (s0 s:CS) (a:Act),s.σ=σ→Good s→Ext s0 s→EnvOK s N e a→wpList P ops (Q9h s0 N Q) l a s.w

section code
variable {P:Program} {N:Nat} {e:Env} {σ:List AO} {Q:QA} {ops:Array Oper}

theorem AWp.mono {c:Code} {Q':QA} (h:AWp P N c e σ Q) (hq:∀ ex e σ,Q ex e σ→Q' ex e σ):AWp P N c e σ Q':=fun s0 s a hs g x he=>
 wp_mono (h s0 s a hs g x he) fun ex a' w' hp=>by
  obtain ⟨s',h1,h2,h3,e',h4,h5⟩:=hp
  refine ⟨s',h1,h2,h3,e',h4,?_⟩
  cases ex with
  |normal=>exact hq _ _ _ h5
  |exit id=>exact hq _ _ _ h5
  |ret=>exact hq _ _ _ h5
  |goto l=>exact h5
  |outgrown=>exact h5
  |panic ch=>
   cases ch with
   |nil=>exact h5
   |cons en r=>
    cases r with
    |nil=>obtain ⟨h6,v,h7,h8⟩:=h5;exact ⟨h6,v,h7,hq _ _ _ h8⟩
    |cons=>exact h5

theorem Q1 (h:Q .normal e σ):AWp P N .skip e σ Q:=fun s0 s a hs g x he=>wp_skip ⟨s,rfl,g,x,e,he,by rw [hs];exact h⟩
theorem Q9f (h:Q .ret e σ):AWp P N .ret e σ Q:=fun s0 s a hs g x he=>wp_ret ⟨s,rfl,g,x,e,he,by rw [hs];exact h⟩
theorem Qg {id:Nat} (h:Q (.exit id) e σ):AWp P N (.exit id) e σ Q:=fun s0 s a hs g x he=>wp_exit ⟨s,rfl,g,x,e,he,by rw [hs];exact h⟩
def U4 (P:Program) (N:Nat) (c:Code) (Q:QA):QA
 | .normal,e,σ=>AWp P N c e σ Q
 |ex,e,σ=>Q ex e σ
theorem Q0 {c d:Code} (h:AWp P N c e σ (U4 P N d Q)):AWp P N (.seq c d) e σ Q:=fun s0 s a hs g x he=>
 wp_seq (wp_mono (h s0 s a hs g x he) fun ex a' w' hp=>by
  obtain ⟨s',h1,h2,h3,e',h4,h5⟩:=hp
  cases ex with
  |normal=>subst h1;exact h5 s0 s' a' rfl h2 h3 h4
  |exit id=>exact ⟨s',h1,h2,h3,e',h4,h5⟩
  |ret=>exact ⟨s',h1,h2,h3,e',h4,h5⟩
  |goto l=>exact h5.elim
  |outgrown=>exact h5.elim
  |panic ch=>
   cases ch with
   |nil=>exact h5.elim
   |cons en r=>
    cases r with
    |nil=>exact ⟨s',h1,h2,h3,e',h4,h5⟩
    |cons=>exact h5.elim)
theorem Q2 {x:Operand} {c d:Code} {b:Bool} (hb:opv e x= .bool b) (ht:b=true→AWp P N c e σ Q) (hf:b=false→AWp P N d e σ Q):AWp P N (.cond x c d) e σ Q:=fun s0 s a hs g hx he=>
 wp_cond_split (t:=b) ((hb ▸ he.eval x).inv_bool) (fun h=>ht h s0 s a hs g hx he) (fun h=>hf h s0 s a hs g hx he)
def J1 (id:Nat) (Q:QA):QA
 | .exit id',e,σ=>bif Nat.beq id' id then Q .normal e σ else Q (.exit id') e σ
 |ex,e,σ=>Q ex e σ
theorem Qa {id:Nat} {c:Code} (h:AWp P N c e σ (J1 id Q)):AWp P N (.block id c) e σ Q:=fun s0 s a hs g x he=>
 wp_block (wp_mono (h s0 s a hs g x he) fun ex a' w' hp=>by
  obtain ⟨s',h1,h2,h3,e',h4,h5⟩:=hp
  cases ex with
  |normal=>exact ⟨s',h1,h2,h3,e',h4,h5⟩
  |exit id'=>
   simp only [Exit.inBlock]
   by_cases hid:id'=id
   ·subst hid
    rw [if_pos rfl]
    have:Nat.beq id' id'=true:=Nat.beq_refl _
    simp only [J1,this,cond_true] at h5
    exact ⟨s',h1,h2,h3,e',h4,h5⟩
   ·rw [if_neg hid]
    have:Nat.beq id' id=false:=by
     cases hb:Nat.beq id' id with
     |false=>rfl
     |true=>exact absurd (Nat.eq_of_beq_eq_true hb) hid
    simp only [J1,this,cond_false] at h5
    exact ⟨s',h1,h2,h3,e',h4,h5⟩
  |ret=>exact ⟨s',h1,h2,h3,e',h4,h5⟩
  |goto l=>exact h5.elim
  |outgrown=>exact h5.elim
  |panic ch=>
   cases ch with
   |nil=>exact h5.elim
   |cons en r=>
    cases r with
    |nil=>exact ⟨s',h1,h2,h3,e',h4,h5⟩
    |cons=>exact h5.elim)

def AllLook (e:Env):List (Nat×AV)→Prop
 |[]=>True
 |(t,v) :: r=>e.look t=v∧AllLook e r
def Sub (e e':Env):Prop:=e'.D=e.D∧AllLook e e'.l
theorem AllLook.look {e:Env}:∀ {l:List (Nat×AV)},AllLook e l→∀ t,Y7 l t= .any∨Y7 l t=e.look t
 |[],_,t=>.inl rfl
 |(k,v) :: r,⟨h1,h2⟩,t=>by
  simp only [Y7]
  cases hb:Nat.beq k t with
  |true=>
   have:k=t:=Nat.eq_of_beq_eq_true hb
   subst this
   right;simp [h1]
  |false=>simpa [hb] using h2.look t
theorem Sub.ok {s:CS} {e e':Env} {a:Act} (h:Sub e e') (k:EnvOK s N e a):EnvOK s N e' a:=
 ⟨k.size,by rw [h.1];exact k.defers,fun t=>by
  rcases h.2.look t with h1|h1
  ·show V s (Y7 e'.l t) _;rw [h1];exact .any _
  ·show V s (Y7 e'.l t) _;rw [h1];exact k.tmps t⟩
theorem Q9g {c:Code} (e':Env) (h:Sub e e') (k:AWp P N c e' σ Q):AWp P N c e σ Q:=fun s0 s a hs g x he=>k s0 s a hs g x (h.ok he)

def closed (n:Nat) (σ:List AO):Prop:=∀ p o,p < n→σ[p]? =some o→AV.ltL n o.cells
def ltE (n:Nat) (e:Env):Prop:=(∀ q∈e.l,q.2.lt n)∧∀ d∈e.D,AV.ltL n d.2

theorem DefOK.cut {s:CS} {n:Nat}:∀ {D:List (FuncId×List AV)} {ds:List Deferred},(∀ d∈D,AV.ltL n d.2)→DefOK s D ds→DefOK (s.cut n) D ds
 |[],[],_,_=>trivial
 |(f,l) :: r,d :: r',h,⟨⟨h1,vs,h2,h3⟩,h4⟩=>by
  refine ⟨⟨h1,vs,h2,h3.1,fun i c v e1 e2=>(h3.2 i c v e1 e2).cut ?_⟩,DefOK.cut (fun d hd=>h d (by simp [hd])) h4⟩
  have:=h (f,l) (by simp)
  rw [AV.ltL_iff] at this
  exact this c (List.mem_of_getElem? e1)
theorem Q1X {n:Nat}:∀ {l:List (Nat×AV)},(∀ q∈l,q.2.lt n)→∀ t,(Y7 l t).lt n
 |[],_,t=>by simp [Y7,AV.lt]
 |(k,v) :: r,h,t=>by
  simp only [Y7]
  cases hb:Nat.beq k t with
  |true=>exact h (k,v) (by simp)
  |false=>exact Q1X (fun q hq=>h q (by simp [hq])) t
theorem EnvOK.cut {s:CS} {n:Nat} {e:Env} {a:Act} (h:EnvOK s N e a) (k:ltE n e):EnvOK (s.cut n) N e a:=
 ⟨h.size,h.defers.cut k.2,fun t=>(h.tmps t).cut (Q1X k.1 t)⟩
theorem Ext.cutm {s0 s:CS} (x:Ext s0 s) {m:Nat} (hm:s0.σ.length≤m):Ext s0 (s.cut m) where
 objs:=fun p o h=>by
  obtain ⟨o',h',r⟩:=x.objs p o h
  have:=(List.getElem?_eq_some_iff.1 h).1
  exact ⟨o',by show (s.σ.take _)[p]? =_;rw [List.getElem?_take,if_pos (by omega)];exact h',r⟩
 ok:=x.ok
 okn:=x.okn
 mun:=fun p h=>x.mun p (by
  unfold CS.live at h ⊢
  change (match (s.σ.take m)[p]? with|some (.box _)=>True|some (.arr _ _ _)=>(s.μ p).tot ≠ 0|some (.bytes _ _)=>(s.μ p).tot ≠ 0|some (.map _)=>True|_=>False) at h
  rw [List.getElem?_take] at h
  split at h<;>rename_i e<;>split at e<;>simp_all)
 frame:=x.frame
 size:=x.size
 shp:=fun p cs cs' z h1 h2 h3=>x.shp p cs cs' z h1 (by
  have hl:=(List.getElem?_eq_some_iff.1 h1).1
  change (s.σ.take _)[p]? =_ at h2
  rw [List.getElem?_take,if_pos (by omega)] at h2;exact h2) h3
 tape:=x.tape
 os:=x.os
 output:=x.output

theorem Qs {ι:Type} {c:Code} (I:ι→Prop) (E:ι→Env) (S:ι→List AO) (m:ι→Nat) (i0:ι) (hI:I i0) (h0:Sub e (E i0)) (hσ:σ=S i0)
  (round:∀ i,I i→AWp P N c (E i) (S i) fun ex e' σ'=>match ex with
   | .normal=>∃ j n,I j∧m j < m i∧σ.length≤n∧Sub e' (E j)∧closed n σ'∧ltE n (E j)∧σ'.take n=S j
   |ex=>Q ex e' σ'):AWp P N (.loop c) e σ Q:=fun s0 s a hs g x he=>
 wp_loop_ghost (fun n a w=>∃ i s',I i∧m i=n∧s'.w=w∧s'.σ=S i∧Good s'∧Ext s s'∧EnvOK s' N (E i) a) (m i0) ⟨i0,s,hI,rfl,rfl,by rw [hs,hσ],g,Ext.refl s,h0.ok he⟩
  fun n a' w' ⟨i,s',h0',h1,h2,h3,h4,h5,h6⟩=>by
   subst h2
   refine wp_mono (round i h0' s s' a' h3 h4 h5 h6) fun ex a'' w'' hp=>?_
   obtain ⟨s'',k1,k2,k3,e'',k4,k5⟩:=hp
   cases ex with
   |normal=>
    obtain ⟨j,n',hIj,hj,hn,hsub,hcl,hlt,hσ'⟩:=k5
    exact ⟨m j,by omega,j,s''.cut n',hIj,rfl,k1,hσ',k2.cut hcl,k3.cutm (by rw [hs];exact hn),(hsub.ok k4).cut hlt⟩
   |exit id=>exact ⟨s'',k1,k2,x.trans k3,e'',k4,k5⟩
   |ret=>exact ⟨s'',k1,k2,x.trans k3,e'',k4,k5⟩
   |goto l=>exact k5.elim
   |outgrown=>exact k5.elim
   |panic ch=>
    cases ch with
    |nil=>exact k5.elim
    |cons en r=>
     cases r with
     |nil=>exact ⟨s'',k1,k2,x.trans k3,e'',k4,k5⟩
     |cons=>exact k5.elim

theorem Q2P {id:Nat} (h:X9 P N ops ops.toList e σ Q):AWp P N (.region id ops false) e σ Q:=fun s0 s a hs g x he=>wp_region_list (h s0 s a hs g x he)
theorem Zk (h:Q .normal e σ):X9 P N ops [] e σ Q:=fun s0 s a hs g x he=>wpList_nil ⟨s,rfl,g,x,e,he,by rw [hs];exact h⟩
theorem H5 {o:Oper} {rest:List Oper} {Nn X:AV→List AO→Prop} (hg:o.guard=none) (hd:∀ d,o.dst=some d→d < N) (h:AOpR P σ e o Nn X)
  (k:∀ v σ',Nn v σ'→X9 P N ops rest (e.put o.dst v) σ' Q) (kx:∀ v σ',X v σ'→Q (.pan v) e σ'):X9 P N ops (o :: rest) e σ Q:=fun s0 s a hs g x he=>by
 refine wpList_plain hg fun K hK=>h s a hs g (fun y _=>he.eval y) K _ (fun v cv s' hn g' x' hv=>hK _ _ ?_) (fun v cv s' hn g' x' hv=>?_)
 ·exact k v s'.σ hn s0 s' _ rfl g' (x.trans x') ((he.mono g x').put o.dst hv hd)
 ·exact ⟨s',rfl,g',x.trans x',e,he.mono g x',rfl,v,hv,kx v s'.σ hn⟩
theorem FE {o:Oper} {rest:List Oper} {v:AV} {σ':List AO} (hg:o.guard=none) (hd:∀ d,o.dst=some d→d < N) (h:AOp P σ e o v σ')
  (k:X9 P N ops rest (e.put o.dst v) σ' Q):X9 P N ops (o :: rest) e σ Q:=
 H5 hg hd h (fun v' σ'' hn=>by rw [hn.1,hn.2];exact k) (fun _ _ hx=>hx.elim)
theorem Fj {s:CS} {a:Act} {j d:Nat} {b:Bool} (he:EnvOK s N e a) (hj:(ops[j]?).bind (·.dst)=some d) (hb:e.look d= .bool b) (hdN:d < N):yielded ops a.tmps j=some b:=by
 have h1:=he.tmps d
 rw [hb] at h1
 have h2:=h1.inv_bool
 simp only [Act.eval] at h2
 unfold yielded
 rw [hj]
 have h3:a.tmps[d]? =some (.bool b):=by
  have hlt:d < a.tmps.size:=by rw [he.size];exact hdN
  rw [Array.getD_eq_getD_getElem?,Array.getElem?_eq_getElem hlt] at h2
  rw [Array.getElem?_eq_getElem hlt]
  simpa using h2
 simp [h3]
theorem FD {s:CS} {a:Act} {j d:Nat} (he:EnvOK s N e a) (hj:(ops[j]?).bind (·.dst)=some d) (hb:e.look d= .tup []) (hdN:d < N):yielded ops a.tmps j=none:=by
 have h1:=he.tmps d
 rw [hb] at h1
 have h2:=h1.inv_undef
 simp only [Act.eval] at h2
 unfold yielded
 rw [hj]
 have h3:a.tmps[d]? =some undef:=by
  have hlt:d < a.tmps.size:=by rw [he.size];exact hdN
  rw [Array.getD_eq_getD_getElem?,Array.getElem?_eq_getElem hlt] at h2
  rw [Array.getElem?_eq_getElem hlt]
  simpa using h2
 simp [h3,undef]
theorem Q1v {o:Oper} {rest:List Oper} {Nn X:AV→List AO→Prop} {j d:Nat} {want:Bool} (hg:o.guard=some (j,want)) (hj:(ops[j]?).bind (·.dst)=some d) (hdN:d < N) (hb:e.look d= .bool want) (hd:∀ d,o.dst=some d→d < N)
  (h:AOpR P σ e o Nn X) (k:∀ v σ',Nn v σ'→X9 P N ops rest (e.put o.dst v) σ' Q) (kx:∀ v σ',X v σ'→Q (.pan v) e σ'):X9 P N ops (o :: rest) e σ Q:=fun s0 s a hs g x he=>by
 refine wpList_step fun K hK=>?_
 have hy:=Fj he hj hb hdN
 rw [if_pos (by simp [Region.wanted,hg,hy])]
 refine h s a hs g (fun y _=>he.eval y) K _ (fun v cv s' hn g' x' hv=>hK _ _ ?_) (fun v cv s' hn g' x' hv=>?_)
 ·exact k v s'.σ hn s0 s' _ rfl g' (x.trans x') ((he.mono g x').put o.dst hv hd)
 ·exact ⟨s',rfl,g',x.trans x',e,he.mono g x',rfl,v,hv,kx v s'.σ hn⟩
theorem Q2L {o:Oper} {rest:List Oper} {v:AV} {σ':List AO} {j d:Nat} {want:Bool} (hg:o.guard=some (j,want)) (hj:(ops[j]?).bind (·.dst)=some d) (hdN:d < N) (hb:e.look d= .bool want) (hd:∀ d,o.dst=some d→d < N)
  (h:AOp P σ e o v σ') (k:X9 P N ops rest (e.put o.dst v) σ' Q):X9 P N ops (o :: rest) e σ Q:=
 Q1v hg hj hdN hb hd h (fun v' σ'' hn=>by rw [hn.1,hn.2];exact k) (fun _ _ hx=>hx.elim)
theorem Q2M {o:Oper} {rest:List Oper} {j d:Nat} {want:Bool} (hg:o.guard=some (j,want)) (hj:(ops[j]?).bind (·.dst)=some d) (hdN:d < N) (hb:e.look d= .bool (!want)∨e.look d= .tup []) (hd:∀ d,o.dst=some d→d < N)
  (k:X9 P N ops rest (e.put o.dst (.tup [])) σ Q):X9 P N ops (o :: rest) e σ Q:=fun s0 s a hs g x he=>by
 refine wpList_step fun K hK=>?_
 rcases hb with hb|hb
 ·have hy:=Fj he hj hb hdN
  rw [if_neg (by simp [Region.wanted,hg,hy])]
  exact hK _ _ (k s0 s _ hs g x (he.put o.dst (V.undef s) hd))
 ·have hy:=FD he hj hb hdN
  rw [if_neg (by simp [Region.wanted,hg,hy])]
  exact hK _ _ (k s0 s _ hs g x (he.put o.dst (V.undef s) hd))
end code

inductive Out where
 |ret (v:AV)
 |pan (v:AV)

def Q6s (s0:CS) (R:Out→List AO→Prop):Ending→World→Prop:=fun e w=>∃ s,s.w=w∧Good s∧Ext s0 s∧
 match e with
 | .returned cv=>∃ v,V s v cv∧R (.ret v) s.σ
 | .panicked [en]=>en={ v:=en.v,recovered:=false}∧∃ v,V s v en.v∧R (.pan v) s.σ
 |_=>False
theorem PW.ltL {s:CS} {cs:List AV} {vs:List Value} (h:PW s cs vs):AV.ltL s.σ.length cs:=by
 rw [AV.ltL_iff]
 intro a ha
 obtain ⟨i,hi,rfl⟩:=List.getElem_of_mem ha
 obtain ⟨v,_,hv⟩:=h.get (List.getElem?_eq_getElem hi)
 exact hv.lt
theorem Good.closed {s:CS} (g:Good s):closed s.σ.length s.σ:=fun p o _ ho=>by
 have hor:=g.obj p o ho
 cases o with
 |box cs=>obtain ⟨_,vs,T,_,h3⟩:=hor;exact h3.ltL
 |arr sz gg cs=>
  rcases hor with ⟨_,rfl⟩|⟨_,_,vs,T,_,_,_,h5⟩
  ·trivial
  ·exact h5.ltL
 |bytes T l=>trivial
 |gone=>trivial
 |dead=>trivial
 |map l=>obtain ⟨_,es,c,_,h3⟩:=hor;exact h3.ltL
def ACalls (P:Program) (f:FuncId) (args:List AV) (σ:List AO) (R:Out→List AO→Prop):Prop:=
 ∀ (s:CS) (cargs:List Value),s.σ=σ→Good s→PW s args cargs→Calls P f cargs.toArray s.w (Q6s s R)
def Ret (v:AV) (σ':List AO):Out→List AO→Prop:=fun r σ''=>r= .ret v∧σ''=σ'

section calls
variable {P:Program} {N:Nat} {e:Env} {σ:List AO} {Q:QA} {ops:Array Oper}

theorem ACalls.mono {f:FuncId} {args:List AV} {R R':Out→List AO→Prop} (h:ACalls P f args σ R) (hr:∀ r σ,R r σ→R' r σ):ACalls P f args σ R':=fun s cargs hs g hp=>
 (h s cargs hs g hp).mono fun ed w' hc=>by
  obtain ⟨s',h1,h2,h3,h4⟩:=hc
  refine ⟨s',h1,h2,h3,?_⟩
  cases ed with
  |returned cv=>obtain ⟨v,h5,h6⟩:=h4;exact ⟨v,h5,hr _ _ h6⟩
  |outgrown=>exact h4
  |panicked ch=>
   cases ch with
   |nil=>exact h4
   |cons en r=>
    cases r with
    |nil=>obtain ⟨h5,v,h6,h7⟩:=h4;exact ⟨h5,v,h6,hr _ _ h7⟩
    |cons=>exact h4

theorem PW.map_eval {s:CS} {a:Act} {o:Oper} (hv:∀ x∈o.op.operands,V s (opv e x) (a.eval x)):∀ (l:List Operand),(∀ x∈l,x∈o.op.operands)→PW s (l.map (opv e)) (l.map a.eval)
 |[],_=>.nil
 |x :: r,h=>.cons (hv x (h x (by simp))) (PW.map_eval hv r fun y hy=>h y (by simp [hy]))

theorem Q4r {o:Oper} {c:Operand} {asv:Array Operand} {T:Array TypeId} {k:FuncId} {fn:Func} {fs av cs:List AV} {R:Out→List AO→Prop} (ho:o.op= .call { callee:=.value c,args:=asv,argTypes:=T})
  (hc:opv e c= .func (.func k) fs cs) (ha:asv.toList.map (opv e)=av) (hfn:P.funcs[k]? =some fn) (hname:(fn.name == "runtime.NumGoroutine")=false) (hb:fn.body.isNone=false)
  (h:ACalls P k (fs++av++cs) σ R):AOpR P σ e o (fun v σ'=>R (.ret v) σ') (fun v σ'=>R (.pan v) σ'):=by
 intro s a hs g hv K Q hk hq
 subst ha
 have hcv:=hc ▸ hv c (by simp [ho,Op.operands,Call.operands])
 obtain ⟨vf,vc,h1,h2,h3⟩:=hcv.inv_func
 have hargs:=PW.map_eval (o:=o) hv asv.toList (fun x hx=>by simp only [ho,Op.operands,Call.operands];simp;right;exact Array.mem_toList_iff.1 hx)
 have hall:=(h2.append hargs).append h3
 have hcalls:=h s _ hs g hall
 have hexec:(execOp a.eval o).run P s.w= .ok (.enter k (vf++asv.toList.map a.eval++vc).toArray) s.w:=by
  have hm:asv.map a.eval=(asv.toList.map a.eval).toArray:=by apply Array.ext';simp
  have hname':¬fn.name= "runtime.NumGoroutine" :=by simpa using hname
  have hb':¬fn.body=none:=by intro h;rw [h] at hb;cases hb
  simp [execOp,ho,resolve,invoke,Deferred.ofValue,h1,callFunc,hfn,hm]
  rw [if_neg hname',if_neg hb']
 unfold Oper.wp
 rw [hexec,Oper.upon_enter]
 refine hcalls.mono fun ed w' hc=>?_
 obtain ⟨s',e1,g',x',h4⟩:=hc
 subst e1
 cases ed with
 |returned cv=>obtain ⟨v,h5,h6⟩:=h4;exact hk v cv s' h6 g' x' h5
 |outgrown=>exact h4.elim
 |panicked ch=>
  cases ch with
  |nil=>exact h4.elim
  |cons en r=>
   cases r with
   |nil=>
    obtain ⟨h5,v,h6,h7⟩:=h4
    have:=hq v en.v s' h7 g' x' h6
    rw [h5]
    exact this
   |cons=>exact h4.elim
theorem K6 {o:Oper} {c:Operand} {asv:Array Operand} {T:Array TypeId} {k:FuncId} {fn:Func} {fs av cs:List AV} {v:AV} {σ':List AO} (ho:o.op= .call { callee:=.value c,args:=asv,argTypes:=T})
  (hc:opv e c= .func (.func k) fs cs) (ha:asv.toList.map (opv e)=av) (hfn:P.funcs[k]? =some fn) (hname:(fn.name == "runtime.NumGoroutine")=false) (hb:fn.body.isNone=false)
  (h:ACalls P k (fs++av++cs) σ (Ret v σ')):AOp P σ e o v σ':=
 (Q4r ho hc ha hfn hname hb h).mono (fun _ _ h=>by obtain ⟨h1,h2⟩:=h;injection h1 with h1;exact ⟨h1,h2⟩) (fun _ _ h=>by obtain ⟨h1,_⟩:=h;cases h1)

def Fy:Nat→List AV→List (Nat×AV)
 |_,[]=>[]
 |k,a :: r=>(k,a) :: Fy (k+1) r
theorem UQ:∀ (l:List AV) (k t:Nat),Y7 (Fy k l) t=if k≤t then (l[t - k]?).getD .any else .any
 |[],k,t=>by simp [Fy,Y7]
 |a :: r,k,t=>by
  simp only [Fy,Y7]
  cases hb:Nat.beq k t with
  |true=>
   have:k=t:=Nat.eq_of_beq_eq_true hb
   subst this
   simp
  |false=>
   have hne:k ≠ t:=fun e=>by subst e;simp at hb
   have ih:=UQ r (k+1) t
   simp only [cond_false,ih]
   by_cases h:k≤t
   ·rw [if_pos (by omega),if_pos h]
    obtain ⟨j,rfl⟩:∃ j,t=k+1+j:=⟨t - (k+1),by omega⟩
    rw [show k+1+j - (k+1)=j by omega,show k+1+j - k=j+1 by omega]
    simp
   ·rw [if_neg (by omega),if_neg h]

def W8 (ts:List Nat) (e:Env):AV:=
 match ts with
 |[t]=>e.look t
 |ts=>.tup (ts.map e.look)
def Wj (n:Nat) (ts:List Nat) (R:Out→List AO→Prop):QA:=fun ex e σ=>
 match ex with
 | .normal| .ret=>e.D=[]∧∃ m,n≤m∧closed m σ∧(W8 ts e).lt m∧R (.ret (W8 ts e)) (σ.take m)
 | .pan v=>e.D=[]∧∃ m,n≤m∧closed m σ∧v.lt m∧R (.pan v) (σ.take m)
 |_=>False

def Q2k (ts:List Nat) (tmps:Array Value):Value:=
 match ts with
 |[t]=>tmps.getD t undef
 |ts=>.tuple (ts.map fun t=>tmps.getD t undef).toArray
theorem QcN {s:CS} {a:Act} (h:EnvOK s N e a) (ts:List Nat):V s (W8 ts e) (Q2k ts a.tmps):=by
 have hpw:∀ ts:List Nat,PW s (ts.map e.look) (ts.map fun t=>a.tmps.getD t undef):=fun ts=>by
  induction ts with
  |nil=>exact .nil
  |cons t r ih=>exact .cons (h.tmps t) ih
 unfold W8 Q2k
 split
 ·exact h.tmps _
 ·exact .tup _ _ (hpw ts).1 (hpw ts).2
def Q5b (P:Program) (fn:Func) (ts:List Nat):Prop:=∀ (tmps:Array Value) (w:World),(results fn tmps).run P w= .ok (Q2k ts tmps) w
theorem Qau {fn:Func} (h:fn.results= #[]):Q5b P fn []:=fun tmps w=>by simp [results,h,Q2k]
theorem XE {fn:Func} {a:Nat} (h:fn.results= #[.tmp a]):Q5b P fn [a]:=fun tmps w=>by simp [results,h,Q2k]
theorem J5 {fn:Func} {a b:Nat} (h:fn.results= #[.tmp a,.tmp b]):Q5b P fn [a,b]:=fun tmps w=>by simp [results,h,Q2k]
theorem QdZ {fn:Func} {a b c:Nat} (h:fn.results= #[.tmp a,.tmp b,.tmp c]):Q5b P fn [a,b,c]:=fun tmps w=>by simp [results,h,Q2k]
theorem res4 {fn:Func} {a b c d:Nat} (h:fn.results= #[.tmp a,.tmp b,.tmp c,.tmp d]):Q5b P fn [a,b,c,d]:=fun tmps w=>by simp [results,h,Q2k]

theorem Qc {f:FuncId} {fn:Func} {c:Code} {args:List AV} {R:Out→List AO→Prop} {ts:List Nat} (hf:P.funcs[f]? =some fn) (hb:fn.body=some c) (hN:fn.ntmps=N) (hr:Q5b P fn ts) (hl:args.length≤N)
  (h:closed σ.length σ→AV.ltL σ.length args→AWp P N c ⟨[],Fy 0 args⟩ σ (Wj σ.length ts R)):ACalls P f args σ R:=by
 intro s cargs hs g hp
 have hcl:closed σ.length σ:=by rw [← hs];exact g.closed
 have hal:AV.ltL σ.length args:=by rw [← hs];exact hp.ltL
 refine calls_of_wp hf hb ?_
 have henv:EnvOK s N ⟨[],Fy 0 args⟩ { tmps:=cargs.toArray++Array.replicate (fn.ntmps - cargs.toArray.size) undef,defers:=[]}:=by
  refine ⟨?_,trivial,fun t=>?_⟩
  ·have:=hp.1
   simp [hN];omega
  ·show V s (Y7 (Fy 0 args) t) _
   rw [UQ]
   simp only [Nat.zero_le,if_true,Nat.sub_zero]
   cases ha:args[t]? with
   |none=>exact .any _
   |some a=>
    obtain ⟨v,hv,hV⟩:=hp.get ha
    have hlt:=(List.getElem?_eq_some_iff.1 hv).1
    have:(cargs.toArray++Array.replicate (fn.ntmps - cargs.toArray.size) undef).getD t undef=v:=by
     rw [Array.getD_eq_getD_getElem?,Array.getElem?_append_left (by simpa using hlt)]
     simp [hv]
    simp only [Act.eval,this]
    exact hV
 refine wp_mono (h hcl hal s s _ hs g (Ext.refl s) henv) fun ex a w hpost=>?_
 obtain ⟨s',h1,h2,h3,e',h4,h5⟩:=hpost
 have hret:(e'.D=[]∧∃ m,σ.length≤m∧closed m s'.σ∧(W8 ts e').lt m∧R (.ret (W8 ts e')) (s'.σ.take m))→a.defers=[]∧∃ v,(results fn a.tmps).run P w= .ok v w∧Q6s s R (.returned v) w:=fun ⟨k1,m,k2,k3,k4,k5⟩=>by
  have hD:=h4.defers
  rw [k1] at hD
  have hd:a.defers=[]:=by
   cases hd:a.defers with
   |nil=>rfl
   |cons d r=>rw [hd] at hD;exact hD.elim
  exact ⟨hd,_,hr a.tmps w,s'.cut m,h1,h2.cut k3,h3.cutm (by rw [hs];exact k2),_,(QcN h4 ts).cut k4,k5⟩
 cases ex with
 |normal=>exact hret h5
 |ret=>exact hret h5
 |exit id=>exact h5.elim
 |goto l=>exact h5.elim
 |outgrown=>exact h5.elim
 |panic ch=>
  cases ch with
  |nil=>exact h5.elim
  |cons en r=>
   cases r with
   |cons=>exact h5.elim
   |nil=>
    obtain ⟨h6,v,h7,k1,m,k2,k3,k4,k5⟩:=h5
    have hD:=h4.defers
    rw [k1] at hD
    have hd:a.defers=[]:=by
     cases hd:a.defers with
     |nil=>rfl
     |cons d r=>rw [hd] at hD;exact hD.elim
    exact ⟨hd,s'.cut m,h1,h2.cut k3,h3.cutm (by rw [hs];exact k2),h6,v,h7.cut k4,k5⟩
end calls
end Lg
namespace Lg
open Go Go.RowKit
variable [GLay]

def Zv (tb:Array Nat) (i j:Nat):Bool:=(tb.getD j 0).testBit i

def KG (ops:Array Oper) (o:Oper):List Nat:=
  (o.op.operands.toList.filterMap fun| .tmp t=>some t|_=>none)++
  (match o.guard with|some (j,_)=>((ops[j]?).bind (·.dst)).toList|none=>[])

def QcM (ops:Array Oper) (tb:Array Nat):Bool:=
  (List.range ops.size).all fun i=>
    match ops[i]? with
    |none=>true
    |some o=>
      (o.after.toList.all fun e=> !Region.binds .any e || (Nat.blt e.on i && Zv tb e.on i)) &&
      (List.range ops.size).all fun j=>
        match ops[j]? with
        |none=>true
        |some p=>
          match p.dst with
          |none=>true
          |some t=>
            Nat.beq i j ||
            ((!(KG ops o).contains t || (bif Nat.blt j i then Zv tb j i else Zv tb i j)) &&
             (!(o.dst == some t) || (bif Nat.blt j i then Zv tb j i else Zv tb i j)))

def Qd0 (ops:Array Oper) (tb:Array Nat):Bool:=
  (List.range ops.size).all fun j=>
    match ops[j]? with
    |none=>true
    |some o=>(List.range ops.size).all fun i=> !Zv tb i j || (o.after.toList.any fun e=>Region.binds .any e && (Nat.beq e.on i || Zv tb i e.on))

def PastOK (P:Program) (tb:Array Nat) (i:Nat) (e:Env) (o:Oper) (v:AV):List (Nat×List AO)→Prop
  |[]=>True
  |(j,σ) :: r=>(Zv tb j i=true∨AOp P σ e o v σ)∧PastOK P tb i e o v r
def HeldOK (tb:Array Nat) (i:Nat) (σ:List AO):List (Nat×(List AO→Prop))→Prop
  |[]=>True
  |(k,p) :: r=>(Zv tb k i=true∨p σ)∧HeldOK tb i σ r
def ChainOK (tb:Array Nat) (i:Nat):List (Nat×List AO)→Prop
  |[]=>True
  |(j,_) :: r=>Zv tb j i=true∧ChainOK tb i r

def ZB (ops:Array Oper) (N:Nat) (e:Env) (o:Oper) (t:Bool):Prop:=
  match o.guard with
  |none=>t=true
  |some (j,want)=>∃ d,(ops[j]?).bind (·.dst)=some d∧d < N∧(e.look d= .bool (if t=true then want else !want)∨(t=false∧e.look d= .tup []))

inductive RP (P:Program) (N:Nat) (ops:Array Oper) (tb:Array Nat) (Q:Env→List AO→Prop) (X:AV→List AO→Prop):Nat→Env→List AO→List (Nat×List AO)→List (Nat×(List AO→Prop))→Prop
  |nil {i e σ past held} (hi:i=ops.size) (h:Q e σ):RP P N ops tb Q X i e σ past held
  |all {i e σ past held} (o:Oper) (v:AV) (ho:ops[i]? =some o) (hg:ZB ops N e o true) (hd:∀ d,o.dst=some d→d < N) (h:∀ σ,AOp P σ e o v σ)
      (k:RP P N ops tb Q X (i+1) (e.put o.dst v) σ past held):RP P N ops tb Q X i e σ past held
  |pure {i e σ past held} (o:Oper) (v:AV) (ho:ops[i]? =some o) (hg:ZB ops N e o true) (hd:∀ d,o.dst=some d→d < N) (h:AOp P σ e o v σ) (hp:PastOK P tb i e o v past)
      (k:RP P N ops tb Q X (i+1) (e.put o.dst v) σ past ((i,fun σ'=>AOp P σ' e o v σ') :: held)):RP P N ops tb Q X i e σ past held
  |eff {i e σ past held} (o:Oper) (v:AV) (σ':List AO) (ho:ops[i]? =some o) (hg:ZB ops N e o true) (hd:∀ d,o.dst=some d→d < N) (h:AOp P σ e o v σ') (hh:HeldOK tb i σ' held) (hc:ChainOK tb i past)
      (k:RP P N ops tb Q X (i+1) (e.put o.dst v) σ' ((i,σ) :: past) held):RP P N ops tb Q X i e σ past held
  |skip {i e σ past held} (o:Oper) (ho:ops[i]? =some o) (hg:ZB ops N e o false) (hd:∀ d,o.dst=some d→d < N)
      (k:RP P N ops tb Q X (i+1) (e.put o.dst (.tup [])) σ past held):RP P N ops tb Q X i e σ past held
  |pan {i e σ past held} (o:Oper) (v:AV) (σ':List AO) (ho:ops[i]? =some o) (hg:ZB ops N e o true) (h:AOpR P σ e o (fun _ _=>False) (fun v' σ''=>v'=v∧σ''=σ')) (hc:ChainOK tb i past)
      (hall:((List.range ops.size).all fun j=>Nat.ble j i || Zv tb i j)=true) (hx:X v σ'):RP P N ops tb Q X i e σ past held

inductive Kd|pure|eff|skip|pan
  deriving DecidableEq
structure Tr (P:Program) (N:Nat) (ops:Array Oper) (tb:Array Nat) (Q:Env→List AO→Prop) (X:AV→List AO→Prop) (i0 m:Nat) (E:Nat→Env) (H:Nat→List AO) (val:Nat→AV) (kd:Nat→Kd):Prop where
  le:i0≤m
  size:m≤ops.size
  step:∀ i,i0≤i→i < m→∃ o,ops[i]? =some o∧(∀ d,o.dst=some d→d < N)∧E (i+1)=(E i).put o.dst (val i)∧kd i ≠ .pan∧
    (kd i= .pure→ZB ops N (E i) o true∧AOp P (H i) (E i) o (val i) (H i)∧H (i+1)=H i∧
      (∀ j,i0≤j→j < i→kd j= .eff→Zv tb j i=true∨AOp P (H j) (E i) o (val i) (H j))∧
      (∀ j,i < j→j < m→kd j= .eff→Zv tb i j=true∨AOp P (H (j+1)) (E i) o (val i) (H (j+1))))∧
    (kd i= .eff→ZB ops N (E i) o true∧AOp P (H i) (E i) o (val i) (H (i+1))∧(∀ j,i0≤j→j < i→kd j= .eff→Zv tb j i=true))∧
    (kd i= .skip→ZB ops N (E i) o false∧val i= .tup []∧H (i+1)=H i)
  fin:(m=ops.size∧Q (E m) (H m))∨∃ o v σ',ops[m]? =some o∧ZB ops N (E m) o true∧AOpR P (H m) (E m) o (fun _ _=>False) (fun v' σ''=>v'=v∧σ''=σ')∧
    (∀ j,i0≤j→j < m→kd j= .eff→Zv tb j m=true)∧(∀ j,m < j→j < ops.size→Zv tb m j=true)∧X v σ'

section rp
variable {P:Program} {N:Nat} {ops:Array Oper} {tb:Array Nat} {Q:Env→List AO→Prop} {X:AV→List AO→Prop}

theorem PastOK.mem {i:Nat} {e:Env} {o:Oper} {v:AV}:∀ {past:List (Nat×List AO)},PastOK P tb i e o v past→∀ q∈past,Zv tb q.1 i=true∨AOp P q.2 e o v q.2
  |[],_,q,h=>by simp at h
  |(j,σ) :: r,⟨h1,h2⟩,q,h=>by
    rcases List.mem_cons.1 h with rfl|h
    · exact h1
    · exact PastOK.mem h2 q h
theorem HeldOK.mem {i:Nat} {σ:List AO}:∀ {held:List (Nat×(List AO→Prop))},HeldOK tb i σ held→∀ q∈held,Zv tb q.1 i=true∨q.2 σ
  |[],_,q,h=>by simp at h
  |(j,p) :: r,⟨h1,h2⟩,q,h=>by
    rcases List.mem_cons.1 h with rfl|h
    · exact h1
    · exact HeldOK.mem h2 q h
theorem ChainOK.mem {i:Nat}:∀ {past:List (Nat×List AO)},ChainOK tb i past→∀ q∈past,Zv tb q.1 i=true
  |[],_,q,h=>by simp at h
  |(j,σ) :: r,⟨h1,h2⟩,q,h=>by
    rcases List.mem_cons.1 h with rfl|h
    · exact h1
    · exact ChainOK.mem h2 q h

theorem RP.trace {i:Nat} {e:Env} {σ:List AO} {past:List (Nat×List AO)} {held:List (Nat×(List AO→Prop))} (h:RP P N ops tb Q X i e σ past held) (hi:i≤ops.size):
    ∃ m E H val kd,E i=e∧H i=σ∧Tr P N ops tb Q X i m E H val kd∧
      (∀ j,i≤j→j < m→kd j= .pure→∀ q∈past,∃ o,ops[j]? =some o∧(Zv tb q.1 j=true∨AOp P q.2 (E j) o (val j) q.2))∧
      (∀ j,i≤j→j < m→kd j= .eff→(∀ q∈held,Zv tb q.1 j=true∨q.2 (H (j+1)))∧∀ q∈past,Zv tb q.1 j=true)∧
      (m < ops.size→∀ q∈past,Zv tb q.1 m=true):=by
  induction h with
  |nil hi' h=>
    rename_i i e σ past held
    refine ⟨i,fun _=>e,fun _=>σ,fun _=>.any,fun _=>.pure,rfl,rfl,⟨Nat.le_refl _,hi,fun j h1 h2=>by omega,.inl ⟨hi',h⟩⟩,fun j h1 h2=>by omega,fun j h1 h2=>by omega,fun h=>by omega⟩
  |pan o v σ' ho hg h hc hall hx=>
    rename_i i e σ past held
    refine ⟨i,fun _=>e,fun _=>σ,fun _=>.any,fun _=>.pure,rfl,rfl,⟨Nat.le_refl _,hi,fun j h1 h2=>by omega,.inr ⟨o,v,σ',ho,hg,h,fun j h1 h2=>by omega,fun j h1 h2=>?_,hx⟩⟩,fun j h1 h2=>by omega,fun j h1 h2=>by omega,fun _=>hc.mem⟩
    have:=List.all_eq_true.1 hall j (List.mem_range.2 h2)
    simp only [Bool.or_eq_true,Nat.ble_eq] at this
    exact this.resolve_left (by omega)
  |all o v ho hg hd h k ih=>
    rename_i i e σ past held
    have hlt:i < ops.size:=(Array.getElem?_eq_some_iff.1 ho).1
    obtain ⟨m,E,H,val,kd,hE,hH,ht,h1,h2,h3⟩:=ih (by omega)
    refine ⟨m,fun j=>if j=i then e else E j,fun j=>if j=i then σ else H j,fun j=>if j=i then v else val j,fun j=>if j=i then .pure else kd j,if_pos rfl,if_pos rfl,⟨by have:=ht.le;omega,ht.size,fun j hj1 hj2=>?_,?_⟩,fun j hj1 hj2 hk q hq=>?_,fun j hj1 hj2 hk=>?_,h3⟩
    · by_cases hji:j=i
      · subst hji
        refine ⟨o,ho,hd,?_,by simp,fun _=>⟨by simpa using hg,by simpa using h σ,by simp [hH],fun j' h4 h5=>by omega,fun j' h4 h5 hk=>.inr ?_⟩,fun hk=>by simp at hk,fun hk=>by simp at hk⟩
        · simp [hE]
        · simp only [if_true];exact h _
      · obtain ⟨o',ho',hd',hE',hp',hpu,hef,hsk⟩:=ht.step j (by omega) hj2
        simp only [if_neg hji,if_neg (show j+1 ≠ i by omega)]
        refine ⟨o',ho',hd',hE',hp',fun hk=>?_,fun hk=>?_,hsk⟩
        · obtain ⟨a1,a2,a3,a4,a5⟩:=hpu hk
          refine ⟨a1,a2,a3,fun j' h4 h5 hk'=>?_,fun j' h4 h5 hk'=>?_⟩
          · by_cases hj':j'=i
            · subst hj';simp at hk'
            · simp only [if_neg hj'] at hk' ⊢;exact a4 j' (by omega) h5 hk'
          · simp only [if_neg (show j' ≠ i by omega),if_neg (show j'+1 ≠ i by omega)] at hk' ⊢;exact a5 j' h4 h5 hk'
        · obtain ⟨a1,a2,a3⟩:=hef hk
          refine ⟨a1,a2,fun j' h4 h5 hk'=>?_⟩
          by_cases hj':j'=i
          · subst hj';simp at hk'
          · simp only [if_neg hj'] at hk';exact a3 j' (by omega) h5 hk'
    · have hmi:m ≠ i:=by have:=ht.le;omega
      simp only [if_neg hmi]
      rcases ht.fin with hf|⟨o',v',σ'',f1,f2,f3,f4,f5,f6⟩
      · exact .inl hf
      · refine .inr ⟨o',v',σ'',f1,f2,f3,fun j h4 h5 hk=>?_,f5,f6⟩
        by_cases hj':j=i
        · subst hj';simp at hk
        · simp only [if_neg hj'] at hk;exact f4 j (by omega) h5 hk
    · by_cases hji:j=i
      · subst hji;exact ⟨o,ho,.inr (by simp only [if_true];exact h _)⟩
      · simp only [if_neg hji] at hk ⊢;exact h1 j (by omega) hj2 hk q hq
    · by_cases hji:j=i
      · subst hji;simp at hk
      · simp only [if_neg hji,if_neg (show j+1 ≠ i by omega)] at hk ⊢;exact h2 j (by omega) hj2 hk
  |pure o v ho hg hd h hp k ih=>
    rename_i i e σ past held
    have hlt:i < ops.size:=(Array.getElem?_eq_some_iff.1 ho).1
    obtain ⟨m,E,H,val,kd,hE,hH,ht,h1,h2,h3⟩:=ih (by omega)
    refine ⟨m,fun j=>if j=i then e else E j,fun j=>if j=i then σ else H j,fun j=>if j=i then v else val j,fun j=>if j=i then .pure else kd j,if_pos rfl,if_pos rfl,⟨by have:=ht.le;omega,ht.size,fun j hj1 hj2=>?_,?_⟩,fun j hj1 hj2 hk q hq=>?_,fun j hj1 hj2 hk=>?_,h3⟩
    · by_cases hji:j=i
      · subst hji
        refine ⟨o,ho,hd,?_,by simp,fun _=>⟨by simpa using hg,by simpa using h,by simp [hH],fun j' h4 h5=>by omega,fun j' h4 h5 hk=>?_⟩,fun hk=>by simp at hk,fun hk=>by simp at hk⟩
        · simp [hE]
        · simp only [if_neg (show j' ≠ j by omega),if_neg (show j'+1 ≠ j by omega)] at hk ⊢
          simp only [if_true]
          exact (h2 j' (by omega) h5 hk).1 (j,fun σ'=>AOp P σ' e o v σ') (by simp)
      · obtain ⟨o',ho',hd',hE',hp',hpu,hef,hsk⟩:=ht.step j (by omega) hj2
        simp only [if_neg hji,if_neg (show j+1 ≠ i by omega)]
        refine ⟨o',ho',hd',hE',hp',fun hk=>?_,fun hk=>?_,hsk⟩
        · obtain ⟨a1,a2,a3,a4,a5⟩:=hpu hk
          refine ⟨a1,a2,a3,fun j' h4 h5 hk'=>?_,fun j' h4 h5 hk'=>?_⟩
          · by_cases hj':j'=i
            · subst hj';simp at hk'
            · simp only [if_neg hj'] at hk' ⊢;exact a4 j' (by omega) h5 hk'
          · simp only [if_neg (show j' ≠ i by omega),if_neg (show j'+1 ≠ i by omega)] at hk' ⊢;exact a5 j' h4 h5 hk'
        · obtain ⟨a1,a2,a3⟩:=hef hk
          refine ⟨a1,a2,fun j' h4 h5 hk'=>?_⟩
          by_cases hj':j'=i
          · subst hj';simp at hk'
          · simp only [if_neg hj'] at hk';exact a3 j' (by omega) h5 hk'
    · have hmi:m ≠ i:=by have:=ht.le;omega
      simp only [if_neg hmi]
      rcases ht.fin with hf|⟨o',v',σ'',f1,f2,f3,f4,f5,f6⟩
      · exact .inl hf
      · refine .inr ⟨o',v',σ'',f1,f2,f3,fun j h4 h5 hk=>?_,f5,f6⟩
        by_cases hj':j=i
        · subst hj';simp at hk
        · simp only [if_neg hj'] at hk;exact f4 j (by omega) h5 hk
    · by_cases hji:j=i
      · subst hji;exact ⟨o,ho,by simp only [if_true];exact hp.mem q hq⟩
      · simp only [if_neg hji] at hk ⊢;exact h1 j (by omega) hj2 hk q hq
    · by_cases hji:j=i
      · subst hji;simp at hk
      · simp only [if_neg hji,if_neg (show j+1 ≠ i by omega)] at hk ⊢
        obtain ⟨b1,b2⟩:=h2 j (by omega) hj2 hk
        exact ⟨fun q hq=>b1 q (List.mem_cons_of_mem _ hq),b2⟩
  |eff o v σ' ho hg hd h hh hc k ih=>
    rename_i i e σ past held
    have hlt:i < ops.size:=(Array.getElem?_eq_some_iff.1 ho).1
    obtain ⟨m,E,H,val,kd,hE,hH,ht,h1,h2,h3⟩:=ih (by omega)
    refine ⟨m,fun j=>if j=i then e else E j,fun j=>if j=i then σ else H j,fun j=>if j=i then v else val j,fun j=>if j=i then .eff else kd j,if_pos rfl,if_pos rfl,⟨by have:=ht.le;omega,ht.size,fun j hj1 hj2=>?_,?_⟩,fun j hj1 hj2 hk q hq=>?_,fun j hj1 hj2 hk=>?_,fun hm q hq=>h3 hm q (List.mem_cons_of_mem _ hq)⟩
    · by_cases hji:j=i
      · subst hji
        refine ⟨o,ho,hd,?_,by simp,fun hk=>by simp at hk,fun _=>⟨by simpa using hg,?_,fun j' h4 h5=>by omega⟩,fun hk=>by simp at hk⟩
        · simp [hE]
        · simp only [if_true,if_neg (show j+1 ≠ j by omega),hH];exact h
      · obtain ⟨o',ho',hd',hE',hp',hpu,hef,hsk⟩:=ht.step j (by omega) hj2
        simp only [if_neg hji,if_neg (show j+1 ≠ i by omega)]
        refine ⟨o',ho',hd',hE',hp',fun hk=>?_,fun hk=>?_,hsk⟩
        · obtain ⟨a1,a2,a3,a4,a5⟩:=hpu hk
          refine ⟨a1,a2,a3,fun j' h4 h5 hk'=>?_,fun j' h4 h5 hk'=>?_⟩
          · by_cases hj':j'=i
            · subst hj'
              simp only [if_true]
              obtain ⟨o2,ho2,hz⟩:=h1 j (by omega) hj2 hk (j',σ) (by simp)
              rw [ho'] at ho2;cases ho2
              exact hz
            · simp only [if_neg hj'] at hk' ⊢;exact a4 j' (by omega) h5 hk'
          · simp only [if_neg (show j' ≠ i by omega),if_neg (show j'+1 ≠ i by omega)] at hk' ⊢;exact a5 j' h4 h5 hk'
        · obtain ⟨a1,a2,a3⟩:=hef hk
          refine ⟨a1,a2,fun j' h4 h5 hk'=>?_⟩
          by_cases hj':j'=i
          · subst hj';exact (h2 j (by omega) hj2 hk).2 (j',σ) (by simp)
          · simp only [if_neg hj'] at hk';exact a3 j' (by omega) h5 hk'
    · have hmi:m ≠ i:=by have:=ht.le;omega
      simp only [if_neg hmi]
      rcases ht.fin with hf|⟨o',v',σ'',f1,f2,f3,f4,f5,f6⟩
      · exact .inl hf
      · refine .inr ⟨o',v',σ'',f1,f2,f3,fun j h4 h5 hk=>?_,f5,f6⟩
        by_cases hj':j=i
        · subst hj';exact h3 (Array.getElem?_eq_some_iff.1 f1).1 (j,σ) (by simp)
        · simp only [if_neg hj'] at hk;exact f4 j (by omega) h5 hk
    · by_cases hji:j=i
      · subst hji;simp at hk
      · simp only [if_neg hji] at hk ⊢;exact h1 j (by omega) hj2 hk q (List.mem_cons_of_mem _ hq)
    · by_cases hji:j=i
      · subst hji
        simp only [if_neg (show j+1 ≠ j by omega),hH]
        exact ⟨hh.mem,hc.mem⟩
      · simp only [if_neg hji,if_neg (show j+1 ≠ i by omega)] at hk ⊢
        obtain ⟨b1,b2⟩:=h2 j (by omega) hj2 hk
        exact ⟨b1,fun q hq=>b2 q (List.mem_cons_of_mem _ hq)⟩
  |skip o ho hg hd k ih=>
    rename_i i e σ past held
    have hlt:i < ops.size:=(Array.getElem?_eq_some_iff.1 ho).1
    obtain ⟨m,E,H,val,kd,hE,hH,ht,h1,h2,h3⟩:=ih (by omega)
    refine ⟨m,fun j=>if j=i then e else E j,fun j=>if j=i then σ else H j,fun j=>if j=i then .tup [] else val j,fun j=>if j=i then .skip else kd j,if_pos rfl,if_pos rfl,⟨by have:=ht.le;omega,ht.size,fun j hj1 hj2=>?_,?_⟩,fun j hj1 hj2 hk q hq=>?_,fun j hj1 hj2 hk=>?_,h3⟩
    · by_cases hji:j=i
      · subst hji
        refine ⟨o,ho,hd,?_,by simp,fun hk=>by simp at hk,fun hk=>by simp at hk,fun _=>⟨by simpa using hg,by simp,by simp [hH]⟩⟩
        simp [hE]
      · obtain ⟨o',ho',hd',hE',hp',hpu,hef,hsk⟩:=ht.step j (by omega) hj2
        simp only [if_neg hji,if_neg (show j+1 ≠ i by omega)]
        refine ⟨o',ho',hd',hE',hp',fun hk=>?_,fun hk=>?_,hsk⟩
        · obtain ⟨a1,a2,a3,a4,a5⟩:=hpu hk
          refine ⟨a1,a2,a3,fun j' h4 h5 hk'=>?_,fun j' h4 h5 hk'=>?_⟩
          · by_cases hj':j'=i
            · subst hj';simp at hk'
            · simp only [if_neg hj'] at hk' ⊢;exact a4 j' (by omega) h5 hk'
          · simp only [if_neg (show j' ≠ i by omega),if_neg (show j'+1 ≠ i by omega)] at hk' ⊢;exact a5 j' h4 h5 hk'
        · obtain ⟨a1,a2,a3⟩:=hef hk
          refine ⟨a1,a2,fun j' h4 h5 hk'=>?_⟩
          by_cases hj':j'=i
          · subst hj';simp at hk'
          · simp only [if_neg hj'] at hk';exact a3 j' (by omega) h5 hk'
    · have hmi:m ≠ i:=by have:=ht.le;omega
      simp only [if_neg hmi]
      rcases ht.fin with hf|⟨o',v',σ'',f1,f2,f3,f4,f5,f6⟩
      · exact .inl hf
      · refine .inr ⟨o',v',σ'',f1,f2,f3,fun j h4 h5 hk=>?_,f5,f6⟩
        by_cases hj':j=i
        · subst hj';simp at hk
        · simp only [if_neg hj'] at hk;exact f4 j (by omega) h5 hk
    · by_cases hji:j=i
      · subst hji;simp at hk
      · simp only [if_neg hji] at hk ⊢;exact h1 j (by omega) hj2 hk q hq
    · by_cases hji:j=i
      · subst hji;simp at hk
      · simp only [if_neg hji,if_neg (show j+1 ≠ i by omega)] at hk ⊢;exact h2 j (by omega) hj2 hk
end rp
end Lg
namespace Lg
open Go Go.RowKit
variable [GLay]

section sound
variable {P : Program} {N : Nat} {ops : Array Oper} {tb : Array Nat}

def JD (ops : Array Oper) (k : Nat) : Option Nat := (ops[k]?).bind (·.dst)
def lw (ops : Array Oper) (p : Nat → Bool) (t : Nat) : Nat → Option Nat
  | 0 => none
  | k + 1 => if p k = true ∧ JD ops k = some t then some k else lw ops p t k
theorem Vc {p q : Nat → Bool} {t : Nat} : ∀ {n : Nat}, (∀ j, j < n → JD ops j = some t → p j = q j) → lw ops p t n = lw ops q t n
  | 0, _ => rfl
  | n + 1, h => by
    simp only [lw]
    by_cases hd : JD ops n = some t
    · rw [h n (by omega) hd, Vc (fun j hj => h j (by omega))]
    · simp only [hd, and_false, if_false]; exact Vc (fun j hj => h j (by omega))
theorem Q0I {p : Nat → Bool} {t i : Nat} : ∀ {n : Nat}, i ≤ n → (∀ j, i ≤ j → j < n → JD ops j = some t → p j = false) → lw ops p t n = lw ops p t i
  | 0, h, _ => by have : i = 0 := by omega
                  subst this; rfl
  | n + 1, h, hp => by
    by_cases e : i = n + 1
    · subst e; rfl
    · simp only [lw]
      rw [if_neg (fun ⟨h1, h2⟩ => by rw [hp n (by omega) (by omega) h2] at h1; cases h1)]
      exact Q0I (by omega) (fun j h1 h2 => hp j h1 (by omega))
theorem Qco {p : Nat → Bool} {t i n : Nat} (hi : i < n) (hp : p i = true) (hd : JD ops i = some t) (h : ∀ j, i < j → j < n → JD ops j = some t → p j = false) : lw ops p t n = some i := by
  rw [Q0I (i := i + 1) (by omega) (fun j h1 h2 => h j (by omega) h2)]
  simp [lw, hp, hd]

def Fz (ops : Array Oper) (e0 : Env) (val : Nat → AV) (p : Nat → Bool) (n t : Nat) : AV :=
  match lw ops p t n with
  | some j => val j
  | none => e0.look t
theorem Q8g (e : Env) (d : Option Nat) (v : AV) (t : Nat) : (e.put d v).look t = if d = some t then v else e.look t := by
  cases d with
  | none => simp [Env.put]
  | some d =>
    show Y7 ((d, v) :: e.l) t = _
    simp only [Y7]
    by_cases h : d = t
    · subst h
      simp
    · have : Nat.beq d t = false := by
        cases hb : Nat.beq d t with
        | false => rfl
        | true => exact absurd (Nat.eq_of_beq_eq_true hb) h
      simp [this, h]
      rfl
theorem QdX (e : Env) (d : Option Nat) (v : AV) : (e.put d v).D = e.D := by cases d <;> rfl

theorem Hc {p q : Nat → Bool} {i : Nat} : ∀ {l : List Nat}, l.Nodup → i ∈ l → p i = true → q i = false → (∀ j, j ≠ i → q j = p j) → l.countP q + 1 = l.countP p
  | [], _, h, _, _, _ => by simp at h
  | a :: r, hn, h, hp, hq, hj => by
    have hn' := List.nodup_cons.1 hn
    rw [List.countP_cons, List.countP_cons]
    by_cases e : a = i
    · subst e
      have : r.countP q = r.countP p := List.countP_congr (fun x hx => by rw [hj x (fun e => hn'.1 (e ▸ hx))])
      rw [this, hp, hq]; simp
    · have := Hc hn'.2 ((List.mem_cons.1 h).resolve_left (fun e' => e e'.symm)) hp hq hj
      rw [hj a e]
      omega

variable {Q : Env → List AO → Prop} {X : AV → List AO → Prop}

theorem Tr.hconst {i0 m : Nat} {E : Nat → Env} {H : Nat → List AO} {val : Nat → AV} {kd : Nat → Kd} (ht : Tr P N ops tb Q X i0 m E H val kd) : ∀ (b a : Nat), i0 ≤ a → a ≤ b → b ≤ m → (∀ j, a ≤ j → j < b → kd j ≠ .eff) → H a = H b
  | 0, a, _, h, _, _ => by have : a = 0 := by omega
                           subst this; rfl
  | b + 1, a, h0, h, hb, hk => by
    by_cases e : a = b + 1
    · subst e; rfl
    · have ih := ht.hconst b a h0 (by omega) (by omega) (fun j h1 h2 => hk j h1 (by omega))
      obtain ⟨o, _, _, _, hp, hpu, hef, hsk⟩ := ht.step b (by omega) (by omega)
      have : H (b + 1) = H b := by
        cases hkb : kd b with
        | pure => exact (hpu hkb).2.2.1
        | eff => exact absurd hkb (hk b (by omega) (by omega))
        | skip => exact (hsk hkb).2.2
        | pan => exact absurd hkb hp
      rw [ih, this]

theorem V1 (f : Nat → Bool) (m : Nat) : ∀ (d i : Nat), m - i = d → i ≤ m → ∃ q, i ≤ q ∧ q ≤ m ∧ (∀ j, i ≤ j → j < q → f j = false) ∧ (q < m → f q = true)
  | 0, i, hd, hi => ⟨i, Nat.le_refl _, hi, fun j h1 h2 => by omega, fun h => by omega⟩
  | d + 1, i, hd, hi => by
    cases hf : f i with
    | true => exact ⟨i, Nat.le_refl _, hi, fun j h1 h2 => by omega, fun _ => hf⟩
    | false =>
      obtain ⟨q, h1, h2, h3, h4⟩ := V1 f m d (i + 1) (by omega) (by omega)
      refine ⟨q, by omega, h2, fun j h5 h6 => ?_, h4⟩
      by_cases e : j = i
      · subst e; exact hf
      · exact h3 j (by omega) h6
theorem Gf (f : Nat → Bool) (i : Nat) : ∀ (q : Nat), i ≤ q → (∀ j, i ≤ j → j < q → f j = false) ∨ ∃ j, i ≤ j ∧ j < q ∧ f j = true ∧ ∀ k, j < k → k < q → f k = false
  | 0, h => .inl (fun j h1 h2 => by omega)
  | q + 1, h => by
    by_cases e : i = q + 1
    · subst e; exact .inl (fun j h1 h2 => by omega)
    · cases hf : f q with
      | true => exact .inr ⟨q, by omega, by omega, hf, fun k h1 h2 => by omega⟩
      | false =>
        rcases Gf f i q (by omega) with h1 | ⟨j, h1, h2, h3, h4⟩
        · refine .inl fun j h2 h3 => ?_
          by_cases e' : j = q
          · subst e'; exact hf
          · exact h1 j h2 (by omega)
        · refine .inr ⟨j, h1, by omega, h3, fun k h5 h6 => ?_⟩
          by_cases e' : k = q
          · subst e'; exact hf
          · exact h4 k h5 (by omega)

structure Chk (ops : Array Oper) (tb : Array Nat) : Prop where
  edge : ∀ (i : Nat) (o : Oper), ops[i]? = some o → ∀ ed ∈ o.after.toList, Region.binds .any ed = true → ed.on < i ∧ Zv tb ed.on i = true
  rd : ∀ (i j t : Nat) (o : Oper), ops[i]? = some o → JD ops j = some t → j ≠ i → t ∈ KG ops o → (j < i → Zv tb j i = true) ∧ (i < j → Zv tb i j = true)
  wr : ∀ (i j t : Nat) (o : Oper), ops[i]? = some o → JD ops j = some t → j ≠ i → o.dst = some t → (j < i → Zv tb j i = true) ∧ (i < j → Zv tb i j = true)
  way : ∀ (i j : Nat) (o : Oper), ops[j]? = some o → i < ops.size → Zv tb i j = true → ∃ ed ∈ o.after.toList, Region.binds .any ed = true ∧ (ed.on = i ∨ Zv tb i ed.on = true)

theorem Chk.of (h : QcM ops tb = true) (k : Qd0 ops tb = true) : Chk ops tb := by
  have hlt : ∀ {i : Nat} {o : Oper}, ops[i]? = some o → i < ops.size := fun h => (Array.getElem?_eq_some_iff.1 h).1
  have key : ∀ (i j t : Nat) (o : Oper), ops[i]? = some o → JD ops j = some t → j ≠ i →
      (t ∈ KG ops o → (bif Nat.blt j i then Zv tb j i else Zv tb i j) = true) ∧ (o.dst = some t → (bif Nat.blt j i then Zv tb j i else Zv tb i j) = true) := fun i j t o ho hd hne => by
    have h1 := List.all_eq_true.1 h i (List.mem_range.2 (hlt ho))
    rw [ho] at h1
    simp only [Bool.and_eq_true] at h1
    have hj : ∃ p, ops[j]? = some p ∧ p.dst = some t := by
      unfold JD at hd
      cases hp : ops[j]? with
      | none => rw [hp] at hd; cases hd
      | some p => rw [hp] at hd; exact ⟨p, rfl, hd⟩
    obtain ⟨p, hp, hpd⟩ := hj
    have h2 := List.all_eq_true.1 h1.2 j (List.mem_range.2 (hlt hp))
    rw [hp] at h2
    simp only [hpd] at h2
    have hb : Nat.beq i j = false := by
      cases hb : Nat.beq i j with
      | false => rfl
      | true => exact absurd (Nat.eq_of_beq_eq_true hb).symm hne
    rw [hb] at h2
    simp only [Bool.false_or, Bool.and_eq_true, Bool.or_eq_true, Bool.not_eq_true'] at h2
    refine ⟨fun hm => h2.1.resolve_left (fun hc => ?_), fun hm => h2.2.resolve_left (fun hc => ?_)⟩
    · rw [List.contains_eq_mem] at hc
      simp [hm] at hc
    · rw [hm] at hc; simp at hc
  have fin : ∀ {i j : Nat}, (bif Nat.blt j i then Zv tb j i else Zv tb i j) = true → (j < i → Zv tb j i = true) ∧ (i < j → Zv tb i j = true) := fun {i j} hb => by
    constructor
    · intro hji
      have : Nat.blt j i = true := by rw [Nat.blt_eq]; exact hji
      rw [this] at hb; exact hb
    · intro hij
      have : Nat.blt j i = false := by
        cases hbl : Nat.blt j i with
        | false => rfl
        | true => rw [Nat.blt_eq] at hbl; omega
      rw [this] at hb; exact hb
  refine ⟨fun i o ho ed hed hbd => ?_, fun i j t o ho hd hne hm => fin ((key i j t o ho hd hne).1 hm), fun i j t o ho hd hne hm => fin ((key i j t o ho hd hne).2 hm), fun i j o ho hi hb => ?_⟩
  · have h1 := List.all_eq_true.1 h i (List.mem_range.2 (hlt ho))
    rw [ho] at h1
    simp only [Bool.and_eq_true] at h1
    have h2 := List.all_eq_true.1 h1.1 ed hed
    simp only [hbd, Bool.not_true, Bool.false_or, Bool.and_eq_true, Nat.blt_eq] at h2
    exact h2
  · have h1 := List.all_eq_true.1 k j (List.mem_range.2 (hlt ho))
    rw [ho] at h1
    have h2 := List.all_eq_true.1 h1 i (List.mem_range.2 hi)
    simp only [hb, Bool.not_true, Bool.false_or] at h2
    obtain ⟨ed, hed, h3⟩ := List.any_eq_true.1 h2
    simp only [Bool.and_eq_true, Bool.or_eq_true] at h3
    exact ⟨ed, hed, h3.1, h3.2.imp Nat.eq_of_beq_eq_true id⟩
end sound
end Lg
namespace Lg
open Go Go.RowKit
variable [GLay]

section sound
variable {P:Program} {N:Nat} {ops:Array Oper} {tb:Array Nat} {Q:Env→List AO→Prop} {X:AV→List AO→Prop}

theorem UT {listed:Array Bool} {i:Nat} (hs:listed.size=ops.size):i∈Region.ready .any ops listed↔∃ o,ops[i]? =some o∧listed.getD i false=false∧∀ ed∈o.after.toList,Region.binds .any ed=true→listed.getD ed.on false=true:=by
 unfold Region.ready
 simp only [List.mem_filter,List.mem_range,Bool.and_eq_true,Bool.not_eq_true']
 constructor
 ·rintro ⟨h1,h2,h3⟩
  have ho:=Array.getElem?_eq_getElem h1
  refine ⟨ops[i],ho,?_,?_⟩
  ·have:listed.getD i true=listed.getD i false:=by simp [hs,h1]
   rw [← this];exact h2
  ·rw [ho] at h3
   simp only [Option.map_some,Option.getD_some] at h3
   intro ed hed hb
   have:=(Array.all_eq_true').1 h3 ed (Array.mem_toList_iff.1 hed)
   simpa [hb] using this
 ·rintro ⟨o,ho,h2,h3⟩
  have h1:i < ops.size:=(Array.getElem?_eq_some_iff.1 ho).1
  refine ⟨h1,?_,?_⟩
  ·have:listed.getD i true=listed.getD i false:=by simp [hs,h1]
   rw [this];exact h2
  ·rw [ho]
   simp only [Option.map_some,Option.getD_some]
   refine (Array.all_eq_true').2 fun ed hed=>?_
   cases hb:Region.binds .any ed with
   |false=>simp
   |true=>simp [h3 ed (Array.mem_toList_iff.2 hed) hb]

structure Inv (ops:Array Oper) (N m:Nat) (E:Nat→Env) (H:Nat→List AO) (val:Nat→AV) (kd:Nat→Kd) (s0:CS) (listed:Array Bool) (a:Act) (w:World):Prop where
 size:listed.size=ops.size
 dn:∀ j o,ops[j]? =some o→listed.getD j false=true→∀ ed∈o.after.toList,Region.binds .any ed=true→listed.getD ed.on false=true
 lt:∀ j,listed.getD j false=true→j < m
 st:∃ s q,s.w=w∧Good s∧Ext s0 s∧q≤m∧(∀ j,j < q→kd j= .eff→listed.getD j false=true)∧(q < m→kd q= .eff∧listed.getD q false=false)∧s.σ=H q∧
  a.tmps.size=N∧DefOK s (E 0).D a.defers∧∀ t,V s (Fz ops (E 0) val (fun j=>listed.getD j false) ops.size t) (a.eval (.tmp t))

theorem Inv.way {m:Nat} {E:Nat→Env} {H:Nat→List AO} {val:Nat→AV} {kd:Nat→Kd} {s0:CS} {listed:Array Bool} {a:Act} {w:World} (c:Chk ops tb) (h:Inv ops N m E H val kd s0 listed a w):
  ∀ (j:Nat) (o:Oper),ops[j]? =some o→(∀ ed∈o.after.toList,Region.binds .any ed=true→listed.getD ed.on false=true)→∀ i,i < ops.size→Zv tb i j=true→listed.getD i false=true:=by
 intro j
 induction j using Nat.strongRecOn with
 |_ j ih=>
  intro o ho hdeps i hi hb
  obtain ⟨ed,hed,hbd,h1⟩:=c.way i j o ho hi hb
  have hon:=hdeps ed hed hbd
  rcases h1 with h1|h1
  ·rw [← h1];exact hon
  ·have hlt:=(c.edge j o ho ed hed hbd).1
   have hjn:ed.on < ops.size:=by have:=(Array.getElem?_eq_some_iff.1 ho).1;omega
   have ho':=Array.getElem?_eq_getElem hjn
   exact ih ed.on hlt _ ho' (h.dn ed.on _ ho' hon) i hi h1

theorem Je (listed:Array Bool) (i:Nat) (hi:i < listed.size) (j:Nat):(listed.setIfInBounds i true).getD j false=if j=i then true else listed.getD j false:=by
 simp only [Array.getD_eq_getD_getElem?,Array.getElem?_setIfInBounds]
 by_cases e:i=j
 ·subst e;simp [hi]
 ·have e':¬j=i:=fun h=>e h.symm
  simp [e,e']

theorem Q8w {m:Nat} {E:Nat→Env} {H:Nat→List AO} {val:Nat→AV} {kd:Nat→Kd} {s0:CS} {QA':QA} (c:Chk ops tb) (ht:Tr P N ops tb Q X 0 m E H val kd)
  (hQ:∀ e σ,Q e σ→QA' .normal e σ) (hX:∀ e v σ,e.D=(E 0).D→X v σ→QA' (.pan v) e σ):
  ∀ (fuel:Nat) (listed:Array Bool) (a:Act) (w:World),Inv ops N m E H val kd s0 listed a w→(List.range ops.size).countP (fun i=> !listed.getD i false)≤fuel→
   wpAny P .any ops (Q9h s0 N QA') fuel listed a w:=by
 have hlook:∀ i,i≤m→∀ t,(E i).look t=Fz ops (E 0) val (fun _=>true) i t:=by
  intro i
  induction i with
  |zero=>intro _ t;simp [Fz,lw]
  |succ i ih=>
   intro hi t
   obtain ⟨o,ho,_,hE,_⟩:=ht.step i (Nat.zero_le _) (by omega)
   rw [hE,Q8g,ih (by omega) t]
   have hd:JD ops i=o.dst:=by simp [JD,ho]
   simp only [Fz,lw,hd,true_and]
   by_cases e:o.dst=some t
   ·simp [e]
   ·simp [e]
 have hD:∀ i,i≤m→(E i).D=(E 0).D:=by
  intro i
  induction i with
  |zero=>intro _;rfl
  |succ i ih=>
   intro hi
   obtain ⟨o,ho,_,hE,_⟩:=ht.step i (Nat.zero_le _) (by omega)
   rw [hE,QdX,ih (by omega)]
 have hend:∀ {listed:Array Bool} {a:Act} {w:World},Inv ops N m E H val kd s0 listed a w→(∀ i,i < ops.size→listed.getD i false=true)→Q9h s0 N QA' .normal a w:=by
  intro listed a w inv hall
  obtain ⟨s,q,hw,g,x,hq,hq1,hq2,hσ,hN,hdf,hV⟩:=inv.st
  rcases ht.fin with ⟨hm,hQm⟩|⟨o,v,σ',ho,_⟩
  ·have hqm:q=m:=by
    rcases Nat.lt_or_ge q m with h|h
    ·have h1:=(hq2 h).2
     rw [hall q (by omega)] at h1;cases h1
    ·omega
   subst hqm
   refine ⟨s,hw,g,x,E q,⟨hN,by rw [hD q (Nat.le_refl _)];exact hdf,fun t=>?_⟩,hQ _ _ (by rw [hσ];exact hQm)⟩
   rw [hlook q (Nat.le_refl _) t]
   have h1:=hV t
   have h2:lw ops (fun j=>listed.getD j false) t ops.size=lw ops (fun _=>true) t q:=by
    rw [hm];exact Vc fun j hj _=>hall j hj
   unfold Fz at h1 ⊢
   rw [h2] at h1
   exact h1
  ·have hlt:=(Array.getElem?_eq_some_iff.1 ho).1
   have:=inv.lt m (hall m hlt)
   omega
 have hallOf:∀ {listed:Array Bool} {a:Act} {w:World},Inv ops N m E H val kd s0 listed a w→Region.ready .any ops listed=[]→∀ i,i < ops.size→listed.getD i false=true:=by
  intro listed a w inv hr i
  induction i using Nat.strongRecOn with
  |_ i ih=>
   intro hi
   cases hl:listed.getD i false with
   |true=>rfl
   |false=>
    have ho:=Array.getElem?_eq_getElem hi
    have:i∈Region.ready .any ops listed:=(UT inv.size).2 ⟨_,ho,hl,fun ed hed hb=>by
     have h1:=(c.edge i _ ho ed hed hb).1
     exact ih ed.on h1 (by omega)⟩
    rw [hr] at this;cases this
 intro fuel
 induction fuel with
 |zero=>
  intro listed a w inv hc
  have hall:∀ i,i < ops.size→listed.getD i false=true:=fun i hi=>by
   have h0:(List.range ops.size).countP (fun i=> !listed.getD i false)=0:=by omega
   have:=List.countP_eq_zero.1 h0 i (List.mem_range.2 hi)
   simpa using this
  refine ⟨?_,hend inv hall⟩
  cases hr:Region.ready .any ops listed with
  |nil=>rfl
  |cons i r=>
   have:i∈Region.ready .any ops listed:=by rw [hr];simp
   obtain ⟨o,ho,h1,_⟩:=(UT inv.size).1 this
   rw [hall i (Array.getElem?_eq_some_iff.1 ho).1] at h1;cases h1
 |succ fuel ih=>
  intro listed a w inv hc
  refine ⟨fun hr=>hend inv (hallOf inv hr),fun i hi=>?_⟩
  obtain ⟨o,ho,hnl,hdeps⟩:=(UT inv.size).1 hi
  have hin:i < ops.size:=(Array.getElem?_eq_some_iff.1 ho).1
  have hway:=inv.way c i o ho hdeps
  obtain ⟨s,q,hw,g,x,hq,hq1,hq2,hσ,hN,hdf,hV⟩:=inv.st
  subst hw
  have hdsti:JD ops i=o.dst:=by simp [JD,ho]
  have him:i≤m:=by
   rcases ht.fin with ⟨hm,_⟩|⟨om,vm,σm,_,_,_,_,hafter,_⟩
   ·omega
   ·rcases Nat.lt_or_ge m i with h|h
    ·have h1:=hway m (by omega) (hafter i h hin)
     have:=inv.lt m h1
     omega
    ·exact h
  have hpre:∀ t,(t∈KG ops o)→V s ((E i).look t) (a.eval (.tmp t)):=fun t hmem=>by
   rw [hlook i him t]
   have h1:=hV t
   have h2:lw ops (fun j=>listed.getD j false) t ops.size=lw ops (fun _=>true) t i:=by
    rw [Q0I (i:=i) (by omega) fun j h3 h4 hd=>?_]
    ·refine Vc fun j hj hd=>?_
     exact hway j (by omega) ((c.rd i j t o ho hd (by omega) hmem).1 hj)
    ·cases hl:listed.getD j false with
     |false=>rfl
     |true=>
      by_cases e:j=i
      ·subst e;rw [hnl] at hl;cases hl
      ·have hb:=(c.rd i j t o ho hd e hmem).2 (by omega)
       have hoj:=Array.getElem?_eq_getElem h4
       have:=inv.way c j _ hoj (inv.dn j _ hoj hl) i hin hb
       rw [hnl] at this;cases this
   unfold Fz at h1 ⊢
   rw [h2] at h1
   exact h1
  have hops:∀ y∈o.op.operands,V s (opv (E i) y) (a.eval y):=fun y hy=>by
   cases y with
   |tmp t=>
    refine hpre t ?_
    unfold KG
    refine List.mem_append_left _ (List.mem_filterMap.2 ⟨.tmp t,Array.mem_toList_iff.2 hy,rfl⟩)
   |const v=>exact Vs s v
   |global gg=>exact .any _
   |func f=>exact V.func (s:=s) (.func f) [] [] [] [] rfl rfl (fun i a v h=>by simp at h) (fun i a v h=>by simp at h)
  have hguard:∀ t,ZB ops N (E i) o t→Region.wanted o (yielded ops a.tmps)=t:=fun t hg=>by
   unfold ZB at hg
   unfold Region.wanted
   cases hgd:o.guard with
   |none=>rw [hgd] at hg;simp [hg]
   |some jw=>
    obtain ⟨j,want⟩:=jw
    rw [hgd] at hg
    obtain ⟨d,hd1,hd2,hd3⟩:=hg
    have hmem:d∈KG ops o:=by
     unfold KG
     refine List.mem_append_right _ ?_
     rw [hgd]
     simp [hd1]
    have hlt:d < a.tmps.size:=by rw [hN];exact hd2
    rcases hd3 with hd3|⟨ht,hd3⟩
    rotate_left
    ·subst ht
     have h1:=(hd3 ▸ hpre d hmem).inv_undef
     simp only [Act.eval] at h1
     have h3:a.tmps[d]? =some undef:=by
      rw [Array.getD_eq_getD_getElem?,Array.getElem?_eq_getElem hlt] at h1
      rw [Array.getElem?_eq_getElem hlt]
      simpa using h1
     simp only [yielded,hd1,Option.bind_some,h3]
     simp [undef]
    have h1:=(hd3 ▸ hpre d hmem).inv_bool
    simp only [Act.eval] at h1
    have h3:a.tmps[d]? =some (.bool (if t=true then want else !want)):=by
     rw [Array.getD_eq_getD_getElem?,Array.getElem?_eq_getElem hlt] at h1
     rw [Array.getElem?_eq_getElem hlt]
     simpa using h1
    simp only [yielded,hd1,Option.bind_some,h3]
    cases t<;>cases want<;>simp
  have hcount:(List.range ops.size).countP (fun j=> !(listed.setIfInBounds i true).getD j false)≤fuel:=by
   have hsz:i < listed.size:=by rw [inv.size];exact hin
   have:=Hc (p:=fun j=> !listed.getD j false) (q:=fun j=> !(listed.setIfInBounds i true).getD j false) (i:=i) (l:=List.range ops.size) List.nodup_range (List.mem_range.2 hin)
    (by simp only [hnl];rfl) (by simp only [Je _ _ hsz];simp) (fun j hj=>by simp only [Je _ _ hsz];simp [hj])
   omega
  have hsz:i < listed.size:=by rw [inv.size];exact hin
  have hnext:∀ {s':CS} {cv:Value} {q':Nat},i < m→(∀ d,o.dst=some d→d < N)→Good s'→Ext s s'→V s' (val i) cv→q'≤m→(∀ j,j < q'→kd j= .eff→j=i∨listed.getD j false=true)→
    (q' < m→kd q'= .eff∧q' ≠ i∧listed.getD q' false=false)→s'.σ=H q'→Inv ops N m E H val kd s0 (listed.setIfInBounds i true) (a.put o.dst cv) s'.w:=by
   intro s' cv q' hlt hdN g' x' hv hq' hb1 hb2 hσ'
   refine ⟨by simp [inv.size],fun j oj hoj hl ed hed hb=>?_,fun j hl=>?_,s',q',rfl,g',x.trans x',hq',fun j h1 h2=>?_,fun h1=>?_,hσ',?_,?_,fun t=>?_⟩
   ·rw [Je _ _ hsz] at hl ⊢
    by_cases e:ed.on=i
    ·simp [e]
    ·rw [if_neg e]
     by_cases e':j=i
     ·subst e';rw [ho] at hoj;cases hoj;exact hdeps ed hed hb
     ·rw [if_neg e'] at hl;exact inv.dn j oj hoj hl ed hed hb
   ·rw [Je _ _ hsz] at hl
    by_cases e':j=i
    ·subst e';exact hlt
    ·rw [if_neg e'] at hl;exact inv.lt j hl
   ·rw [Je _ _ hsz]
    rcases hb1 j h1 h2 with e|e
    ·simp [e]
    ·by_cases e':j=i
     ·simp [e']
     ·rw [if_neg e'];exact e
   ·obtain ⟨b1,b2,b3⟩:=hb2 h1
    exact ⟨b1,by rw [Je _ _ hsz,if_neg b2];exact b3⟩
   ·cases hd:o.dst<;>simp [Act.put,hN]
   ·have:=hdf.mono g x'
    cases hd:o.dst<;>simpa [Act.put] using this
   ·by_cases hd:o.dst=some t
    ·have h1:lw ops (fun j=>(listed.setIfInBounds i true).getD j false) t ops.size=some i:=by
      refine Qco hin (by simp only [Je _ _ hsz];simp) (by rw [hdsti];exact hd) fun j h1 h2 h3=>?_
      simp only [Je _ _ hsz]
      rw [if_neg (by omega)]
      cases hl:listed.getD j false with
      |false=>rfl
      |true=>
       have hb:=(c.wr i j t o ho h3 (by omega) hd).2 h1
       have hoj:=Array.getElem?_eq_getElem h2
       have:=inv.way c j _ hoj (inv.dn j _ hoj hl) i hin hb
       rw [hnl] at this;cases this
     unfold Fz
     rw [h1]
     have hlt2:t < a.tmps.size:=by rw [hN];exact hdN t hd
     have:(a.put o.dst cv).eval (.tmp t)=cv:=by simp [hd,Act.put,Act.eval,hlt2]
     rw [this];exact hv
    ·have h1:lw ops (fun j=>(listed.setIfInBounds i true).getD j false) t ops.size=lw ops (fun j=>listed.getD j false) t ops.size:=by
      refine Vc fun j hj h3=>?_
      simp only [Je _ _ hsz]
      rw [if_neg (fun e=>by subst e;rw [hdsti] at h3;exact hd h3)]
     have h2:(a.put o.dst cv).eval (.tmp t)=a.eval (.tmp t):=by
      cases hd':o.dst with
      |none=>rfl
      |some d=>
       have:¬d=t:=fun e=>hd (by rw [hd',e])
       simp [Act.put,Act.eval,Array.getD_eq_getD_getElem?,this]
     rw [h2]
     unfold Fz
     rw [h1]
     exact (hV t).mono g x'
  unfold wpOp
  rw [ho]
  simp only
  by_cases hlt:i < m
  ·obtain ⟨o',ho',hdN,hE,hkp,hpu,hef,hsk⟩:=ht.step i (Nat.zero_le _) hlt
   rw [ho] at ho';cases ho'
   cases hk:kd i with
   |pan=>exact absurd hk hkp
   |skip=>
    obtain ⟨hg,hval,_⟩:=hsk hk
    rw [if_neg (by rw [hguard false hg];simp)]
    refine ih _ _ _ (hnext (s':=s) (cv:=undef) (q':=q) hlt hdN g (Ext.refl s) (by rw [hval];exact V.undef s) hq (fun j h1 h2=>.inr (hq1 j h1 h2)) (fun h1=>?_) hσ) hcount
    obtain ⟨b1,b2⟩:=hq2 h1
    exact ⟨b1,(fun e=>by rw [e,hk] at b1;cases b1),b2⟩
   |pure=>
    obtain ⟨hg,h1,h2,h3,h4⟩:=hpu hk
    rw [if_pos (by rw [hguard true hg])]
    have hop:AOp P (H q) (E i) o (val i) (H q):=by
     rcases Nat.lt_or_ge q i with hqi|hqi
     ·have hqm:q < m:=by omega
      obtain ⟨b1,b2⟩:=hq2 hqm
      refine (h3 q (Nat.zero_le _) hqi b1).resolve_left fun hb=>?_
      rw [hway q (by omega) hb] at b2;cases b2
     ·have hne:q ≠ i:=fun e=>by
       have:=(hq2 (by omega)).1
       rw [e,hk] at this;cases this
      rcases Gf (fun j=>decide (kd j= .eff)) (i+1) q (by omega) with hn|⟨j,j1,j2,j3,j4⟩
      ·have e1:=ht.hconst q (i+1) (Nat.zero_le _) (by omega) hq (fun j h5 h6=>by have:=hn j h5 h6;simpa using this)
       rw [← e1,h2];exact h1
      ·have hje:kd j= .eff:=by simpa using j3
       have hjl:=hq1 j j2 hje
       have e1:=ht.hconst q (j+1) (Nat.zero_le _) (by omega) hq (fun k h5 h6=>by have:=j4 k (by omega) h6;simpa using this)
       rw [← e1]
       refine (h4 j (by omega) (by omega) hje).resolve_left fun hb=>?_
       have hjn:j < ops.size:=by have:=ht.size;omega
       have hoj:=Array.getElem?_eq_getElem hjn
       have:=inv.way c j _ hoj (inv.dn j _ hoj hjl) i hin hb
       rw [hnl] at this;cases this
    refine .inl (hop s a hσ g hops _ _ (fun v cv s' hN' g' x' hv=>?_) (fun _ _ _ hx=>hx.elim))
    obtain ⟨rfl,hσ'⟩:=hN'
    refine ih _ _ _ (hnext hlt hdN g' x' hv hq (fun j h5 h6=>.inr (hq1 j h5 h6)) (fun h5=>?_) hσ') hcount
    obtain ⟨b1,b2⟩:=hq2 h5
    exact ⟨b1,(fun e=>by rw [e,hk] at b1;cases b1),b2⟩
   |eff=>
    obtain ⟨hg,h1,h2⟩:=hef hk
    rw [if_pos (by rw [hguard true hg])]
    have hqi:q=i:=by
     rcases Nat.lt_trichotomy q i with h|h|h
     ·obtain ⟨b1,b2⟩:=hq2 (by omega)
      rw [hway q (by omega) (h2 q (Nat.zero_le _) h b1)] at b2;cases b2
     ·exact h
     ·rw [hq1 i h hk] at hnl;cases hnl
    subst hqi
    obtain ⟨q',n1,n2,n3,n4⟩:=V1 (fun j=>decide (kd j= .eff)) m (m - (q+1)) (q+1) rfl (by omega)
    have e1:=ht.hconst q' (q+1) (Nat.zero_le _) n1 n2 (fun j h5 h6=>by have:=n3 j h5 h6;simpa using this)
    refine .inl (h1 s a hσ g hops _ _ (fun v cv s' hN' g' x' hv=>?_) (fun _ _ _ hx=>hx.elim))
    obtain ⟨rfl,hσ'⟩:=hN'
    refine ih _ _ _ (hnext hlt hdN g' x' hv n2 (fun j h5 h6=>?_) (fun h5=>?_) (by rw [hσ',e1])) hcount
    ·rcases Nat.lt_trichotomy j q with h|h|h
     ·exact .inr (hq1 j h h6)
     ·exact .inl h
     ·have:=n3 j (by omega) h5
      simp [h6] at this
    ·have hke:kd q'= .eff:=by simpa using n4 h5
     refine ⟨hke,by omega,?_⟩
     cases hl:listed.getD q' false with
     |false=>rfl
     |true=>
      have hjn:q' < ops.size:=by have:=ht.size;omega
      have hoj:=Array.getElem?_eq_getElem hjn
      obtain ⟨oq,_,_,_,_,_,hefq,_⟩:=ht.step q' (Nat.zero_le _) h5
      have hb:=(hefq hke).2.2 q (Nat.zero_le _) (by omega) hk
      have:=inv.way c q' _ hoj (inv.dn q' _ hoj hl) q hin hb
      rw [hnl] at this;cases this
  ·have hie:i=m:=by omega
   subst hie
   rcases ht.fin with ⟨hm,_⟩|⟨om,vm,σm,hom,hg,hop,hch,_,hx⟩
   ·omega
   ·rw [ho] at hom;cases hom
    rw [if_pos (by rw [hguard true hg])]
    have hqi:q=i:=by
     rcases Nat.lt_or_ge q i with h|h
     ·obtain ⟨b1,b2⟩:=hq2 h
      rw [hway q (by omega) (hch q (Nat.zero_le _) h b1)] at b2;cases b2
     ·omega
    subst hqi
    refine .inl (hop s a hσ g hops _ _ (fun _ _ _ hN'=>hN'.elim) (fun v cv s' hX' g' x' hv=>?_))
    obtain ⟨rfl,hσ'⟩:=hX'
    refine ⟨s',rfl,g',x.trans x',⟨(E 0).D,[]⟩,⟨hN,hdf.mono g x',fun t=>.any _⟩,rfl,v,hv,hX _ _ _ rfl (by rw [hσ'];exact hx)⟩
theorem Q6r {id:Nat} {e:Env} {σ:List AO} {QA':QA} (hm:P.follows .mixedOrders=true) (h1:QcM ops tb=true) (h2:Qd0 ops tb=true)
  (h:RP P N ops tb (fun e σ=>QA' .normal e σ) (fun v σ=>∀ e':Env,e'.D=e.D→QA' (.pan v) e' σ) 0 e σ [] []):AWp P N (.region id ops true) e σ QA':=by
 intro s0 s a hs g x he
 obtain ⟨m,E,H,val,kd,hE,hH,ht,_⟩:=h.trace (Nat.zero_le _)
 have c:=Chk.of h1 h2
 refine wp_region_any hm ?_
 obtain ⟨g',x'⟩:=g.grow (w':={ s.w with drawn:=s.w.drawn+1}) (Below.refl _ _).drew
 refine Q8w c ht (fun _ _ h=>h) (fun e' v σ' hd hx=>hx e' (by rw [hd,hE])) ops.size _ a _ ?_ ?_
 ·obtain ⟨q,n1,n2,n3,n4⟩:=V1 (fun j=>decide (kd j= .eff)) m (m - 0) 0 rfl (Nat.zero_le _)
  have hrep:∀ j:Nat,(Array.replicate ops.size false).getD j false=false:=fun j=>by
   simp only [Array.getD_eq_getD_getElem?,Array.getElem?_replicate]
   split<;>rfl
  refine ⟨by simp,(fun j o _ hl=>by rw [hrep] at hl;cases hl),(fun j hl=>by rw [hrep] at hl;cases hl),_,q,rfl,g',x.trans x',n2,(fun j h3 h4=>by have:=n3 j (Nat.zero_le _) h3;simp [h4] at this),(fun h3=>⟨by simpa using n4 h3,hrep q⟩),?_,he.size,(by rw [hE];exact he.defers.mono g x'),fun t=>?_⟩
  ·have e1:=ht.hconst q 0 (Nat.zero_le _) (Nat.zero_le _) n2 (fun j h5 h6=>by have:=n3 j h5 h6;simpa using this)
   rw [← e1,hH];exact hs
  ·have h3:lw ops (fun j=>(Array.replicate ops.size false).getD j false) t ops.size=none:=by
    rw [Q0I (i:=0) (Nat.zero_le _) fun j _ _ _=>hrep j];rfl
   unfold Fz
   rw [h3,hE]
   exact (he.tmps t).mono g x'
 ·have h3:=List.countP_le_length (l:=List.range ops.size) (p:=fun i=> !(Array.replicate ops.size false).getD i false)
  rwa [List.length_range] at h3
end sound
end Lg
namespace Lg
open Go Go.RowKit
variable [GLay]

section steps
variable {P:Program} {N:Nat} {e:Env} {σ:List AO} {Q:QA} {ops:Array Oper} {o:Oper}

def Zc:List (Nat×AV)→Nat→Option AV
 |[],_=>none
 |(k,v) :: r,t=>bif Nat.beq k t then some v else Zc r t
theorem QQ:∀ {l:List (Nat×AV)} {t:Nat} {v:AV},Zc l t=some v→Y7 l t=v
 |[],t,v,h=>by cases h
 |(k,u) :: r,t,v,h=>by
  simp only [Zc,Y7] at h ⊢
  cases hb:Nat.beq k t with
  |true=>rw [hb] at h;simpa using h
  |false=>rw [hb] at h;simpa using QQ h
def opO (e:Env):Operand→Option AV
 | .tmp t=>Zc e.l t
 | .const (.int k n)=>some (.int k n)
 | .const (.bool b)=>some (.bool b)
 | .const (.string s)=>some (.str s)
 | .const (.pointer none)=>some .nilp
 | .const (.slice none 0 0)=>some .nils
 | .const .nilIface=>some .nili
 | .const .nilFunc=>some .nilf
 | .const (.map none)=>some .nilm
 | .const (.agg cs)=>some (.agg (cs.toList.map Qx))
 | .func f=>some (.func (.func f) [] [])
 |_=>none
theorem Qp {e:Env} {x:Operand} {v:AV} (h:opO e x=some v):opv e x=v:=by
 unfold opO at h
 split at h
 ·exact QQ h
 all_goals first|(cases h;rfl)|cases h
section
variable {D:List (FuncId×List AV)} {l:List (Nat×AV)}
theorem st {rest:List Oper} {v:AV} {σ':List AO} {d:Nat} (hg:o.guard=none) (hd:o.dst=some d) (hN:Nat.blt d N=true) (h:AOp P σ ⟨D,l⟩ o v σ') (k:X9 P N ops rest ⟨D,(d,v) :: l⟩ σ' Q):X9 P N ops (o :: rest) ⟨D,l⟩ σ Q:=
 FE hg (fun t ht=>by rw [hd] at ht;cases ht;rwa [Nat.blt_eq] at hN) h (by rw [hd];exact k)
theorem stN {rest:List Oper} {v:AV} {σ':List AO} (hg:o.guard=none) (hd:o.dst=none) (h:AOp P σ e o v σ') (k:X9 P N ops rest e σ' Q):X9 P N ops (o :: rest) e σ Q:=
 FE hg (fun t ht=>by rw [hd] at ht;cases ht) h (by rw [hd];exact k)
theorem stR {rest:List Oper} {Nn X:AV→List AO→Prop} {d:Nat} (hg:o.guard=none) (hd:o.dst=some d) (hN:Nat.blt d N=true) (h:AOpR P σ ⟨D,l⟩ o Nn X)
  (k:∀ v σ',Nn v σ'→X9 P N ops rest ⟨D,(d,v) :: l⟩ σ' Q) (kx:∀ v σ',X v σ'→Q (.pan v) ⟨D,l⟩ σ'):X9 P N ops (o :: rest) ⟨D,l⟩ σ Q:=
 H5 hg (fun t ht=>by rw [hd] at ht;cases ht;rwa [Nat.blt_eq] at hN) h (fun v σ' hn=>by rw [hd];exact k v σ' hn) kx
theorem stG {rest:List Oper} {v:AV} {σ':List AO} {j d t:Nat} {want:Bool} (hg:o.guard=some (j,want)) (hj:(ops[j]?).bind (·.dst)=some d) (hdN:Nat.blt d N=true) (hb:Zc l d=some (.bool want)) (hd:o.dst=some t) (hN:Nat.blt t N=true)
  (h:AOp P σ ⟨D,l⟩ o v σ') (k:X9 P N ops rest ⟨D,(t,v) :: l⟩ σ' Q):X9 P N ops (o :: rest) ⟨D,l⟩ σ Q:=
 Q2L hg hj (by rwa [Nat.blt_eq] at hdN) (QQ hb) (fun t ht=>by rw [hd] at ht;cases ht;rwa [Nat.blt_eq] at hN) h (by rw [hd];exact k)
theorem stS {rest:List Oper} {j d t:Nat} {want:Bool} (hg:o.guard=some (j,want)) (hj:(ops[j]?).bind (·.dst)=some d) (hdN:Nat.blt d N=true) (hb:Zc l d=some (.bool (!want))∨Zc l d=some (.tup [])) (hd:o.dst=some t) (hN:Nat.blt t N=true)
  (k:X9 P N ops rest ⟨D,(t,.tup []) :: l⟩ σ Q):X9 P N ops (o :: rest) ⟨D,l⟩ σ Q:=
 Q2M hg hj (by rwa [Nat.blt_eq] at hdN) (hb.imp QQ QQ) (fun t ht=>by rw [hd] at ht;cases ht;rwa [Nat.blt_eq] at hN) (by rw [hd];exact k)
theorem JB {t:Bool} (hg:o.guard=none) (h:t=true):ZB ops N e o t:=by unfold ZB;rw [hg];exact h
theorem Gd {t:Bool} {j d:Nat} {want:Bool} (hg:o.guard=some (j,want)) (hj:(ops[j]?).bind (·.dst)=some d) (hdN:Nat.blt d N=true) (hb:Zc e.l d=some (.bool (if t=true then want else !want))):ZB ops N e o t:=by
 unfold ZB;rw [hg];exact ⟨d,hj,by rwa [Nat.blt_eq] at hdN,.inl (QQ hb)⟩
theorem Q1y {j d:Nat} {want:Bool} (hg:o.guard=some (j,want)) (hj:(ops[j]?).bind (·.dst)=some d) (hdN:Nat.blt d N=true) (hb:Zc e.l d=some (.bool (!want))∨Zc e.l d=some (.tup [])):ZB ops N e o false:=by
 unfold ZB;rw [hg];exact ⟨d,hj,by rwa [Nat.blt_eq] at hdN,hb.imp (fun h=>by rw [if_neg (by decide)];exact QQ h) fun h=>⟨rfl,QQ h⟩⟩
variable {tb:Array Nat} {QR:Env→List AO→Prop} {X:AV→List AO→Prop} {i:Nat} {past:List (Nat×List AO)} {held:List (Nat×(List AO→Prop))}
theorem rA {v:AV} {d:Nat} (ho:ops[i]? =some o) (hg:o.guard=none) (hd:o.dst=some d) (hN:Nat.blt d N=true) (h:∀ σ,AOp P σ ⟨D,l⟩ o v σ) (k:RP P N ops tb QR X (i+1) ⟨D,(d,v) :: l⟩ σ past held):RP P N ops tb QR X i ⟨D,l⟩ σ past held:=
 .all o v ho (JB hg rfl) (fun t ht=>by rw [hd] at ht;cases ht;rwa [Nat.blt_eq] at hN) h (by rw [hd];exact k)
theorem rAG {v:AV} {d j t:Nat} {want:Bool} (ho:ops[i]? =some o) (hg:o.guard=some (j,want)) (hj:(ops[j]?).bind (·.dst)=some t) (htN:Nat.blt t N=true) (hb:Zc l t=some (.bool want)) (hd:o.dst=some d) (hN:Nat.blt d N=true) (h:∀ σ,AOp P σ ⟨D,l⟩ o v σ) (k:RP P N ops tb QR X (i+1) ⟨D,(d,v) :: l⟩ σ past held):RP P N ops tb QR X i ⟨D,l⟩ σ past held:=
 .all o v ho (Gd hg hj htN (by simpa using hb)) (fun t ht=>by rw [hd] at ht;cases ht;rwa [Nat.blt_eq] at hN) h (by rw [hd];exact k)
theorem rP {v:AV} {d:Nat} (ho:ops[i]? =some o) (hg:o.guard=none) (hd:o.dst=some d) (hN:Nat.blt d N=true) (h:AOp P σ ⟨D,l⟩ o v σ) (hp:PastOK P tb i ⟨D,l⟩ o v past) (k:RP P N ops tb QR X (i+1) ⟨D,(d,v) :: l⟩ σ past ((i,fun σ'=>AOp P σ' ⟨D,l⟩ o v σ') :: held)):RP P N ops tb QR X i ⟨D,l⟩ σ past held:=
 .pure o v ho (JB hg rfl) (fun t ht=>by rw [hd] at ht;cases ht;rwa [Nat.blt_eq] at hN) h hp (by rw [hd];exact k)
theorem rPG {v:AV} {d j t:Nat} {want:Bool} (ho:ops[i]? =some o) (hg:o.guard=some (j,want)) (hj:(ops[j]?).bind (·.dst)=some t) (htN:Nat.blt t N=true) (hb:Zc l t=some (.bool want)) (hd:o.dst=some d) (hN:Nat.blt d N=true) (h:AOp P σ ⟨D,l⟩ o v σ) (hp:PastOK P tb i ⟨D,l⟩ o v past) (k:RP P N ops tb QR X (i+1) ⟨D,(d,v) :: l⟩ σ past ((i,fun σ'=>AOp P σ' ⟨D,l⟩ o v σ') :: held)):RP P N ops tb QR X i ⟨D,l⟩ σ past held:=
 .pure o v ho (Gd hg hj htN (by simpa using hb)) (fun t ht=>by rw [hd] at ht;cases ht;rwa [Nat.blt_eq] at hN) h hp (by rw [hd];exact k)
theorem rE {v:AV} {d:Nat} {σ':List AO} (ho:ops[i]? =some o) (hg:o.guard=none) (hd:o.dst=some d) (hN:Nat.blt d N=true) (h:AOp P σ ⟨D,l⟩ o v σ') (hh:HeldOK tb i σ' held) (hc:ChainOK tb i past) (k:RP P N ops tb QR X (i+1) ⟨D,(d,v) :: l⟩ σ' ((i,σ) :: past) held):RP P N ops tb QR X i ⟨D,l⟩ σ past held:=
 .eff o v σ' ho (JB hg rfl) (fun t ht=>by rw [hd] at ht;cases ht;rwa [Nat.blt_eq] at hN) h hh hc (by rw [hd];exact k)
theorem rEN {v:AV} {σ':List AO} (ho:ops[i]? =some o) (hg:o.guard=none) (hd:o.dst=none) (h:AOp P σ e o v σ') (hh:HeldOK tb i σ' held) (hc:ChainOK tb i past) (k:RP P N ops tb QR X (i+1) e σ' ((i,σ) :: past) held):RP P N ops tb QR X i e σ past held:=
 .eff o v σ' ho (JB hg rfl) (fun t ht=>by rw [hd] at ht;cases ht) h hh hc (by rw [hd];exact k)
theorem rS {d j t:Nat} {want:Bool} (ho:ops[i]? =some o) (hg:o.guard=some (j,want)) (hj:(ops[j]?).bind (·.dst)=some t) (htN:Nat.blt t N=true) (hb:Zc l t=some (.bool (!want))∨Zc l t=some (.tup [])) (hd:o.dst=some d) (hN:Nat.blt d N=true) (k:RP P N ops tb QR X (i+1) ⟨D,(d,.tup []) :: l⟩ σ past held):RP P N ops tb QR X i ⟨D,l⟩ σ past held:=
 .skip o ho (Q1y hg hj htN hb) (fun t ht=>by rw [hd] at ht;cases ht;rwa [Nat.blt_eq] at hN) (by rw [hd];exact k)
theorem Qb {id:Nat} {ol:List Oper} {QA':QA} (tb:Array Nat) (hm:P.follows .mixedOrders=true) (h1:QcM ol.toArray tb=true) (h2:Qd0 ol.toArray tb=true)
  (h:RP P N ol.toArray tb (fun e σ=>QA' .normal e σ) (fun v σ=>∀ e':Env,e'.D=e.D→QA' (.pan v) e' σ) 0 e σ [] []):AWp P N (.region id ol.toArray true) e σ QA':=Q6r hm h1 h2 h
end
theorem Fw {T:TypeId} {x:Operand} {f n fo:Nat} {fs:Array Field} {fd:Field} {v:AV} (ho:o.op= .fieldAddr T x f) (hu:P.underlying T=some (.struct fs)) (hf:fs[f]? =some fd)
  (hfo:fd.offset=fo) (hz:∀ w,(Go.sizeOf fd.type).run P w=Result.ok n w) (hn:n ≠ 0) (hx:offv fo (opv e x)=some v) (hfr:Hn σ (opv e x)):AOp P σ e o v σ:=
 Q0N ho hu hf hz hn (by rw [hfo];exact hx) hfr
theorem Q4 {id:Nat} {l:List Oper} (h:X9 P N l.toArray l e σ Q):AWp P N (.region id l.toArray false) e σ Q:=Q2P h
theorem Q7W {x:Operand} {v:AV} (ho:o.op= .move x) (hx:opO e x=some v):AOp P σ e o v σ:=Qac ho (Qp hx)
theorem Q3o {x:Operand} {v:AV} (ho:o.op= .assign x) (hx:opO e x=some v):AOp P σ e o v σ:=Q5Q ho (Qp hx)
theorem Q5W {c x y:Operand} {v:AV} (ho:o.op= .pick c x y) (hc:opv e c= .bool true) (hv:opO e x=some v):AOp P σ e o v σ:=Q4v ho hc (by simpa using Qp hv)
theorem Q5V {c x y:Operand} {v:AV} (ho:o.op= .pick c x y) (hc:opv e c= .bool false) (hv:opO e y=some v):AOp P σ e o v σ:=Q4v ho hc (by simpa using Qp hv)
def Q7d:AV→Bool
 | .str _=>true
 |_=>false
theorem ZZ {T E:TypeId} {x:Operand} {n:Int} {c:Array TypeId} (ho:o.op= .call { callee:=.builtin .len,args:= #[x],argTypes:=c}) (hc:c[0]? =some T) (hu:P.underlying T=some (.slice E))
  (hx:Q9R (opv e x)=some n) (hns:Q7d (opv e x)=false) (hfr:Hn σ (opv e x)):AOp P σ e o (.int .i64 n) σ:=
 Q7S ho hc hu hx (fun b h=>by rw [h] at hns;cases hns) hfr
section ints
variable {T T':TypeId} {x y:Operand} {k:IntKind} {a b:Int}
theorem Q0P (ho:o.op= .binOp .lss T x y T') (hx:opv e x= .int k a) (hy:opv e y= .int k b) (h:¬a < b):AOp P σ e o (.bool false) σ:=by
 have:=Q7V (P:=P) (σ:=σ) ho hx hy;rwa [decide_eq_false h] at this
theorem Qa9 (ho:o.op= .binOp .leq T x y T') (hx:opv e x= .int k a) (hy:opv e y= .int k b) (h:¬a≤b):AOp P σ e o (.bool false) σ:=by
 have:=Q7T (P:=P) (σ:=σ) ho hx hy;rwa [decide_eq_false h] at this
theorem XH (ho:o.op= .binOp .gtr T x y T') (hx:opv e x= .int k a) (hy:opv e y= .int k b) (h:¬b < a):AOp P σ e o (.bool false) σ:=by
 have:=Q7R (P:=P) (σ:=σ) ho hx hy;rwa [decide_eq_false h] at this
theorem JI (ho:o.op= .binOp .eql T x y T') (hx:opv e x= .int k a) (hy:opv e y= .int k b) (h:a=b):AOp P σ e o (.bool true) σ:=by
 have:=Q3r (P:=P) (σ:=σ) ho hx hy;rwa [decide_eq_true h] at this
theorem Xx (ho:o.op= .binOp .eql T x y T') (hx:opv e x= .int k a) (hy:opv e y= .int k b) (h:¬a=b):AOp P σ e o (.bool false) σ:=by
 have:=Q3r (P:=P) (σ:=σ) ho hx hy;rwa [decide_eq_false h] at this
theorem Q4u (ho:o.op= .binOp .neq T x y T') (hx:opv e x= .int k a) (hy:opv e y= .int k b) (h:¬a=b):AOp P σ e o (.bool true) σ:=by
 have:=Q3v (P:=P) (σ:=σ) ho hx hy;rwa [decide_eq_false h] at this
theorem Ja (ho:o.op= .binOp .neq T x y T') (hx:opv e x= .int k a) (hy:opv e y= .int k b) (h:a=b):AOp P σ e o (.bool false) σ:=by
 have:=Q3v (P:=P) (σ:=σ) ho hx hy;rwa [decide_eq_true h] at this
end ints
section strs
variable {T T':TypeId} {x y:Operand} {a b:ByteArray}
theorem Q29 (ho:o.op= .binOp .neq T x y T') (hx:opv e x= .str a) (hy:opv e y= .str b) (h:a=b):AOp P σ e o (.bool false) σ:=by
 have:=Q4w (P:=P) (σ:=σ) ho hx hy;rwa [decide_eq_true h] at this
end strs

theorem Zz {σ l:List AO} (k:Nat):(σ++l)[σ.length+k]? =l[k]? :=by
 rw [List.getElem?_append_right (by omega)];congr 1;omega
theorem QD {σ l:List AO} {p:Nat} {x:AO} (h:σ[p]? =some x):(σ++l)[p]? =some x:=by
 rw [List.getElem?_append_left (List.getElem?_eq_some_iff.1 h).1];exact h
theorem KI {σ l:List AO} (k:Nat) (x:AO):(σ++l).set (σ.length+k) x=σ++l.set k x:=by
 rw [List.set_append_right _ _ (by omega)];congr 2;omega
theorem GM {σ l:List AO} {k off n:Nat} {cs r:List AV} (h:l[k]? =some (.box cs)) (hr:tk n (cs.drop off)=some r):ldv (σ++l) n (.ptr (σ.length+k) off)=some r:=by
 simp only [ldv,Zz,h,hr]
theorem Q9P {σ l:List AO} {p off n:Nat} {cs r:List AV} (h:σ[p]? =some (.box cs)) (hr:tk n (cs.drop off)=some r):ldv (σ++l) n (.ptr p off)=some r:=by
 simp only [ldv,QD h,hr]
theorem Q0G {σ:List AO} {p off n:Nat} {cs r:List AV} (h:σ[p]? =some (.box cs)) (hr:tk n (cs.drop off)=some r):ldv σ n (.ptr p off)=some r:=by
 simp only [ldv,h,hr]
theorem Qcl {σ:List AO} {n:Nat} {cs r:List AV} (hr:tk n cs=some r):ldv σ n (.pp cs)=some r:=hr
theorem QaE {σ l:List AO} {k off:Nat} {cs ns r:List AV} (h:l[k]? =some (.box cs)) (hr:spl off cs ns=some r):stv (σ++l) ns (.ptr (σ.length+k) off)=some (σ.length+k,.box r):=by
 simp only [stv,Zz,h,hr,Option.map_some]
theorem QaF {σ:List AO} {p off:Nat} {cs ns r:List AV} (h:σ[p]? =some (.box cs)) (hr:spl off cs ns=some r):stv σ ns (.ptr p off)=some (p,.box r):=by
 simp only [stv,h,hr,Option.map_some]

theorem Qa4 {T:TypeId} {x:Operand} {cs:List AV} (ho:o.op= .box T x) (hx:(opv e x).cells=cs) (h1:Zf cs=true):AOp P σ e o (.ptr (σ.length+0) 0) (σ++[.box cs]):=Q0L ho hx h1
theorem Qa5 {σ l:List AO} {T:TypeId} {x:Operand} {cs:List AV} (n:Nat) (hn:l.length=n) (ho:o.op= .box T x) (hx:(opv e x).cells=cs) (h1:Zf cs=true):AOp P (σ++l) e o (.ptr (σ.length+n) 0) (σ++(l++[.box cs])):=by
 have:=Q0L (P:=P) (σ:=σ++l) ho hx h1
 rwa [List.length_append,hn,List.append_assoc] at this
theorem Q5N {T:TypeId} {z:Value} {cs:List AV} (ho:o.op= .alloc T) (hz:∀ w,(zeroValue T).run P w=Result.ok z w) (hx:z.cells.toList.map Qx=cs):AOp P σ e o (.ptr (σ.length+0) 0) (σ++[.box cs]):=WJ ho hz hx
theorem Q5O {σ l:List AO} {T:TypeId} {z:Value} {cs:List AV} (n:Nat) (hn:l.length=n) (ho:o.op= .alloc T) (hz:∀ w,(zeroValue T).run P w=Result.ok z w) (hx:z.cells.toList.map Qx=cs):AOp P (σ++l) e o (.ptr (σ.length+n) 0) (σ++(l++[.box cs])):=by
 have:=WJ (P:=P) (σ:=σ++l) (e:=e) ho hz hx
 rwa [List.length_append,hn,List.append_assoc] at this
theorem QX {σ l:List AO} {T:TypeId} {x y:Operand} {n k off:Nat} {cs r:List AV} (ho:o.op= .store T x y) (hz:∀ w,(Go.sizeOf T).run P w=Result.ok n w) (hn:(opv e y).cells.length=n)
  (h1:Zf (opv e y).cells=true) (hx:opv e x= .ptr (σ.length+k) off) (hl:l[k]? =some (.box cs)) (hr:spl off cs (opv e y).cells=some r) (hn0:n ≠ 0):AOp P (σ++l) e o .any (σ++l.set k (.box r)):=by
 have:=WM (P:=P) (σ:=σ++l) ho hz hn h1 (by rw [hx];exact QaE hl hr) hn0
 rwa [KI] at this
theorem Zo {T:TypeId} {x y:Operand} {n p off:Nat} {cs r:List AV} (ho:o.op= .store T x y) (hz:∀ w,(Go.sizeOf T).run P w=Result.ok n w) (hn:(opv e y).cells.length=n)
  (h1:Zf (opv e y).cells=true) (hx:opv e x= .ptr p off) (hl:σ[p]? =some (.box cs)) (hr:spl off cs (opv e y).cells=some r) (hn0:n ≠ 0):AOp P σ e o .any (σ.set p (.box r)):=
 WM (P:=P) ho hz hn h1 (by rw [hx];exact QaF hl hr) hn0
end steps
end Lg
namespace Lg
open Go Go.RowKit
variable [GLay]

section ghost
variable {P:Program} {N:Nat} {e:Env} {σ:List AO} {Q:QA} {ops:Array Oper} {o:Oper}

def ownLt (n:Nat):List AO→Prop
 |[]=>True
 |o :: r=>AV.ltL n o.cells∧ownLt n r
theorem ownLt.get {n:Nat}:∀ {l:List AO},ownLt n l→∀ (p:Nat) (o:AO),l[p]? =some o→AV.ltL n o.cells
 |[],_,p,o,h=>by simp at h
 |a :: r,⟨h1,h2⟩,p,o,h=>by
  cases p with
  |zero=>simp at h;subst h;exact h1
  |succ p=>simp at h;exact ownLt.get h2 p o h
theorem Qh {l:List AO} (k:Nat) (h:closed σ.length σ) (hl:ownLt (σ.length+k) (l.take k)):closed (σ.length+k) (σ++l):=fun p o hp ho=>by
 rcases Nat.lt_or_ge p σ.length with h1|h1
 ·rw [List.getElem?_append_left h1] at ho
  exact AV.ltL_mono (by omega) _ (h p o h1 ho)
 ·rw [List.getElem?_append_right h1] at ho
  exact hl.get (p - σ.length) o (by rw [List.getElem?_take,if_pos (by omega)];exact ho)
theorem Zw {l:List AO} (h:closed σ.length σ):closed σ.length (σ++l):=Qh 0 h (by simp [ownLt])
theorem Xb {p n:Nat} {x:AO} (h:closed n σ) (hx:AV.ltL n x.cells):closed n (σ.set p x):=fun q o hq ho=>by
 rw [List.getElem?_set] at ho
 split at ho
 ·split at ho
  ·cases ho;exact hx
  ·cases ho
 ·exact h q o hq ho
theorem Qo {l:List AO} (k:Nat):(σ++l).take (σ.length+k)=σ++l.take k:=by
 rw [List.take_append,List.take_of_length_le (by omega)];congr 2;omega
theorem U2 {l:List AO}:(σ++l).take σ.length=σ:=by simp

theorem Ka {a:Act} {t:Nat} (hlt:t < a.tmps.size):a.put (some t) (a.eval (.tmp t))=a:=by
 cases a with
 |mk tmps defers=>
  have h2:tmps.setIfInBounds t (tmps.getD t undef)=tmps:=by
   apply Array.ext
   ·simp
   ·intro i h1 h2
    rw [Array.getElem_setIfInBounds]
    split
    ·rename_i e;subst e;simp [Array.getD_eq_getD_getElem?,h2]
    ·rfl
  simp only [Act.put,Act.eval,h2]
theorem Gi {s:CS} (g:Good s) {p off:Nat} {cs:List AV} {c:Value} (hσ:s.σ[p]? =some (.box cs)) (hv:V s (.ptr p off) c):
  ∃ s',s'.σ=s.σ.set p .gone∧s'.w=s.w∧Good s'∧Ext s s'∧V s' (.pp (cs.drop off)) c:=by
 have hlive:s.live p:=by unfold CS.live;rw [hσ];trivial
 obtain ⟨_,vs,T,hb,hp⟩:=g.rep hσ hlive
 have hp:PW s cs vs:=hp
 obtain ⟨s',e1,e2,g',x',hok,hμ⟩:=g.freeze hσ hlive (o':=.gone) (.inl ⟨rfl,rfl⟩)
 refine ⟨s',e1,e2,g',x',?_⟩
 rw [hv.inv_ptr]
 have hp':=(hp.drop off).mono g x'
 refine .pp _ _ off (vs.drop off) hok hp'.1 (fun i v hi=>?_) hp'.2
 rw [List.getElem?_drop] at hi
 rw [e2,YD hb];exact hi
theorem Q2O {c:Code} (t p off:Nat) {cs:List AV} (hl:Zc e.l t=some (.ptr p off)) (hσ:σ[p]? =some (.box cs)) (k:AWp P N c (e.put (some t) (.pp (cs.drop off))) (σ.set p .gone) Q) (ht:t < N):AWp P N c e σ Q:=fun s0 s a hs g x he=>by
 subst hs
 have hv:=he.tmps t
 rw [show e.look t= .ptr p off from QQ hl] at hv
 obtain ⟨s',e1,e2,g',x',hv'⟩:=Gi g hσ hv
 have:=k s0 s' a e1 g' (x.trans x') (by
  have h1:=(he.mono g x').put (some t) hv' (fun d hd=>by cases hd;exact ht)
  have h2:a.put (some t) (a.eval (.tmp t))=a:=Ka (by rw [he.size];exact ht)
  rwa [h2] at h1)
 rwa [e2] at this

theorem Gh {s:CS} (g:Good s) {p gg sz off len:Nat} {cs:List AV} {c:Value} (hσ:s.σ[p]? =some (.arr sz gg cs)) (hv:V s (.arr p gg sz off len) c) (es:List (List AV)) (hes:es.flatten=(cs.drop (off * sz)).take (len * sz))
  (hel:∀ r∈es,r.length=sz) (hlen:es.length=len) (hsz:sz ≠ 0) (hfit:(off+len) * sz≤cs.length):
  ∃ s',s'.σ=s.σ.set p .dead∧s'.w=s.w∧Good s'∧Ext s s'∧V s' (.sl false sz es) c:=by
 have hnil:∀ {s':CS} {ad:Option Addr},len=0→V s' (.sl false sz es) (.slice ad 0 0):=fun {s' ad} h0=>by
  have he0:es=[]:=List.eq_nil_of_length_eq_zero (by omega)
  subst he0
  exact .sl0 false sz ad
 obtain ⟨_,⟨ad,rfl,h0⟩|⟨cap,rfl,h4,h5⟩⟩:=hv.inv_arr hσ
 ·by_cases hlive:s.live p
  ·obtain ⟨s',e1,e2,g',x',hok,hμ⟩:=g.freeze hσ hlive (o':=.dead) (.inr ⟨rfl,rfl⟩)
   exact ⟨s',e1,e2,g',x',hnil h0⟩
  ·obtain ⟨s',e1,e2,g',x'⟩:=g.kill hσ hlive
   exact ⟨s',e1,e2,g',x',hnil h0⟩
 ·by_cases hlive:s.live p
  ·obtain ⟨_,vs,T,hb,ht0,h7,h8,hpv⟩:=g.rep hσ hlive
   obtain ⟨s',e1,e2,g',x',hok,hμ⟩:=g.freeze hσ hlive (o':=.dead) (.inr ⟨rfl,rfl⟩)
   refine ⟨s',e1,e2,g',x',?_⟩
   have hpw:=((hpv.drop (off * sz)).take (len * sz)).mono g x'
   rw [← hes] at hpw
   subst hlen
   refine .sl false sz es _ _ cap _ (.inr hok) hel hpw.1 (fun i v hi=>?_) hpw.2 h4 (by simp)
   rw [List.getElem?_take] at hi
   split at hi
   ·rw [List.getElem?_drop,List.getElem?_take] at hi
    split at hi
    ·rw [List.getElem?_drop] at hi
     rw [e2,YD hb,Nat.add_assoc];exact hi
    ·cases hi
   ·cases hi
  ·have ht:(s.μ p).tot=0:=by
    unfold CS.live at hlive;rw [hσ] at hlive
    exact Decidable.not_not.1 hlive
   have hcap:cap=0:=by
    have h6:(off+cap) * sz=0:=by omega
    rcases Nat.mul_eq_zero.1 h6 with h|h
    ·omega
    ·exact absurd h hsz
   have hl0:len=0:=by omega
   obtain ⟨s',e1,e2,g',x'⟩:=g.kill hσ hlive
   subst hl0;subst hcap
   exact ⟨s',e1,e2,g',x',hnil rfl⟩
theorem VL {c:Code} (t p gg sz off len:Nat) {cs:List AV} (hl:Zc e.l t=some (.arr p gg sz off len)) (hσ:σ[p]? =some (.arr sz gg cs)) (es:List (List AV)) (hes:es.flatten=(cs.drop (off * sz)).take (len * sz))
  (hel:∀ r∈es,r.length=sz) (hlen:es.length=len) (hsz:sz ≠ 0) (hfit:(off+len) * sz≤cs.length) (k:AWp P N c (e.put (some t) (.sl false sz es)) (σ.set p .dead) Q) (ht:t < N):AWp P N c e σ Q:=fun s0 s a hs g x he=>by
 subst hs
 have hv:=he.tmps t
 rw [show e.look t= .arr p gg sz off len from QQ hl] at hv
 obtain ⟨s',e1,e2,g',x',hv'⟩:=Gh g hσ hv es hes hel hlen hsz hfit
 have:=k s0 s' a e1 g' (x.trans x') (by
  have h1:=(he.mono g x').put (some t) hv' (fun d hd=>by cases hd;exact ht)
  rwa [Ka (by rw [he.size];exact ht)] at h1)
 rwa [e2] at this
theorem Wi {c:Code} (q i p gg sz off len:Nat) {bs cs:List AV} (hq:σ[q]? =some (.box bs)) (hi:bs[i]? =some (.arr p gg sz off len)) (hσ:σ[p]? =some (.arr sz gg cs)) (es:List (List AV)) (hes:es.flatten=(cs.drop (off * sz)).take (len * sz))
  (hel:∀ r∈es,r.length=sz) (hlen:es.length=len) (hsz:sz ≠ 0) (hfit:(off+len) * sz≤cs.length) (k:AWp P N c e ((σ.set p .dead).set q (.box (bs.set i (.sl false sz es)))) Q):AWp P N c e σ Q:=fun s0 s a hs g x he=>by
 subst hs
 have hqp:q ≠ p:=fun e=>by subst e;rw [hq] at hσ;cases hσ
 have hliveq:s.live q:=by unfold CS.live;rw [hq];trivial
 obtain ⟨_,vs,T,hb,hp⟩:=g.rep hq hliveq
 have hp:PW s bs vs:=hp
 obtain ⟨v,hv1,hv2⟩:=hp.get hi
 obtain ⟨s1,e1,e2,g1,x1,hv'⟩:=Gh g hσ hv2 es hes hel hlen hsz hfit
 have hq1:s1.σ[q]? =some (.box bs):=by rw [e1,List.getElem?_set,if_neg (fun e=>hqp e.symm)];exact hq
 have hμ1:s1.μ q=s.μ q:=by
  obtain ⟨o',h1,_,h3⟩:=x1.objs q _ hq
  exact h3 trivial
 have hlive1:s1.live q:=by unfold CS.live;rw [hq1];trivial
 have hset:vs.set i v=vs:=by
  obtain ⟨h1,h2⟩:=List.getElem?_eq_some_iff.1 hv1
  rw [← h2];exact List.set_getElem_self h1
 have hnew:PW s1 (bs.set i (.sl false sz es)) vs:=by
  have:=(hp.mono g x1).set i hv'
  rwa [hset] at this
 obtain ⟨s2,f1,f2,g2,x2,_⟩:=g1.setObj hq1 hlive1 (o':=.box (bs.set i (.sl false sz es))) (.box _ _ (by simp)) trivial hnew
 have hw:s2.w=s.w:=by
  rw [f2,e2,hμ1,setRow_self _ _ _ _ _ hb]
 have:=k s0 s2 a (by rw [f1,e1]) g2 ((x.trans x1).trans x2) ((he.mono g x1).mono g1 x2)
 rwa [hw] at this
end ghost
end Lg
namespace Lg
open Go Go.RowKit
variable [GLay]

variable {P:Program} {N:Nat} {σ:List AO} {e:Env} {Q:QA} {ops:Array Oper} {o:Oper}

section split
variable {D:List (FuncId×List AV)} {l:List (Nat×AV)} {b:Bool}
theorem H9 {G:Prop} (b:Bool) (kt:b=true→G) (kf:b=false→G):G:=by
 cases b
 ·exact kf rfl
 ·exact kt rfl
theorem Q2N {rest:List Oper} (d:Nat) (hb:Zc l d=some (.bool b)) (kt:b=true→X9 P N ops rest ⟨D,l⟩ σ Q) (kf:b=false→X9 P N ops rest ⟨D,l⟩ σ Q):X9 P N ops rest ⟨D,l⟩ σ Q:=H9 b kt kf
theorem Q6v {tb:Array Nat} {QR:Env→List AO→Prop} {X:AV→List AO→Prop} {i:Nat} {past:List (Nat×List AO)} {held:List (Nat×(List AO→Prop))} (d:Nat) (hb:Zc l d=some (.bool b))
  (kt:b=true→RP P N ops tb QR X i ⟨D,l⟩ σ past held) (kf:b=false→RP P N ops tb QR X i ⟨D,l⟩ σ past held):RP P N ops tb QR X i ⟨D,l⟩ σ past held:=H9 b kt kf
theorem Qj {x:Operand} {c d:Code} (hb:opO e x=some (.bool true)) (h:AWp P N c e σ Q):AWp P N (.cond x c d) e σ Q:=Q2 (Qp hb) (fun _=>h) (fun h=>by cases h)
theorem Qd {x:Operand} {c d:Code} (hb:opO e x=some (.bool false)) (h:AWp P N d e σ Q):AWp P N (.cond x c d) e σ Q:=Q2 (Qp hb) (fun h=>by cases h) (fun _=>h)
end split

theorem QE {ι:Type} {c d:Code} (I:ι→Prop) (E:ι→Env) (S:ι→List AO) (hc:AWp P N c e σ fun ex e' σ'=>match ex with
   | .normal=>∃ i,I i∧Sub e' (E i)∧σ'=S i
   |ex=>Q ex e' σ') (hd:∀ i,I i→AWp P N d (E i) (S i) Q):AWp P N (.seq c d) e σ Q:=
 Q0 (hc.mono fun ex e' σ' h=>by
  cases ex with
  |normal=>obtain ⟨i,h1,h2,h3⟩:=h;subst h3;exact Q9g _ h2 (hd i h1)
  |exit id=>exact h
  |ret=>exact h
  |pan v=>exact h)
theorem Ui {ι:Type} {id:Nat} {c d:Code} (I:ι→Prop) (E:ι→Env) (S:ι→List AO) (hc:AWp P N c e σ (J1 id fun ex e' σ'=>match ex with
   | .normal=>∃ i,I i∧Sub e' (E i)∧σ'=S i
   |ex=>Q ex e' σ')) (hd:∀ i,I i→AWp P N d (E i) (S i) Q):AWp P N (.seq (.block id c) d) e σ Q:=
 QE I E S (Qa hc) hd

def AVle (a b:AV):Prop:=∀ (s:CS) (v:Value),V s a v→V s b v
theorem AVle.refl (a:AV):AVle a a:=fun _ _ h=>h
theorem AVle.trans {a b c:AV} (h:AVle a b) (k:AVle b c):AVle a c:=fun s v x=>k s v (h s v x)
theorem AVle.nils (f:Bool) (sz:Nat):AVle .nils (.sl f sz []):=fun s v h=>by rw [h.inv_nils];exact .sl0 f sz none
theorem AVle.any (a:AV):AVle a .any:=fun _ v _=>.any v
theorem AVle.full (sz:Nat) (es:List (List AV)):AVle (.sl true sz es) (.sl false sz es):=fun s v h=>by
 cases h with
 |sl _ _ _ b off cap vs hok hsz hl hc hv hcap hf=>exact .sl false sz es b off cap vs hok hsz hl hc hv hcap (by simp)
 |sl0 _ _ ad=>exact .sl0 false sz ad
def AVleL:List AV→List AV→Prop
 |[],[]=>True
 |a :: l,b :: r=>AVle a b∧AVleL l r
 |_,_=>False
theorem AVleL.refl:∀ l:List AV,AVleL l l
 |[]=>trivial
 |a :: l=>⟨AVle.refl a,AVleL.refl l⟩
theorem AVleL.len:∀ {l r:List AV},AVleL l r→l.length=r.length
 |[],[],_=>rfl
 |_ :: _,_ :: _,h=>by simp [h.2.len]
 |[],_ :: _,h=>h.elim
 |_ :: _,[],h=>h.elim
theorem AVleL.get:∀ {l r:List AV},AVleL l r→∀ {i:Nat} {a b:AV},l[i]? =some a→r[i]? =some b→AVle a b
 |[],[],_,i,a,b,h,_=>by simp at h
 |x :: l,y :: r,hh,i,a,b,h,k=>by
  cases i with
  |zero=>simp at h k;subst h;subst k;exact hh.1
  |succ i=>simp at h k;exact hh.2.get h k
 |[],_ :: _,h,_,_,_,_,_=>h.elim
 |_ :: _,[],h,_,_,_,_,_=>h.elim
theorem AVleL.pw {l r:List AV} (h:AVleL l r) {s:CS} {vs:List Value} (k:PW s l vs):PW s r vs:=
 ⟨k.1.trans h.len,fun i c v h1 h2=>by
  have hi:i < l.length:=by rw [h.len];exact (List.getElem?_eq_some_iff.1 h1).1
  exact h.get (List.getElem?_eq_getElem hi) h1 s v (k.2 i _ v (List.getElem?_eq_getElem hi) h2)⟩
theorem AVle.agg {l r:List AV} (h:AVleL l r):AVle (.agg l) (.agg r):=fun s v x=>by
 obtain ⟨vs,rfl,hp⟩:=x.inv_agg
 have:=h.pw hp
 exact .agg _ vs this.1 this.2
theorem AVle.tup {l r:List AV} (h:AVleL l r):AVle (.tup l) (.tup r):=fun s v x=>by
 obtain ⟨vs,rfl,hp⟩:=x.inv_tup
 have:=h.pw hp
 exact .tup _ vs this.1 this.2
theorem AVle.sl {f:Bool} {sz:Nat} {es es':List (List AV)} (h:AVleL es.flatten es'.flatten) (hl:es.length=es'.length) (hs:∀ r∈es',r.length=sz):AVle (.sl f sz es) (.sl f sz es'):=fun s v x=>by
 cases x with
 |sl _ _ _ b off cap vs hok hsz hl' hc hv hcap hf=>
  have hp:=h.pw (vs:=vs) (s:=s) ⟨hl',hv⟩
  rw [hl]
  refine .sl f sz es' b off cap vs ?_ hs hp.1 hc hp.2 (by omega) (fun h=>by rw [hf h,hl])
  rcases hok with rfl|hok
  ·left;cases es' with
   |nil=>rfl
   |cons=>simp at hl
  ·exact .inr hok
 |sl0 _ _ ad=>
  cases es' with
  |nil=>exact .sl0 f sz ad
  |cons=>simp at hl
theorem ACalls.conv {f:FuncId} {args args':List AV} {R:Out→List AO→Prop} (h:AVleL args args') (k:ACalls P f args' σ R):ACalls P f args σ R:=fun s cargs hs g hp=>k s cargs hs g (h.pw hp)
def Q3h:AV→Bool
 | .ptr _ _| .pp _=>true
 |_=>false
theorem Q28 {x:Operand} {v:AV} (ho:o.op= .nilCheck x) (hx:opO e x=some v) (hn:Q3h v=true):AOp P σ e o v σ:=
 .of_run fun s a hs _ hv=>by
  have h1:=(Qp hx) ▸ hv x (by simp [ho,Op.operands])
  refine ⟨a.eval x,?_,h1⟩
  cases v with
  |ptr p off=>have h2:=h1.inv_ptr;simp [execOp,ho,h2]
  |pp cs=>obtain ⟨b,off,vs,h2,_⟩:=h1.inv_pp;simp [execOp,ho,h2]
  |_=>cases hn
theorem Q3p {S T:TypeId} {x:Operand} {k k':IntKind} {n:Int} (ho:o.op= .convert S T x) (hs:(P.underlying S).isSome=true) (hd:P.underlying T=some (.int k')) (hx:opv e x= .int k n):AOp P σ e o (.int k' (k'.wrap n)) σ:=
 .of_run fun s a _ _ hv=>by
  have h1:=(hx ▸ hv x (by simp [ho,Op.operands])).inv_int
  obtain ⟨d,hd'⟩:=Option.isSome_iff_exists.mp hs
  exact ⟨_,by simp [execOp,ho,h1,convert,run_underlying hd',run_underlying hd,Conv.intToInt],.int _ _⟩
theorem UH {S T:TypeId} {x:Operand} {k k':IntKind} {n:Int} (ho:o.op= .convert S T x) (hs:(P.underlying S).isSome=true) (hd:P.underlying T=some (.int k')) (hx:opv e x= .int k n) (hn:k'.wrap n=n):AOp P σ e o (.int k' n) σ:=by
 have:=Q3p (P:=P) (σ:=σ) ho hs hd hx;rwa [hn] at this
theorem Q3q {S T:TypeId} {x:Operand} {a:ByteArray} (ho:o.op= .convert S T x) (hs:P.underlying S=some .string) (hd:P.underlying T=some .string) (hx:opv e x= .str a):AOp P σ e o (.str a) σ:=
 .of_run fun s ac _ _ hv=>by
  have h1:=(hx ▸ hv x (by simp [ho,Op.operands])).inv_str
  exact ⟨_,by simp [execOp,ho,h1,convert,run_underlying hs,run_underlying hd],.str _⟩
theorem Qaa {T:Array TypeId} {x y:Operand} {k:IntKind} {a b:Int} (ho:o.op= .call { callee:=.builtin .max,args:= #[x,y],argTypes:=T}) (hx:opv e x= .int k a) (hy:opv e y= .int k b):AOp P σ e o (.int k (max a b)) σ:=
 .of_run fun s ac _ _ hv=>by
  have h1:=(hx ▸ hv x (by simp [ho,Op.operands,Call.operands])).inv_int
  have h2:=(hy ▸ hv y (by simp [ho,Op.operands,Call.operands])).inv_int
  refine ⟨.int k (if b > a then b else a),by simp [execOp,ho,resolve,invoke,builtin,h1,h2,Builtin.max_,Builtin.max2],?_⟩
  have:max a b=if b > a then b else a:=by
   split<;>omega
  rw [this];exact .int _ _
theorem Qab {T:Array TypeId} {x y:Operand} {k:IntKind} {a b:Int} (ho:o.op= .call { callee:=.builtin .min,args:= #[x,y],argTypes:=T}) (hx:opv e x= .int k a) (hy:opv e y= .int k b):AOp P σ e o (.int k (min a b)) σ:=
 .of_run fun s ac _ _ hv=>by
  have h1:=(hx ▸ hv x (by simp [ho,Op.operands,Call.operands])).inv_int
  have h2:=(hy ▸ hv y (by simp [ho,Op.operands,Call.operands])).inv_int
  refine ⟨.int k (if b < a then b else a),by simp [execOp,ho,resolve,invoke,builtin,h1,h2,Builtin.min_,Builtin.min2],?_⟩
  have:min a b=if b < a then b else a:=by
   split<;>omega
  rw [this];exact .int _ _
theorem K7 {T T':TypeId} {x y:Operand} {a b:Int} (ho:o.op= .binOp .quo T x y T') (hx:opv e x= .int .i64 a) (hy:opv e y= .int .i64 b) (h1:0≤a) (h2:0 < b) (h3:a≤9223372036854775807):AOp P σ e o (.int .i64 (a / b)) σ:=by
 have hw:IntKind.i64.wrap (a.tdiv b)=a / b:=by
  rw [Int.tdiv_eq_ediv_of_nonneg h1]
  have:=Int.ediv_nonneg h1 (Int.le_of_lt h2)
  have:=Int.ediv_le_self b h1
  exact Yp (by omega) (by omega)
 exact Js ho hx hy (cv:=.int .i64 (a / b)) (fun w=>by
  have:¬b=0:=by omega
  simp [binOp,Op.intDiv,this,hw]) (fun _=>.int _ _)
theorem K8 {T T':TypeId} {x y:Operand} {k:IntKind} {a b:Int} (ho:o.op= .binOp .rem T x y T') (hx:opv e x= .int k a) (hy:opv e y= .int k b) (h1:0≤a) (h2:0 < b):AOp P σ e o (.int k (a % b)) σ:=by
 have hw:a.tmod b=a % b:=Int.tmod_eq_emod_of_nonneg h1
 exact Js ho hx hy (cv:=.int k (a % b)) (fun w=>by
  have:¬b=0:=by omega
  simp [binOp,Op.intDiv,this,hw]) (fun _=>.int _ _)
inductive FEq (P:Program):Nat→List Field→List AV→List AV→Bool→Prop
 |nil (k):FEq P k [] [] [] true
 |str (k f fs a b cs ds r) (hn:f.name ≠ "_") (ho:f.offset=k) (hu:P.underlying f.type=some .string) (h:FEq P (k+1) fs cs ds r):FEq P k (f :: fs) (.str a :: cs) (.str b :: ds) (decide (a=b) && r)
 |int (k f fs K K' a b cs ds r) (hn:f.name ≠ "_") (ho:f.offset=k) (hu:P.underlying f.type=some (.int K')) (h:FEq P (k+1) fs cs ds r):FEq P k (f :: fs) (.int K a :: cs) (.int K b :: ds) (decide (a=b) && r)
 |bool (k f fs) (a b:Bool) (cs ds r) (hn:f.name ≠ "_") (ho:f.offset=k) (hu:P.underlying f.type=some .bool) (h:FEq P (k+1) fs cs ds r):FEq P k (f :: fs) (.bool a :: cs) (.bool b :: ds) (decide (a=b) && r)
theorem FEq.run {k:Nat} {fs:List Field} {cs ds:List AV} {r:Bool} (h:FEq P k fs cs ds r) (d:Nat) (s:CS) (pc pd:List AV) (xs ys:List Value) (hc:PW s (pc++cs) xs) (hd:PW s (pd++ds) ys) (lc:pc.length=k) (ld:pd.length=k):
  (Op.eqFields (d+1) xs.toArray ys.toArray fs).run P s.w= .ok r s.w:=by
 have hpart:∀ {t:TypeId} {off:Nat} {l:List Value} {v:Value} {dd:TypeDesc},P.underlying t=some dd→(match dd with| .string| .int _| .bool=>True|_=>False)→l[off]? =some v→(part t l.toArray off).run P s.w= .ok v s.w:=fun {t off l v dd} hu hdd hl=>by
  have hl':l.toArray[off]? =some v:=by simpa using hl
  cases dd<;>first|exact hdd.elim|simp [part,isAgg,run_underlying hu,hl']
 have hcell:∀ {p:List AV} {c:AV} {q:List AV} {l:List Value},PW s (p++c :: q) l→∃ v,l[p.length]? =some v∧V s c v:=fun {p c q l} hp=>by
  obtain ⟨v,h1,h2⟩:=hp.get (i:=p.length) (c:=c) (by simp)
  exact ⟨v,h1,h2⟩
 induction h generalizing pc pd with
 |nil k=>simp [Op.eqFields]
 |str k f fs a b cs ds r hn ho hu h ih=>
  obtain ⟨v,h1,h2⟩:=hcell hc
  obtain ⟨u,h3,h4⟩:=hcell hd
  rw [lc] at h1;rw [ld] at h3
  have ih':=ih (pc++[.str a]) (pd++[.str b]) (by simpa using hc) (by simpa using hd) (by simp [lc]) (by simp [ld])
  have e1:=h2.inv_str;have e2:=h4.inv_str
  subst e1;subst e2
  simp only [Op.eqFields,hn,ne_eq,not_false_eq_true,if_true,Sem.run_bind,ho,hpart hu trivial h1,hpart hu trivial h3,Result.andThen_ok,run_equalIn_string s.w d f.type a b hu]
  have hab:(a.toList == b.toList)=decide (a=b):=VZ a b
  rw [hab]
  by_cases hab':a=b
  ·simp [hab',ih']
  ·simp [hab']
 |int k f fs K K' a b cs ds r hn ho hu h ih=>
  obtain ⟨v,h1,h2⟩:=hcell hc
  obtain ⟨u,h3,h4⟩:=hcell hd
  rw [lc] at h1;rw [ld] at h3
  have ih':=ih (pc++[.int K a]) (pd++[.int K b]) (by simpa using hc) (by simpa using hd) (by simp [lc]) (by simp [ld])
  have e1:=h2.inv_int;have e2:=h4.inv_int
  subst e1;subst e2
  simp only [Op.eqFields,hn,ne_eq,not_false_eq_true,if_true,Sem.run_bind,ho,hpart hu trivial h1,hpart hu trivial h3,Result.andThen_ok,run_equalIn_int s.w d f.type K K' a b hu]
  by_cases hab':a=b
  ·simp [hab',ih']
  ·simp [hab']
 |bool k f fs a b cs ds r hn ho hu h ih=>
  obtain ⟨v,h1,h2⟩:=hcell hc
  obtain ⟨u,h3,h4⟩:=hcell hd
  rw [lc] at h1;rw [ld] at h3
  have ih':=ih (pc++[.bool a]) (pd++[.bool b]) (by simpa using hc) (by simpa using hd) (by simp [lc]) (by simp [ld])
  have e1:=h2.inv_bool;have e2:=h4.inv_bool
  subst e1;subst e2
  simp only [Op.eqFields,hn,ne_eq,not_false_eq_true,if_true,Sem.run_bind,ho,hpart hu trivial h1,hpart hu trivial h3,Result.andThen_ok,run_equalIn_bool s.w d f.type a b hu]
  by_cases hab':a=b
  ·simp [hab',ih']
  ·simp [hab']
theorem Qcw {T T':TypeId} {x y:Operand} {fs:Array Field} {cs ds:List AV} {r:Bool} (ho:o.op= .binOp .eql T x y T') (hu:P.underlying T=some (.struct fs)) (hp:P.stoodInHeld T=false) (hm:P.eqGuardType P.depth T=false)
  (h:FEq P 0 fs.toList cs ds r) (hx:opv e x= .agg cs) (hy:opv e y= .agg ds):AOp P σ e o (.bool r) σ:=
 Y2 ho hx hy fun s cx cy _ _ h1 h2=>by
  obtain ⟨xs,rfl,hxs⟩:=h1.inv_agg
  obtain ⟨ys,rfl,hys⟩:=h2.inv_agg
  have hf:P.fieldsOf T=fs:=by simp [Program.fieldsOf,hu]
  refine ⟨.bool r,?_,.bool _,run_eqGuard_agg s.w _ T x y _ _ hm⟩
  rw [run_eql_struct s.w T,run_equalIn_struct s.w 9999 T _ _ (by rw [hf,hu]) hp,hf,h.run 9998 s [] [] xs ys hxs hys rfl rfl]
  rfl
theorem Qcz {T T':TypeId} {x y:Operand} {fs:Array Field} {cs ds:List AV} {r:Bool} (ho:o.op= .binOp .neq T x y T') (hu:P.underlying T=some (.struct fs)) (hp:P.stoodInHeld T=false) (hm:P.eqGuardType P.depth T=false)
  (h:FEq P 0 fs.toList cs ds r) (hx:opv e x= .agg cs) (hy:opv e y= .agg ds):AOp P σ e o (.bool (!r)) σ:=
 Y2 ho hx hy fun s cx cy _ _ h1 h2=>by
  obtain ⟨xs,rfl,hxs⟩:=h1.inv_agg
  obtain ⟨ys,rfl,hys⟩:=h2.inv_agg
  have hf:P.fieldsOf T=fs:=by simp [Program.fieldsOf,hu]
  refine ⟨.bool (!r),?_,.bool _,run_eqGuard_agg s.w _ T x y _ _ hm⟩
  rw [run_neq_struct s.w T,run_equalIn_struct s.w 9999 T _ _ (by rw [hf,hu]) hp,hf,h.run 9998 s [] [] xs ys hxs hys rfl rfl]
  rfl
end Lg
namespace Lg
open Go Go.RowKit
variable [GLay]
variable {P:Program} {N:Nat} {σ:List AO} {e:Env} {Q:QA} {ops:Array Oper} {o:Oper}

def ZL (b:ByteArray):List AV:=b.data.toList.map fun u=>.int .u8 u.toNat
theorem Ku {b:ByteArray} (h:ZL b=[]):b=ByteArray.empty:=by
 cases b;rename_i d
 have h1:d.toList=[]:=by simpa [ZL] using h
 have h2:d= #[]:=Array.ext' (by rw [h1])
 subst h2;rfl
theorem Fp (b:ByteArray):(ZL b).length=b.data.toList.length:=by simp [ZL]
theorem Z4 {S T E:TypeId} {x:Operand} {m:Nat} {b:ByteArray} (ho:o.op= .convert S T x) (hs:P.underlying S=some (.slice E)) (he:P.underlying E=some (.int .u8)) (hd:P.underlying T=some .string)
  (hx:YI σ (opv e x)=some (ZL b,m)) (hsz:szv (opv e x) 1) (hns:Q7d (opv e x)=false):AOp P σ e o (.str b) σ:=
 .of_run fun s a hσ g hv=>by
  subst hσ
  have h1:=hv x (by simp [ho,Op.operands])
  obtain ⟨vs,hp,hl,hf⟩:=V.src (P:=P) g h1 hx hsz
  have hvs:vs=b.data.toList.map fun u=>Value.int .u8 u.toNat:=by
   apply List.ext_getElem?
   intro i
   by_cases hi:i < b.data.toList.length
   ·have hi':i < vs.length:=by rw [hp.1];simpa [ZL] using hi
    have h2:=hp.2 i (.int .u8 (b.data.toList[i]).toNat) vs[i] (by simp [ZL,List.getElem?_eq_getElem hi]) (List.getElem?_eq_getElem hi')
    rw [List.getElem?_eq_getElem hi',List.getElem?_map,List.getElem?_eq_getElem hi,h2.inv_int]
    rfl
   ·rw [List.getElem?_eq_none (by rw [hp.1];simp [ZL] at hi ⊢;omega),List.getElem?_eq_none (by simp at hi ⊢;omega)]
  have hm:(vs.length:Nat)=b.data.toList.length:=by rw [hvs];simp
  refine ⟨.string b,?_,.str _⟩
  have key:(convert S T (a.eval x)).run P s.w= .ok (.string b) s.w:=by
   have h3:=hf s.w rfl
   cases hc:opv e x with
   |str=>rw [hc] at hns;cases hns
   |nils=>
    rw [hc] at h1 hx
    rw [h1.inv_nils,run_convert_bytes_string s.w S T E _ _ _ hs he hd]
    simp [YI] at hx
    have:b=ByteArray.empty:=Ku hx.1
    subst this
    simp [Conv.bytesToString]
   |sl f z es=>
    rw [hc] at h1 hx hsz
    have hz:z=1:=hsz
    subst hz
    rcases h1.inv_sl with ⟨ad,h4,hes⟩|⟨bb,off,cap,us,h4,_,hel,hcc,hpp,_⟩
    ·subst hes
     rw [h4,run_convert_bytes_string s.w S T E _ _ _ hs he hd]
     simp [YI] at hx
     have:b=ByteArray.empty:=Ku hx.1
     subst this
     cases ad with
     |none=>simp [Conv.bytesToString]
     |some ad=>rw [run_bytesToString s.w ad 0 0 [] (by simp [loadCells,loadCellsFrom])];rfl
    ·rw [h4]
     simp [YI] at hx
     have hus:us=vs:=by
      have h5:=hpp.1
      apply List.ext_getElem?
      intro i
      have hlen:us.length=b.data.toList.length:=by rw [h5,hx.1];simp [ZL]
      by_cases hi:i < b.data.toList.length
      ·have h6:=hpp.2 i (.int .u8 (b.data.toList[i]).toNat) us[i] (by rw [hx.1];simp [ZL,List.getElem?_eq_getElem hi]) (List.getElem?_eq_getElem (by omega))
       rw [List.getElem?_eq_getElem (by omega),h6.inv_int,hvs,List.getElem?_map,List.getElem?_eq_getElem hi];rfl
      ·rw [List.getElem?_eq_none (by omega),List.getElem?_eq_none (by omega)]
     have hfl:es.flatten.length=es.length * 1:=QJ hel
     have hlen:es.length=b.data.toList.length:=by have:=hpp.1;rw [hus,hm] at this;omega
     rw [hlen]
     refine run_convert_bytes_back s.w S T E _ cap b.data.toList hs he hd fun j hj=>?_
     rw [X3]
     exact hcc j _ (by rw [hus,hvs,List.getElem?_map,List.getElem?_eq_getElem hj];rfl)
   |arr p gg z off len=>
    rw [hc] at h1 hx hsz
    have hz:z=1:=hsz
    subst hz
    simp only [YI] at hx
    split at hx
    ·rename_i sz' g' cs hσ
     split at hx
     ·rename_i hgg
      subst hgg
      simp only [Option.map_eq_some_iff,Prod.mk.injEq] at hx
      obtain ⟨ds,hd1,hd2,rfl⟩:=hx
      obtain ⟨hd3,hd4⟩:=VW hd1
      obtain ⟨_,hcase⟩:=h1.inv_arr hσ
      rcases hcase with ⟨ad,h4,rfl⟩|⟨cap,h4,h5,h6⟩
      ·rw [h4,run_convert_bytes_string s.w S T E _ _ _ hs he hd]
       have:b=ByteArray.empty:=Ku (by rw [← hd2,hd3];simp)
       subst this
       cases ad with
       |none=>simp [Conv.bytesToString]
       |some ad=>rw [run_bytesToString s.w ad 0 0 [] (by simp [loadCells,loadCellsFrom])];rfl
      ·rw [h4]
       have hlen:len=b.data.toList.length:=by
        have h7:ds.length=len * 1:=by rw [hd3,List.length_take];omega
        rw [hd2,Fp] at h7;omega
       rcases g.obj p _ hσ with ⟨h8,h9⟩|⟨_,_,ws,T',h8,h9,h10,h11⟩
       ·have h0:len=0:=by rw [h9] at hd4;simp at hd4;omega
        subst h0
        have:b.data.toList=[]:=List.eq_nil_of_length_eq_zero hlen.symm
        have hb:b=ByteArray.empty:=Ku (by simp [ZL,this])
        subst hb
        rw [run_convert_bytes_string s.w S T E _ _ _ hs he hd,run_bytesToString s.w _ 0 _ [] (by simp [loadCells,loadCellsFrom])];rfl
       ·rw [hlen]
        refine run_convert_bytes_back s.w S T E _ cap b.data.toList hs he hd fun j hj=>?_
        rw [X3]
        have hj2:ds[j]? =some (.int .u8 (b.data.toList[j]).toNat):=by rw [hd2];simp [ZL,List.getElem?_eq_getElem hj]
        have hj3:cs[off+j]? =some (.int .u8 (b.data.toList[j]).toNat):=by
         rw [hd3,List.getElem?_take] at hj2
         split at hj2
         ·rw [List.getElem?_drop] at hj2;simpa using hj2
         ·cases hj2
        obtain ⟨v,hv1,hv2⟩:=h11.get hj3
        rw [hv2.inv_int] at hv1
        rw [List.getElem?_take] at hv1
        split at hv1
        ·rw [List.getElem?_drop] at hv1
         simp only [World.cell?,h8]
         have:(s.μ p).base+off * 1+j=(s.μ p).base+(off+j):=by omega
         simp only [this]
         simpa using hv1
        ·cases hv1
     ·cases hx
    ·cases hx
   |_=>rw [hc] at hx;simp [YI] at hx
  simp [execOp,ho,key]
end Lg
namespace Lg
open Go Go.RowKit
variable [GLay]
variable {P:Program} {N:Nat} {σ:List AO} {e:Env} {Q:QA} {ops:Array Oper} {o:Oper}

theorem Good.rowO {s:CS} (g:Good s) (ob:Obj) {w:World} (hw:Below s.w.heap.size s.w w) (hws:w.heap.size=s.w.heap.size):
  ∃ s',s'.σ=s.σ∧s'.w=w.alloc ob∧Good s'∧Ext s s'∧s'.ok s.w.heap.size:=by
 let s':CS:={ s with ok:=fun b=>s.ok b∨b=s.w.heap.size,w:=w.alloc ob}
 have hheap:∀ {b:Nat},b < s.w.heap.size→s'.w.heap[b]? =s.w.heap[b]? :=fun {b} hb=>by
  show (w.alloc _).heap[b]? =_;rw [ZI,if_neg (by omega)];exact hw.block b hb
 have hsz:s'.w.heap.size=s.w.heap.size+1:=by show (w.alloc _).heap.size=_;rw [Yd,hws]
 have x:Ext s s':={
  objs:=fun _ o h=>⟨o,h,OLe.refl o,fun _=>rfl⟩
  ok:=fun _ h=>.inl h
  okn:=fun _ h=>h.elim .inl fun e=>.inr (.inl (Nat.le_of_eq e.symm))
  mun:=fun _ h=>.inl ⟨CS.live_lt (s:=s) h,h,rfl⟩
  frame:=fun b hb _=>hheap hb
  size:=by omega
  shp:=fun p cs cs' z h1 _ h3=>(Yy (hheap (Yi h3))).trans h3
  tape:=hw.tape
  os:=hw.os
  output:=hw.output}
 refine ⟨s',rfl,rfl,⟨fun b hb=>?_,fun p o ho=>?_,fun p q hpq hp hq=>g.inj p q hpq hp hq,fun b o ho=>?_⟩,x,.inr rfl⟩
 ·rcases hb with hb|rfl
  ·exact Nat.lt_of_lt_of_le (g.okb b hb) x.size
  ·omega
 ·exact ORep.keep g x ho rfl (fun hl hk=>hk.elim (g.live_lt hl).2 (fun e=>by have:=(g.live_lt hl).1;omega)) (fun hl=>hheap (g.live_lt hl).1)
 ·obtain ⟨h1,h2⟩:=g.glob b o ho
  exact ⟨.inl h1,(hheap (g.okb b h1)).trans h2⟩

def KX (b:ByteArray):List (List AV):=b.data.toList.map fun u=>[.int .u8 u.toNat]
theorem VM (b:ByteArray):(KX b).flatten=ZL b:=by
 unfold KX ZL
 induction b.data.toList with
 |nil=>rfl
 |cons x l ih=>simp [ih]
theorem Wn (b:ByteArray):(KX b).length=b.size:=by
 unfold KX;rw [List.length_map];rfl
theorem Q2a {S T E:TypeId} {x:Operand} {b:ByteArray} (ho:o.op= .convert S T x) (hs:P.underlying S=some .string) (hd:P.underlying T=some (.slice E)) (he:P.underlying E=some (.int .u8))
  (hx:opv e x= .str b):AOp P σ e o (.sl false 1 (KX b)) σ:=by
 intro s a hσ g hv K Q hk _
 subst hσ
 have h1:=(hx ▸ hv x (by simp [ho,Op.operands])).inv_str
 obtain ⟨s',e1,e2,g',x',hok⟩:=g.rowO (.cells (bytesRow b (grownCap s.w b.size 0 E)) E ((bytesRow b (grownCap s.w b.size 0 E)).size,(bytesRow b (grownCap s.w b.size 0 E)).size+1)) (w:=s.w.drew) (Below.refl _ _).drew rfl
 refine Zn (w':=s'.w) ?_ (hk _ (.slice (some ⟨s.w.heap.size,0,none⟩) b.size (grownCap s.w b.size 0 E)) s' ⟨rfl,e1⟩ g' x' ?_)
 ·rw [e2]
  simp [execOp,ho,h1,run_bytes_of_string s.w S T E b hs hd he]
 ·rw [← Wn b]
  refine .sl false 1 (KX b) s.w.heap.size 0 _ (b.data.toList.map fun u=>.int .u8 u.toNat) (.inr hok) (fun r hr=>?_) ?_ (fun i v hi=>?_) (fun i c v hc hv'=>?_) ?_ (by simp)
  ·simp [KX] at hr;obtain ⟨u,_,rfl⟩:=hr;rfl
  ·rw [VM];simp [ZL]
  ·rw [e2,Nat.zero_add]
   simp only [World.cell?,ZI]
   rw [if_pos (show s.w.heap.size=s.w.drew.heap.size from rfl)]
   have hi':i < b.data.size:=by have:=(List.getElem?_eq_some_iff.1 hi).1;simpa using this
   simp only [List.getElem?_map,Array.getElem?_toList] at hi
   simp only [bytesRow]
   rw [Array.getElem?_append_left (by simpa using hi'),Array.getElem?_map]
   exact hi
  ·rw [VM] at hc
   simp only [ZL,List.getElem?_map] at hc hv'
   cases hu:b.data.toList[i]? with
   |none=>rw [hu] at hc;cases hc
   |some u=>rw [hu] at hc hv';cases hc;cases hv';exact .int _ _
  ·rw [Wn];exact grownCap_ge _ _ _ _

theorem Qa8 {T E T':TypeId} {x y:Operand} {v:AV} (ho:o.op= .binOp .eql T x y T') (hu:P.underlying T=some (.pointer E)) (hx:opO e x=some v) (hn:Q3h v=true) (hy:opO e y=some .nilp):AOp P σ e o (.bool false) σ:=
 Y2 ho (Qp hx) (Qp hy) fun s cx cy _ _ h1 h2=>by
  have hp:P.pointee T=E:=by simp [Program.pointee,hu]
  have hc:∃ ad,cx= .pointer (some ad):=by
   cases v with
   |ptr p off=>exact ⟨_,h1.inv_ptr⟩
   |pp cs=>obtain ⟨b,off,vs,h,_⟩:=h1.inv_pp;exact ⟨_,h⟩
   |_=>cases hn
  obtain ⟨ad,rfl⟩:=hc
  rw [h2.inv_nilp]
  exact ⟨_,run_eql_pointer_nil s.w T _ (by rw [hp];exact hu),.bool _,JE ..⟩
theorem Qae {T E T':TypeId} {x y:Operand} {v:AV} (ho:o.op= .binOp .neq T x y T') (hu:P.underlying T=some (.pointer E)) (hx:opO e x=some v) (hn:Q3h v=true) (hy:opO e y=some .nilp):AOp P σ e o (.bool true) σ:=
 Y2 ho (Qp hx) (Qp hy) fun s cx cy _ _ h1 h2=>by
  have hp:P.pointee T=E:=by simp [Program.pointee,hu]
  have hc:∃ ad,cx= .pointer (some ad):=by
   cases v with
   |ptr p off=>exact ⟨_,h1.inv_ptr⟩
   |pp cs=>obtain ⟨b,off,vs,h,_⟩:=h1.inv_pp;exact ⟨_,h⟩
   |_=>cases hn
  obtain ⟨ad,rfl⟩:=hc
  rw [h2.inv_nilp]
  exact ⟨_,run_neq_pointer_nil s.w T _ (by rw [hp];exact hu),.bool _,JE ..⟩
theorem Qa7 {T E T':TypeId} {x y:Operand} (ho:o.op= .binOp .eql T x y T') (hu:P.underlying T=some (.pointer E)) (hx:opO e x=some .nilp) (hy:opO e y=some .nilp):AOp P σ e o (.bool true) σ:=
 Y2 ho (Qp hx) (Qp hy) fun s cx cy _ _ h1 h2=>by
  have hp:P.pointee T=E:=by simp [Program.pointee,hu]
  rw [h1.inv_nilp,h2.inv_nilp]
  exact ⟨_,run_eql_pointer_nil s.w T _ (by rw [hp];exact hu),.bool _,JE ..⟩
theorem Qad {T E T':TypeId} {x y:Operand} (ho:o.op= .binOp .neq T x y T') (hu:P.underlying T=some (.pointer E)) (hx:opO e x=some .nilp) (hy:opO e y=some .nilp):AOp P σ e o (.bool false) σ:=
 Y2 ho (Qp hx) (Qp hy) fun s cx cy _ _ h1 h2=>by
  have hp:P.pointee T=E:=by simp [Program.pointee,hu]
  rw [h1.inv_nilp,h2.inv_nilp]
  exact ⟨_,run_neq_pointer_nil s.w T _ (by rw [hp];exact hu),.bool _,JE ..⟩
section iface
variable {T T':TypeId} {x:Operand} {ms:Array (String×TypeId)}
def Hs:Value→Bool
 | .nilIface=>true
 |_=>false
theorem Q1c (w:World) (d:Nat) {ms} (hu:P.underlying T=some (.interface ms)) (c:Value) (hc:c= .nilIface∨∃ t v,c= .iface t v):(Op.equalIn (d+1) T c .nilIface).run P w= .ok (Hs c) w:=by
 rcases hc with rfl|⟨t,v,rfl⟩<;>simp [Op.equalIn,run_underlying hu,Hs]
theorem HP (w:World) {ms} (hu:P.underlying T=some (.interface ms)) (c:Value) (hc:c= .nilIface∨∃ t v,c= .iface t v):(Op.equal T c .nilIface).run P w= .ok (Hs c) w:=Q1c w 9999 hu c hc
theorem Q4I (w:World) {ms} (hu:P.underlying T=some (.interface ms)) (c:Value) (hc:c= .nilIface∨∃ t v,c= .iface t v):(binOp .eql T c .nilIface).run P w= .ok (.bool (Hs c)) w:=by
 have:=HP w hu c hc
 rcases hc with rfl|⟨t,v,rfl⟩<;>(simp only [binOp];simp [this])
theorem Q4K (w:World) {ms} (hu:P.underlying T=some (.interface ms)) (c:Value) (hc:c= .nilIface∨∃ t v,c= .iface t v):(binOp .neq T c .nilIface).run P w= .ok (.bool (!Hs c)) w:=by
 have:=HP w hu c hc
 rcases hc with rfl|⟨t,v,rfl⟩<;>(simp only [binOp];simp [this])
theorem Jd (w:World) (op:BinOp) (x:Operand) (z:Value) (c:Value) (hc:c= .nilIface∨∃ t v,c= .iface t v):(eqGuard op T x (.const z) c .nilIface).run P w= .ok () w:=by
 rcases hc with rfl|⟨t,v,rfl⟩<;>cases op<;>simp [eqGuard]
theorem Q4t {U:TypeId} {v:AV} (ho:o.op= .binOp .eql T x (.const .nilIface) T') (hu:P.underlying T=some (.interface ms)) (hx:opO e x=some (.iface U v)):AOp P σ e o (.bool false) σ:=
 Y2 ho (Qp hx) rfl fun s cx cy _ _ h1 h2=>by
  obtain ⟨u,rfl,_⟩:=h1.inv_iface
  have e2:cy= .nilIface:=h2.inv_nili
  subst e2
  exact ⟨_,Q4I s.w hu _ (.inr ⟨_,_,rfl⟩),.bool _,Jd s.w .eql x _ _ (.inr ⟨_,_,rfl⟩)⟩
theorem Q0Q {U:TypeId} {v:AV} (ho:o.op= .binOp .neq T x (.const .nilIface) T') (hu:P.underlying T=some (.interface ms)) (hx:opO e x=some (.iface U v)):AOp P σ e o (.bool true) σ:=
 Y2 ho (Qp hx) rfl fun s cx cy _ _ h1 h2=>by
  obtain ⟨u,rfl,_⟩:=h1.inv_iface
  have e2:cy= .nilIface:=h2.inv_nili
  subst e2
  exact ⟨_,Q4K s.w hu _ (.inr ⟨_,_,rfl⟩),.bool _,Jd s.w .neq x _ _ (.inr ⟨_,_,rfl⟩)⟩
theorem FS (ho:o.op= .binOp .eql T x (.const .nilIface) T') (hu:P.underlying T=some (.interface ms)) (hx:opO e x=some .nili):AOp P σ e o (.bool true) σ:=
 Y2 ho (Qp hx) rfl fun s cx cy _ _ h1 h2=>by
  have e1:=h1.inv_nili
  have e2:cy= .nilIface:=h2.inv_nili
  subst e1;subst e2
  exact ⟨_,Q4I s.w hu _ (.inl rfl),.bool _,Jd s.w .eql x _ _ (.inl rfl)⟩
theorem UL (ho:o.op= .binOp .neq T x (.const .nilIface) T') (hu:P.underlying T=some (.interface ms)) (hx:opO e x=some .nili):AOp P σ e o (.bool false) σ:=
 Y2 ho (Qp hx) rfl fun s cx cy _ _ h1 h2=>by
  have e1:=h1.inv_nili
  have e2:cy= .nilIface:=h2.inv_nili
  subst e1;subst e2
  exact ⟨_,Q4K s.w hu _ (.inl rfl),.bool _,Jd s.w .neq x _ _ (.inl rfl)⟩
end iface

def Q6u (w:World):Prop:=∀ b ob,GLay.f b=some ob→w.heap[b]? =some ob
theorem Good.laid {s:CS} (g:Good s):Q6u s.w:=fun b ob h=>(g.glob b ob h).2
theorem Wg {f:FuncId} {args:List AV} {v:AV} (h:∀ (s:CS) (cargs:List Value),Good s→PW s args cargs→∃ cv,(∀ s':CS,V s' v cv)∧Calls P f cargs.toArray s.w fun en w'=>en= .returned cv∧Below s.w.heap.size s.w w'):
  ACalls P f args σ (Ret v σ):=fun s cargs hs g hp=>by
 obtain ⟨cv,hv,hc⟩:=h s cargs g hp
 refine hc.mono fun en w' ⟨h1,h2⟩=>?_
 subst h1
 obtain ⟨g',x'⟩:=g.grow h2
 exact ⟨_,rfl,g',x',v,hv _,rfl,hs⟩
end Lg
namespace Lg
open Go Go.RowKit
variable [GLay]
variable {P:Program} {N:Nat} {σ:List AO} {e:Env} {Q:QA} {ops:Array Oper} {o:Oper}

theorem Ul {el:List (Nat×AV)} {l:List AO} {ts:List Nat} {v:AV} {R:Out→List AO→Prop} (h:W8 ts ⟨[],el⟩=v) (hc:closed σ.length σ) (hv:v.lt σ.length) (hR:R (.ret v) σ):Wj σ.length ts R .ret ⟨[],el⟩ (σ++l):=
 ⟨rfl,σ.length,Nat.le_refl _,Zw hc,by rw [h];exact hv,by rw [h,U2];exact hR⟩
theorem Uk {el:List (Nat×AV)} {ts:List Nat} {v:AV} {R:Out→List AO→Prop} (h:W8 ts ⟨[],el⟩=v) (hc:closed σ.length σ) (hv:v.lt σ.length) (hR:R (.ret v) σ):Wj σ.length ts R .ret ⟨[],el⟩ σ:=
 ⟨rfl,σ.length,Nat.le_refl _,hc,by rw [h];exact hv,by rw [h,List.take_length];exact hR⟩
theorem Q8 {v v':AV} (h:v=v'):Ret v' σ (.ret v) σ:=⟨by rw [h],rfl⟩
end Lg
namespace Lg
open Go Go.RowKit
variable [GLay]
variable {P:Program} {N:Nat} {σ:List AO} {e:Env} {Q:QA} {ops:Array Oper} {o:Oper}
def Places (P:Program):List Field→List (Nat×Nat)→Prop
 |[],[]=>True
 |f :: fs,q :: qs=>f.offset=q.1∧(∀ w,(Go.sizeOf f.type).run P w=Result.ok q.2 w)∧Places P fs qs
 |_,_=>False
theorem Places.runL:∀ {fs:List Field} {qs:List (Nat×Nat)},Places P fs qs→∀ w,(fs.mapM fun f=>do pure (f.offset,←Go.sizeOf f.type):Sem (List (Nat×Nat))).run P w=Result.ok qs w
 |[],[],_,w=>by simp
 |f :: fs,q :: qs,⟨h1,h2,h3⟩,w=>by
  simp only [List.mapM_cons,Sem.run_bind,h2,Result.andThen_ok,Sem.run_pure,h1]
  rw [Places.runL h3 w]
  simp
 |[],_ :: _,h,_=>h.elim
 |_ :: _,[],h,_=>h.elim
theorem Places.run {fs:Array Field} {qs:List (Nat×Nat)} (h:Places P fs.toList qs) (w:World):(fs.mapM fun f=>do pure (f.offset,←Go.sizeOf f.type):Sem (Array (Nat×Nat))).run P w=Result.ok qs.toArray w:=by
 obtain ⟨l⟩:=fs
 rw [List.mapM_toArray]
 have:=h.runL w
 simp only [map_eq_pure_bind,Sem.run_bind] at this ⊢
 rw [this]
 simp
theorem Q5R {T:TypeId} {parts:Array (Nat×Operand)} {fs:Array Field} {z:Value} {cs:List AV} (pls:List (Nat×Nat)) (ho:o.op= .build T parts) (hu:P.underlying T=some (.struct fs))
  (hz:∀ w,(zeroValue T).run P w=Result.ok z w) (hpls:Places P fs.toList pls)
  (h1:(parts.toList.all fun q=>Zf (opv e q.2).cells && (opv e q.2).cells.length == ((pls[q.1]?).map (·.2)).getD 0)=true)
  (hb:bld (fun i:Nat=>(pls[i]?).map (·.1)) (z.cells.toList.map Qx) e parts.toList=some cs):AOp P σ e o (.agg cs) σ:=Q7O pls ho hu hz hpls.run h1 hb
section
variable {el:List (Nat×AV)} {l:List AO} {v v1 v2 v3 v4:AV} {t1 t2 t3 t4:Nat} {R:Out→List AO→Prop}
theorem Z5 (h1:Zc el t1=some v1) (hc:closed σ.length σ) (hv:v1.lt σ.length) (hR:R (.ret v1) σ):Wj σ.length [t1] R .ret ⟨[],el⟩ (σ++l):=Ul (QQ h1) hc hv hR
theorem Qr (h1:Zc el t1=some v1) (hc:closed σ.length σ) (hv:v1.lt σ.length) (hR:R (.ret v1) σ):Wj σ.length [t1] R .ret ⟨[],el⟩ σ:=Uk (QQ h1) hc hv hR
theorem JN (h1:Zc el t1=some v1) (h2:Zc el t2=some v2) (hc:closed σ.length σ) (hv:(AV.tup [v1,v2]).lt σ.length) (hR:R (.ret (.tup [v1,v2])) σ):Wj σ.length [t1,t2] R .ret ⟨[],el⟩ (σ++l):=
 Ul (by simp [W8,Env.look,QQ h1,QQ h2]) hc hv hR
theorem QM (h1:Zc el t1=some v1) (h2:Zc el t2=some v2) (hc:closed σ.length σ) (hv:(AV.tup [v1,v2]).lt σ.length) (hR:R (.ret (.tup [v1,v2])) σ):Wj σ.length [t1,t2] R .ret ⟨[],el⟩ σ:=
 Uk (by simp [W8,Env.look,QQ h1,QQ h2]) hc hv hR
theorem Uj (h1:Zc el t1=some v1) (h2:Zc el t2=some v2) (h3:Zc el t3=some v3) (hc:closed σ.length σ) (hv:(AV.tup [v1,v2,v3]).lt σ.length) (hR:R (.ret (.tup [v1,v2,v3])) σ):Wj σ.length [t1,t2,t3] R .ret ⟨[],el⟩ (σ++l):=
 Ul (by simp [W8,Env.look,QQ h1,QQ h2,QQ h3]) hc hv hR
theorem Ya (h1:Zc el t1=some v1) (h2:Zc el t2=some v2) (h3:Zc el t3=some v3) (h4:Zc el t4=some v4) (hc:closed σ.length σ) (hv:(AV.tup [v1,v2,v3,v4]).lt σ.length) (hR:R (.ret (.tup [v1,v2,v3,v4])) σ):Wj σ.length [t1,t2,t3,t4] R .ret ⟨[],el⟩ σ:=
 Uk (by simp [W8,Env.look,QQ h1,QQ h2,QQ h3,QQ h4]) hc hv hR
end
end Lg
namespace Lg
open Go Go.RowKit
variable [GLay]
variable {P:Program} {N:Nat} {σ:List AO} {e:Env} {Q:QA} {ops:Array Oper} {o:Oper}
def bat (b:ByteArray) (i:Nat):UInt8:=b.data.toList.getD i 0
theorem Q3P {b:ByteArray} {i:Nat} (h:i < b.size):b.data.toList[i]? =some (bat b i):=by
 have h':i < b.data.toList.length:=by rw [Array.length_toList];exact h
 rw [bat,List.getD_eq_getElem?_getD,List.getElem?_eq_getElem h'];rfl
theorem Q6K {b:ByteArray} {i:Nat} (h:i < b.size):(KX b)[i]? =some [.int .u8 (bat b i).toNat]:=by
 simp only [KX,List.getElem?_map,Q3P h];rfl
theorem Fx {T:TypeId} {x y:Operand} {b:ByteArray} {k:IntKind} {n:Int} (ho:o.op= .index T x y) (hu:P.underlying T=some .string) (hx:opv e x= .str b) (hy:opv e y= .int k n)
  (h0:0≤n) (h1:n < b.size):AOp P σ e o (.int .u8 (bat b n.toNat).toNat) σ:=
 Q0O ho hu hx hy h0 (Q3P (by omega))
theorem J0 (b:ByteArray) (i:Nat):(bat b i).toNat < 256:=(bat b i).toNat_lt
end Lg
namespace Lg
open Go
class U8 [GLay]:Prop where
 tabs:∀ w:World,Q6u w→Go.Lib.Utf8Tabs 3 4 w
end Lg
namespace Lg
open Go Go.Lib
theorem calls_of {P:Program} {f:FuncId} {args:List AV} {cargs:List Value} {W:World} (ha:∀ [GLay] (s:CS),PW s args cargs)
  (h:∀ [g:GLay],(∀ b,g.f b=W.heap[b]?)→ACalls P f args [] (Ret (.bool true) [])):Calls P f cargs.toArray W fun e W'=>e= .returned (.bool true)∧Go.RowKit.Below W.heap.size W W':=by
 letI:GLay:=⟨fun b=>W.heap[b]?⟩
 let s0:CS:={ σ:=[],μ:=fun _=>⟨0,0,0⟩,ok:=fun b=>b < W.heap.size,w:=W}
 have g0:Good s0:=⟨fun b hb=>hb,fun p o ho=>by simp [s0] at ho,fun p q _ hp _=>by
   have:p < s0.σ.length:=CS.live_lt hp
   simp [s0] at this,fun b o ho=>⟨(Array.getElem?_eq_some_iff.1 ho).1,ho⟩⟩
 refine (h (fun _=>rfl) s0 cargs rfl g0 (ha s0)).mono fun e W' hc=>?_
 obtain ⟨s',rfl,g',x',hr⟩:=hc
 have hbel:Go.RowKit.Below W.heap.size W s'.w:=⟨x'.os,x'.tape,x'.output,x'.size,fun k hk=>x'.frame k hk (fun p hp=>by
  have:p < s0.σ.length:=CS.live_lt hp
  simp [s0] at this)⟩
 cases e with
 |returned cv=>
  obtain ⟨v,hv,he,_⟩:=hr
  injection he with he
  subst he
  rw [hv.inv_bool]
  exact ⟨rfl,hbel⟩
 |outgrown=>exact hr.elim
 |panicked ch=>
  cases ch with
  |nil=>exact hr.elim
  |cons en r=>
   cases r with
   |nil=>obtain ⟨_,v,_,he,_⟩:=hr;cases he
   |cons=>exact hr.elim
theorem Q5A [g:GLay] {W w:World} (hg:∀ b,g.f b=W.heap[b]?) (hw:Q6u w) {b:Nat} {o:Obj} (h:W.heap[b]? =some o):w.heap[b]? =some o:=hw b o ((hg b).trans h)
theorem Uq [g:GLay] {W w:World} (hg:∀ b,g.f b=W.heap[b]?) (hw:Q6u w) {b c:Nat} {v:Value} (h:W.cell? ⟨b,c,none⟩=some v):w.cell? ⟨b,c,none⟩=some v:=by
 cases hb:W.heap[b]? with
 |none=>simp [World.cell?,hb] at h
 |some o=>rw [← h];simp only [World.cell?,hb,Q5A hg hw hb]
theorem U8.of [g:GLay] {W:World} (hT:Utf8Tabs 3 4 W) (hg:∀ b,g.f b=W.heap[b]?):U8:=⟨fun w hw=>
 ⟨fun c hc=>Uq hg hw (hT.1 c hc),fun i hi=>⟨Uq hg hw (hT.2 i hi).1,Uq hg hw (hT.2 i hi).2⟩⟩⟩
end Lg
namespace Lg
open Go Go.RowKit
variable [GLay]
variable {P:Program} {N:Nat} {σ:List AO} {e:Env} {Q:QA}

inductive RK where
 |t (a:Nat)
 |c1 (a:Nat)
 |ck (a n:Nat)
def rkv (σ:List AO) (e:Env):RK→Option AV
 | .t a=>some (e.look a)
 | .c1 a=>match ldv σ 1 (e.look a) with
  |some [c]=>some c
  |_=>none
 | .ck a n=>(ldv σ n (e.look a)).map .agg
def WU (σ:List AO) (e:Env):List RK→Option (List AV)
 |[]=>some []
 |k :: r=>match rkv σ e k,WU σ e r with
  |some v,some l=>some (v :: l)
  |_,_=>none
def rks:List AV→AV
 |[v]=>v
 |l=>.tup l
inductive RKs (P:Program):List ResultVar→List RK→Prop
 |nil:RKs P [] []
 |t {a r k} (h:RKs P r k):RKs P (.tmp a :: r) (.t a :: k)
 |c1 {a T r k} (ha:∀ w,(isAgg T).run P w= .ok false w) (h:RKs P r k):RKs P (.cell a T :: r) (.c1 a :: k)
 |ck {a T n r k} (ha:∀ w,(isAgg T).run P w= .ok true w) (hz:∀ w,(Go.sizeOf T).run P w=Result.ok n w) (h:RKs P r k):RKs P (.cell a T :: r) (.ck a n :: k)
def Q00 (tmps:Array Value):ResultVar→Sem Value
 | .tmp t=>pure (tmps.getD t undef)
 | .cell a t=>do loadVar t (← asAddr (tmps.getD a undef))
theorem RKs.run {rs:List ResultVar} {ks:List RK} (h:RKs P rs ks) {s:CS} {a:Act} (g:Good s) (he:EnvOK s N e a):∀ {l:List AV},WU s.σ e ks=some l→∃ vs:List Value,(rs.mapM (Q00 a.tmps)).run P s.w= .ok vs s.w∧PW s l vs:=by
 induction h with
 |nil=>intro l hl;simp [WU] at hl;subst hl;exact ⟨[],by simp,.nil⟩
 | @t b r k h ih=>
  intro l hl
  simp only [WU,rkv] at hl
  split at hl<;>try cases hl
  rename_i v l' e1 e2
  cases e1
  obtain ⟨vs,h1,h2⟩:=ih e2
  exact ⟨a.tmps.getD b undef :: vs,by simp [Q00,h1],.cons (he.tmps b) h2⟩
 | @c1 b T r k ha h ih=>
  intro l hl
  simp only [WU,rkv] at hl
  split at hl<;>try cases hl
  rename_i v l' e1 e2
  split at e1<;>try cases e1
  rename_i c hld
  obtain ⟨bb,off,vs,k1,k2,_,k4⟩:=(he.tmps b).load g hld
  obtain ⟨u,us,rfl,hv1,_⟩:=k2.inv_cons
  obtain ⟨ws,h1,h2⟩:=ih e2
  have k5:=k4 0 u rfl
  simp only [Nat.add_zero] at k5
  simp only [Act.eval] at k1
  exact ⟨u :: ws,by simp [Q00,k1,asAddr,loadVar,ha,k5,h1],.cons hv1 h2⟩
 | @ck b T n r k ha hz h ih=>
  intro l hl
  simp only [WU,rkv] at hl
  split at hl<;>try cases hl
  rename_i v l' e1 e2
  simp only [Option.map_eq_some_iff] at e1
  obtain ⟨cs,hld,rfl⟩:=e1
  obtain ⟨bb,off,vs,k1,k2,k3,k4⟩:=(he.tmps b).load g hld
  obtain ⟨ws,h1,h2⟩:=ih e2
  have hr:=run_loadCells_list (P:=P) s.w ⟨bb,off,none⟩ vs (fun j v e=>by rw [X3];exact k4 j v e)
  rw [k3] at hr
  simp only [Act.eval] at k1
  exact ⟨.agg vs.toArray :: ws,by simp [Q00,k1,asAddr,loadVar,ha,hz,hr,h1],.cons (.agg _ _ k2.1 k2.2) h2⟩
theorem Qe0 {s:CS} {l:List AV} {vs:List Value} (h:PW s l vs):V s (rks l) (if h:vs.toArray.size=1 then vs.toArray[0] else .tuple vs.toArray):=by
 match l,vs,h with
 |[],[],_=>exact .tup _ _ rfl (fun i c v h=>by simp at h)
 |[a],[v],h=>exact h.2 0 a v rfl rfl
 |a :: b :: l,u :: v :: vs,h=>exact .tup _ _ h.1 h.2
 |[],_ :: _,h=>exact absurd h.1 (by simp)
 |[_],[],h=>exact absurd h.1 (by simp)
 |[_],_ :: _ :: _,h=>exact absurd h.1 (by simp)
 |_ :: _ :: _,[],h=>exact absurd h.1 (by simp)
 |_ :: _ :: _,[_],h=>exact absurd h.1 (by simp)

def RQ (n:Nat) (ks:List RK) (R:Out→List AO→Prop):QA:=fun ex e σ=>
 match ex with
 | .normal| .ret=>e.D=[]∧∃ l m,WU σ e ks=some l∧n≤m∧closed m σ∧(rks l).lt m∧R (.ret (rks l)) (σ.take m)
 | .pan v=>e.D=[]∧∃ m,n≤m∧closed m σ∧v.lt m∧R (.pan v) (σ.take m)
 |_=>False
theorem Q2o {fn:Func} {ks:List RK} (hk:RKs P fn.results.toList ks) {s:CS} {a:Act} (g:Good s) (he:EnvOK s N e a) {l:List AV} (hl:WU s.σ e ks=some l):
  ∃ cv,(results fn a.tmps).run P s.w= .ok cv s.w∧V s (rks l) cv:=by
 obtain ⟨vs,h1,h2⟩:=hk.run g he hl
 refine ⟨_,?_,Qe0 h2⟩
 have hm:(fn.results.mapM (Q00 a.tmps)).run P s.w= .ok vs.toArray s.w:=by
  have:fn.results=fn.results.toList.toArray:=by simp
  rw [this,List.mapM_toArray]
  simp only [map_eq_pure_bind,Sem.run_bind]
  rw [h1];simp
 show ((fn.results.mapM (Q00 a.tmps)) >>= fun vs=>pure (if h:vs.size=1 then vs[0] else .tuple vs)).run P s.w=_
 rw [Sem.run_bind,hm]
 simp
theorem QS {f:FuncId} {fn:Func} {c:Code} {args:List AV} {R:Out→List AO→Prop} {ks:List RK} (hf:P.funcs[f]? =some fn) (hb:fn.body=some c) (hN:fn.ntmps=N) (hr:RKs P fn.results.toList ks) (hl:args.length≤N)
  (h:closed σ.length σ→AV.ltL σ.length args→AWp P N c ⟨[],Fy 0 args⟩ σ (RQ σ.length ks R)):ACalls P f args σ R:=by
 intro s cargs hs g hp
 have hcl:closed σ.length σ:=by rw [← hs];exact g.closed
 have hal:AV.ltL σ.length args:=by rw [← hs];exact hp.ltL
 refine calls_of_wp hf hb ?_
 have henv:EnvOK s N ⟨[],Fy 0 args⟩ { tmps:=cargs.toArray++Array.replicate (fn.ntmps - cargs.toArray.size) undef,defers:=[]}:=by
  refine ⟨?_,trivial,fun t=>?_⟩
  ·have:=hp.1
   simp [hN];omega
  ·show V s (Y7 (Fy 0 args) t) _
   rw [UQ]
   simp only [Nat.zero_le,if_true,Nat.sub_zero]
   cases ha:args[t]? with
   |none=>exact .any _
   |some a=>
    obtain ⟨v,hv,hV⟩:=hp.get ha
    have hlt:=(List.getElem?_eq_some_iff.1 hv).1
    have:(cargs.toArray++Array.replicate (fn.ntmps - cargs.toArray.size) undef).getD t undef=v:=by
     rw [Array.getD_eq_getD_getElem?,Array.getElem?_append_left (by simpa using hlt)]
     simp [hv]
    simp only [Act.eval,this]
    exact hV
 refine wp_mono (h hcl hal s s _ hs g (Ext.refl s) henv) fun ex a w hpost=>?_
 obtain ⟨s',h1,h2,h3,e',h4,h5⟩:=hpost
 have hret:(e'.D=[]∧∃ l m,WU s'.σ e' ks=some l∧σ.length≤m∧closed m s'.σ∧(rks l).lt m∧R (.ret (rks l)) (s'.σ.take m))→a.defers=[]∧∃ v,(results fn a.tmps).run P w= .ok v w∧Q6s s R (.returned v) w:=fun ⟨k1,l,m,k0,k2,k3,k4,k5⟩=>by
  have hD:=h4.defers
  rw [k1] at hD
  have hd:a.defers=[]:=by
   cases hd:a.defers with
   |nil=>rfl
   |cons d r=>rw [hd] at hD;exact hD.elim
  obtain ⟨cv,hc1,hc2⟩:=Q2o hr h2 h4 k0
  rw [h1] at hc1
  exact ⟨hd,cv,hc1,s'.cut m,h1,h2.cut k3,h3.cutm (by rw [hs];exact k2),_,hc2.cut k4,k5⟩
 cases ex with
 |normal=>exact hret h5
 |ret=>exact hret h5
 |exit id=>exact h5.elim
 |goto l=>exact h5.elim
 |outgrown=>exact h5.elim
 |panic ch=>
  cases ch with
  |nil=>exact h5.elim
  |cons en r=>
   cases r with
   |cons=>exact h5.elim
   |nil=>
    obtain ⟨h6,v,h7,k1,m,k2,k3,k4,k5⟩:=h5
    have hD:=h4.defers
    rw [k1] at hD
    have hd:a.defers=[]:=by
     cases hd:a.defers with
     |nil=>rfl
     |cons d r=>rw [hd] at hD;exact hD.elim
    exact ⟨hd,s'.cut m,h1,h2.cut k3,h3.cutm (by rw [hs];exact k2),h6,v,h7.cut k4,k5⟩
theorem QH {el:List (Nat×AV)} {l:List AO} {ks:List RK} {vs:List AV} {R:Out→List AO→Prop} (h:WU (σ++l) ⟨[],el⟩ ks=some vs) (hc:closed σ.length σ) (hv:(rks vs).lt σ.length) (hR:R (.ret (rks vs)) σ):RQ σ.length ks R .ret ⟨[],el⟩ (σ++l):=
 ⟨rfl,vs,σ.length,h,Nat.le_refl _,Zw hc,hv,by rw [U2];exact hR⟩
theorem Q9 {σ:List AO} {e:Env} {k:RK} {r:List RK} {v:AV} {l:List AV} (h1:rkv σ e k=some v) (h2:WU σ e r=some l):WU σ e (k :: r)=some (v :: l):=by simp only [WU,h1,h2]
theorem Z3 {σ:List AO} {el:List (Nat×AV)} {a:Nat} {v:AV} (h:Zc el a=some v):rkv σ ⟨[],el⟩ (.t a)=some v:=by simp only [rkv,Env.look,QQ h]
theorem QI {σ l:List AO} {el:List (Nat×AV)} {a n k off:Nat} {cs r:List AV} (h:Zc el a=some (.ptr (σ.length+k) off)) (h1:l[k]? =some (.box cs)) (h2:tk n (cs.drop off)=some r):rkv (σ++l) ⟨[],el⟩ (.ck a n)=some (.agg r):=by
 simp only [rkv,Env.look,QQ h,GM h1 h2,Option.map_some]
end Lg
namespace Lg
open Go Go.RowKit
variable [GLay]
variable {P:Program} {σ:List AO}
theorem ACalls.weak {f:FuncId} {args:List AV} {R R':Out→List AO→Prop} (h:ACalls P f args σ R) (hr:∀ v σ',R (.ret v) σ'→∃ v',AVle v v'∧R' (.ret v') σ') (hp:∀ v σ',R (.pan v) σ'→R' (.pan v) σ'):ACalls P f args σ R':=fun s cargs hs g hpw=>
 (h s cargs hs g hpw).mono fun ed w' hc=>by
  obtain ⟨s',h1,h2,h3,h4⟩:=hc
  refine ⟨s',h1,h2,h3,?_⟩
  cases ed with
  |returned cv=>
   obtain ⟨v,h5,h6⟩:=h4
   obtain ⟨v',h7,h8⟩:=hr v _ h6
   exact ⟨v',h7 _ _ h5,h8⟩
  |outgrown=>exact h4
  |panicked ch=>
   cases ch with
   |nil=>exact h4
   |cons en r=>
    cases r with
    |nil=>obtain ⟨h5,v,h6,h7⟩:=h4;exact ⟨h5,v,h6,hp _ _ h7⟩
    |cons=>exact h4
end Lg
namespace Lg
open Go Go.RowKit
variable [GLay]
variable {P:Program} {N:Nat} {σ:List AO} {e:Env} {Q:QA} {ops:Array Oper} {o:Oper}

theorem QO {p:Nat} {x:AO} (h:σ[p]? =some x):σ.set p x=σ:=by
 apply List.ext_getElem?
 intro i
 rw [List.getElem?_set]
 split
 ·rename_i e;subst e;split
  ·exact h.symm
  ·rename_i h1;rw [List.getElem?_eq_none (by omega)] at h;cases h
 ·rfl
theorem Qn {c:Code} {σ':List AO} (h:σ'=σ) (k:AWp P N c e σ' Q):AWp P N c e σ Q:=h ▸ k
variable {p:Nat} {x:AO} {l:List AO}
theorem Qk (h:p < σ.length):(σ.set p x)[p]? =some x:=by rw [List.getElem?_set];simp [h]
theorem Qt (h:p < σ.length):(σ.set p x++l)[p]? =some x:=by rw [List.getElem?_append_left (by simpa using h)];exact Qk h
theorem ZJ (k:Nat):(σ.set p x++l)[σ.length+k]? =l[k]? :=by
 rw [List.getElem?_append_right (by simp)];congr 1;simp
theorem Q9Q {off n:Nat} {cs r:List AV} (h:p < σ.length) (hr:tk n (cs.drop off)=some r):ldv (σ.set p (.box cs)) n (.ptr p off)=some r:=Q0G (Qk h) hr
theorem Va {off n:Nat} {cs r:List AV} (h:p < σ.length) (hr:tk n (cs.drop off)=some r):ldv (σ.set p (.box cs)++l) n (.ptr p off)=some r:=Q0G (Qt h) hr
theorem Jq {k off n:Nat} {cs r:List AV} (h:l[k]? =some (.box cs)) (hr:tk n (cs.drop off)=some r):ldv (σ.set p x++l) n (.ptr (σ.length+k) off)=some r:=by
 simp only [ldv,ZJ,h,hr]
theorem Q5X {T:TypeId} {a b:Operand} {n off:Nat} {cs r:List AV} (ho:o.op= .store T a b) (hz:∀ w,(Go.sizeOf T).run P w=Result.ok n w) (hn:(opv e b).cells.length=n)
  (h1:Zf (opv e b).cells=true) (hx:opv e a= .ptr p off) (hp:p < σ.length) (hr:spl off cs (opv e b).cells=some r) (hn0:n ≠ 0):AOp P (σ.set p (.box cs)) e o .any (σ.set p (.box r)):=by
 have:=Zo (P:=P) (σ:=σ.set p (.box cs)) ho hz hn h1 hx (Qk hp) hr hn0
 rwa [List.set_set] at this
theorem Q3w {T:TypeId} {a b:Operand} {n off:Nat} {cs r:List AV} (ho:o.op= .store T a b) (hz:∀ w,(Go.sizeOf T).run P w=Result.ok n w) (hn:(opv e b).cells.length=n)
  (h1:Zf (opv e b).cells=true) (hx:opv e a= .ptr p off) (hp:p < σ.length) (hr:spl off cs (opv e b).cells=some r) (hn0:n ≠ 0):AOp P (σ.set p (.box cs)++l) e o .any (σ.set p (.box r)++l):=by
 have:=Zo (P:=P) (σ:=σ.set p (.box cs)++l) ho hz hn h1 hx (Qt hp) hr hn0
 rwa [List.set_append_left _ _ (by simpa using hp),List.set_set] at this
theorem Yg {T:TypeId} {a b:Operand} {n k off:Nat} {cs r:List AV} (ho:o.op= .store T a b) (hz:∀ w,(Go.sizeOf T).run P w=Result.ok n w) (hn:(opv e b).cells.length=n)
  (h1:Zf (opv e b).cells=true) (hx:opv e a= .ptr (σ.length+k) off) (hl:l[k]? =some (.box cs)) (hr:spl off cs (opv e b).cells=some r) (hn0:n ≠ 0):AOp P (σ.set p x++l) e o .any (σ.set p x++l.set k (.box r)):=by
 have:=Zo (P:=P) (σ:=σ.set p x++l) ho hz hn h1 hx (by rw [ZJ];exact hl) hr hn0
 rwa [List.set_append_right _ _ (by simp),List.length_set,Nat.add_sub_cancel_left] at this
theorem Qa6 {T:TypeId} {a:Operand} {cs:List AV} (n:Nat) (hn:l.length=n) (ho:o.op= .box T a) (hx:(opv e a).cells=cs) (h1:Zf cs=true):AOp P (σ.set p x++l) e o (.ptr (σ.length+n) 0) (σ.set p x++(l++[.box cs])):=by
 have:=Q0L (P:=P) (σ:=σ.set p x++l) ho hx h1
 rwa [List.length_append,hn,List.append_assoc,List.length_set] at this
theorem Q7N {T:TypeId} {a:Operand} {cs:List AV} (ho:o.op= .box T a) (hx:(opv e a).cells=cs) (h1:Zf cs=true):AOp P (σ.set p x) e o (.ptr (σ.length+0) 0) (σ.set p x++[.box cs]):=by
 have:=Q0L (P:=P) (σ:=σ.set p x) ho hx h1
 rwa [List.length_set] at this
theorem Q5P {T:TypeId} {z:Value} {cs:List AV} (n:Nat) (hn:l.length=n) (ho:o.op= .alloc T) (hz:∀ w,(zeroValue T).run P w=Result.ok z w) (hx:z.cells.toList.map Qx=cs):AOp P (σ.set p x++l) e o (.ptr (σ.length+n) 0) (σ.set p x++(l++[.box cs])):=by
 have:=WJ (P:=P) (σ:=σ.set p x++l) (e:=e) ho hz hx
 rwa [List.length_append,hn,List.append_assoc,List.length_set] at this
theorem Q3m {T:TypeId} {z:Value} {cs:List AV} (ho:o.op= .alloc T) (hz:∀ w,(zeroValue T).run P w=Result.ok z w) (hx:z.cells.toList.map Qx=cs):AOp P (σ.set p x) e o (.ptr (σ.length+0) 0) (σ.set p x++[.box cs]):=by
 have:=WJ (P:=P) (σ:=σ.set p x) (e:=e) ho hz hx
 rwa [List.length_set] at this
end Lg
namespace Lg
open Go Go.RowKit
variable [GLay]
variable {σ l:List AO} {p:Nat} {x:AO} {el:List (Nat×AV)} {ts:List Nat} {v:AV} {R:Out→List AO→Prop}
theorem Qbo:(σ.set p x++l).take σ.length=σ.set p x:=by
 have:(σ.set p x).length=σ.length:=List.length_set
 rw [← this,List.take_left']
 exact rfl
theorem Q3T (hc:closed σ.length σ) (hx:AV.ltL σ.length x.cells):closed σ.length (σ.set p x++l):=fun q o hq ho=>by
 rw [List.getElem?_append_left (by simpa using hq)] at ho
 exact Xb hc hx q o hq ho
theorem Zt (h:W8 ts ⟨[],el⟩=v) (hc:closed σ.length σ) (hx:AV.ltL σ.length x.cells) (hv:v.lt σ.length) (hR:R (.ret v) (σ.set p x)):Wj σ.length ts R .ret ⟨[],el⟩ (σ.set p x++l):=
 ⟨rfl,σ.length,Nat.le_refl _,Q3T hc hx,by rw [h];exact hv,by rw [h,Qbo];exact hR⟩
theorem Xj (h:W8 ts ⟨[],el⟩=v) (hc:closed σ.length σ) (hx:AV.ltL σ.length x.cells) (hv:v.lt σ.length) (hR:R (.ret v) (σ.set p x)):Wj σ.length ts R .ret ⟨[],el⟩ (σ.set p x):=by
 have:=Zt (l:=[]) (p:=p) h hc hx hv hR
 simpa using this
theorem Ks (hc:closed σ.length σ) (hx:AV.ltL σ.length x.cells) (hR:R (.ret (.tup [])) (σ.set p x)):Wj σ.length [] R .normal ⟨[],el⟩ (σ.set p x):=
 Xj (ts:=[]) (v:=.tup []) (p:=p) (el:=el) (R:=R) rfl hc hx trivial hR
end Lg
namespace Lg
open Go Go.RowKit
variable [GLay]
variable {P:Program} {f:FuncId} {args:List AV} {σ l:List AO} {p:Nat} {x y:AO} {v:AV}
theorem Ge (h:ACalls P f args (σ.set p x) (Ret v ((σ.set p x).set p y))):ACalls P f args (σ.set p x) (Ret v (σ.set p y)):=by rwa [List.set_set] at h
theorem Z6 (hp:p < σ.length) (h:ACalls P f args (σ.set p x++l) (Ret v ((σ.set p x++l).set p y))):ACalls P f args (σ.set p x++l) (Ret v (σ.set p y++l)):=by
 rwa [List.set_append_left _ _ (by simpa using hp),List.set_set] at h
end Lg
namespace Lg
open Go Go.RowKit
variable [GLay]
variable {P:Program} {N:Nat} {σ l:List AO} {e:Env} {Q:QA} {p:Nat} {x:AO}
theorem FF {c:Code} (q:Nat) {bs bs':List AV} (hq:σ[q]? =some (.box bs)) (hle:AVleL bs bs') (k:AWp P N c e (σ.set q (.box bs')) Q):AWp P N c e σ Q:=fun s0 s a hs g x he=>by
 subst hs
 have hlive:s.live q:=by unfold CS.live;rw [hq];trivial
 obtain ⟨_,vs,T,hb,hp⟩:=g.rep hq hlive
 have hp:PW s bs vs:=hp
 have hnew:PW s bs' vs:=hle.pw hp
 obtain ⟨s2,f1,f2,g2,x2,_⟩:=g.setObj hq hlive (o':=.box bs') (.box _ _ hle.len) trivial hnew
 have hw:s2.w=s.w:=by rw [f2,setRow_self _ _ _ _ _ hb]
 have:=k s0 s2 a f1 g2 (x.trans x2) (he.mono g x2)
 rwa [hw] at this
theorem Gc {c:Code} (q i sz:Nat) {bs:List AV} (hq:σ[q]? =some (.box bs)) (hi:bs[i]? =some .nils) (k:AWp P N c e ((σ++[AO.arr sz 0 []]).set q (.box (bs.set i (.arr σ.length 0 sz 0 0)))) Q):AWp P N c e σ Q:=fun s0 s a hs g x he=>by
 subst hs
 obtain ⟨s1,e1,e2,g1,x1⟩:=g.ghost sz
 have hqlt:q < s.σ.length:=(List.getElem?_eq_some_iff.1 hq).1
 have hq1:s1.σ[q]? =some (.box bs):=by rw [e1,List.getElem?_append_left hqlt];exact hq
 have hlive1:s1.live q:=by unfold CS.live;rw [hq1];trivial
 obtain ⟨_,vs,T,hb,hp⟩:=g1.rep hq1 hlive1
 have hp:PW s1 bs vs:=hp
 obtain ⟨v,hv1,hv2⟩:=hp.get hi
 have hv0:=hv2.inv_nils
 have hv':V s1 (.arr s.σ.length 0 sz 0 0) v:=by
  rw [hv0];exact .arr _ _ _ _ _ _ rfl (.mk (cs:=[]) (by rw [e1];simp) ⟨rfl,.inl ⟨none,rfl,rfl⟩⟩)
 have hset:vs.set i v=vs:=by
  obtain ⟨h1,h2⟩:=List.getElem?_eq_some_iff.1 hv1
  rw [← h2];exact List.set_getElem_self h1
 have hnew:PW s1 (bs.set i (.arr s.σ.length 0 sz 0 0)) vs:=by
  have:=hp.set i hv'
  rwa [hset] at this
 obtain ⟨s2,f1,f2,g2,x2,_⟩:=g1.setObj hq1 hlive1 (o':=.box (bs.set i (.arr s.σ.length 0 sz 0 0))) (.box _ _ (by simp)) trivial hnew
 have hw:s2.w=s.w:=by rw [f2,←e2,setRow_self _ _ _ _ _ hb]
 have:=k s0 s2 a (by rw [f1,e1]) g2 ((x.trans x1).trans x2) ((he.mono g x1).mono g1 x2)
 rwa [hw] at this
theorem XN (k:Nat) (y:AO):(σ.set p x++l).set (σ.length+k) y=σ.set p x++l.set k y:=by
 rw [List.set_append_right _ _ (by simp),List.length_set,Nat.add_sub_cancel_left]
theorem VX {c:Code} (k:Nat) {bs bs':List AV} (hq:l[k]? =some (.box bs)) (hle:AVleL bs bs') (h:AWp P N c e (σ.set p x++l.set k (.box bs')) Q):AWp P N c e (σ.set p x++l) Q:=
 FF (σ.length+k) (by rw [ZJ];exact hq) hle (by rw [XN];exact h)
theorem Kp {c:Code} (k i sz n:Nat) (hn:l.length=n) {bs:List AV} (hq:l[k]? =some (.box bs)) (hi:bs[i]? =some .nils) (h:AWp P N c e (σ.set p x++(l++[AO.arr sz 0 []]).set k (.box (bs.set i (.arr (σ.length+n) 0 sz 0 0)))) Q):AWp P N c e (σ.set p x++l) Q:=
 Gc (σ.length+k) i sz (by rw [ZJ];exact hq) hi (by
  have e1:(σ.set p x++l).length=σ.length+n:=by simp [hn]
  rw [e1,List.append_assoc,XN];exact h)
theorem Zj {c:Code} (kq i kp gg sz off len:Nat) {bs cs:List AV} (hq:l[kq]? =some (.box bs)) (hi:bs[i]? =some (.arr (σ.length+kp) gg sz off len)) (hσ:l[kp]? =some (.arr sz gg cs)) (es:List (List AV)) (hes:es.flatten=(cs.drop (off * sz)).take (len * sz))
  (hel:∀ r∈es,r.length=sz) (hlen:es.length=len) (hsz:sz ≠ 0) (hfit:(off+len) * sz≤cs.length) (k:AWp P N c e (σ.set p x++(l.set kp .dead).set kq (.box (bs.set i (.sl false sz es)))) Q):AWp P N c e (σ.set p x++l) Q:=
 Wi (σ.length+kq) i (σ.length+kp) gg sz off len (by rw [ZJ];exact hq) hi (by rw [ZJ];exact hσ) es hes hel hlen hsz hfit (by
  rw [XN,XN];exact k)
theorem Q0g {el:List (Nat×AV)} {ks:List RK} {vs:List AV} {R:Out→List AO→Prop} (h:WU (σ.set p x++l) ⟨[],el⟩ ks=some vs) (hc:closed σ.length σ) (hx:AV.ltL σ.length x.cells) (hv:(rks vs).lt σ.length) (hR:R (.ret (rks vs)) (σ.set p x)):RQ σ.length ks R .ret ⟨[],el⟩ (σ.set p x++l):=
 ⟨rfl,vs,σ.length,h,Nat.le_refl _,Q3T hc hx,hv,by rw [Qbo];exact hR⟩
theorem Q18 {el:List (Nat×AV)} {a n k off:Nat} {cs r:List AV} (h:Zc el a=some (.ptr (σ.length+k) off)) (h1:l[k]? =some (.box cs)) (h2:tk n (cs.drop off)=some r):rkv (σ.set p x++l) ⟨[],el⟩ (.ck a n)=some (.agg r):=by
 simp only [rkv,Env.look,QQ h,Jq h1 h2,Option.map_some]
end Lg
namespace Lg
open Go Go.RowKit
variable [GLay]
variable {P:Program} {N:Nat} {σ l τ:List AO} {e:Env} {Q:QA} {p:Nat} {x:AO} {o:Oper}
theorem YT {n:Nat} (h:τ.length=n) (k:Nat):(τ++l)[n+k]? =l[k]? :=by
 subst h
 rw [List.getElem?_append_right (by omega)];congr 1;omega
theorem Kg {n:Nat} (h:τ.length=n) (k:Nat) (y:AO):(τ++l).set (n+k) y=τ++l.set k y:=by
 subst h
 rw [List.set_append_right _ _ (by omega)];congr 2;omega
theorem Qv {n0:Nat} (hτ:τ.length=n0) (k:Nat) {a b:Operand} {t u E:TypeId} {i:TypeInfo} {z:Value} {d:TypeDesc} {sz m gg len:Nat} {cs cs0:List AV} (ho:o.op= .call { callee:=.builtin .append,args:= #[a,b],argTypes:= #[t,u]})
  (hd:d= .string∨∃ E',d= .slice E') (ht:P.underlying t=some (.slice E)) (hu:P.underlying u=some d) (hi:P.info? E=some i) (hz:i.zero=some z) (hsz:i.size=sz) (hzs:z.cells.size=sz) (hpos:sz ≠ 0)
  (hx:opv e a= .arr (n0+k) gg sz 0 len) (hk:l[k]? =some (.arr sz gg cs0)) (hend:len * sz=cs0.length) (hy:YI (τ++l) (opv e b)=some (cs,m)) (hys:szv (opv e b) sz) (h1:Zf cs=true)
  (hby:(len+m) * i.bytes≤140737488355328) (h63:len+m≤9223372036854775807) (hlen:cs.length=m * sz):
  AOp P (τ++l) e o (.arr (n0+k) (gg+1) sz 0 (len+m)) (τ++l.set k (.arr sz (gg+1) (cs0++cs))):=by
 have:=KC (P:=P) (σ:=τ++l) ho hd ht hu hi hz hsz hzs hpos hx (by rw [YT hτ];exact hk) (by rw [Nat.zero_add];exact hend) hy hys h1 hby h63 hlen
 rw [Nat.zero_mul,List.drop_zero,Kg hτ] at this
 exact this
theorem Fv {n0 n:Nat} (hτ:τ.length=n0) (hn:l.length=n) {a b:Operand} {t u E:TypeId} {i:TypeInfo} {z:Value} {d:TypeDesc} {sz m:Nat} {cs:List AV} (ho:o.op= .call { callee:=.builtin .append,args:= #[a,b],argTypes:= #[t,u]})
  (hd:d= .string∨∃ E',d= .slice E') (ht:P.underlying t=some (.slice E)) (hu:P.underlying u=some d) (hi:P.info? E=some i) (hz:i.zero=some z) (hsz:i.size=sz) (hzs:z.cells.size=sz) (hpos:sz ≠ 0)
  (hx:opv e a= .nils∨opv e a= .sl true sz []) (hy:YI (τ++l) (opv e b)=some (cs,m)) (hys:szv (opv e b) sz) (h1:Zf cs=true) (hby:m * i.bytes≤140737488355328) (h63:m≤9223372036854775807) (hlen:cs.length=m * sz):
  AOp P (τ++l) e o (.arr (n0+n) 0 sz 0 m) (τ++(l++[.arr sz 0 cs])):=by
 have:=KD (P:=P) (σ:=τ++l) ho hd ht hu hi hz hsz hzs hpos hx hy hys h1 hby h63 hlen
 rw [List.length_append,hτ,hn,List.append_assoc] at this
 exact this
theorem WK {n0 n:Nat} (hτ:τ.length=n0) (hn:l.length=n) {T:TypeId} {len sz:Nat} {parts:Array (Nat×Operand)} {cs:List AV} (ho:o.op= .buildSlice T len parts) (h:AOp P (τ++l) e o (.arr (τ++l).length 0 sz 0 len) ((τ++l)++[.arr sz 0 cs])):
  AOp P (τ++l) e o (.arr (n0+n) 0 sz 0 len) (τ++(l++[.arr sz 0 cs])):=by
 rw [List.length_append,hτ,hn,List.append_assoc] at h
 exact h
theorem Jr {T E:TypeId} {sz:Nat} (ho:o.op= .buildSlice T 0 #[]) (hu:P.underlying T=some (.slice E)) (hsz:∀ w,(Go.sizeOf E).run P w=Result.ok sz w):AOp P σ e o (.sl true sz []) σ:=by
 intro s a hs g hv K Q hk _
 subst hs
 obtain ⟨s',e1,e2,g',x',hok⟩:=g.row [] E
 refine Zn (w':=s'.w) ?_ (hk _ (.slice (some ⟨s.w.heap.size,0,none⟩) 0 0) s' ⟨rfl,e1⟩ g' x' (.sl0 true sz _))
 rw [e2]
 simp only [execOp,ho,Instr.buildSlice,Sem.run_bind,run_underlying hu,hsz,Result.andThen_ok,Sem.run_ite,Nat.zero_mul,if_true,Sem.run_pure]
 rw [if_neg (by omega)]
 simp [newRow,newObj,Sem.run,Instr.fill]
 congr 2
 exact Array.eq_empty_of_size_eq_zero (by simp)
theorem Q6a {n0:Nat} (hτ:τ.length=n0) (k:Nat) {g sz len:Nat} {cs:List AV} (hk:l[k]? =some (.arr sz g cs)) (hl:cs.length=len * sz):YI (τ++l) (.arr (n0+k) g sz 0 len)=some (cs,len):=by
 have h1:∀ (n:Nat) (c:List AV),c.length=n→tk n c=some c:=by
  intro n
  induction n with
  |zero=>intro c hc;have:c=[]:=List.eq_nil_of_length_eq_zero hc;subst this;rfl
  |succ n ih=>intro c hc;cases c with
   |nil=>simp at hc
   |cons x c=>simp only [tk,ih c (by simpa using hc),Option.map_some]
 simp only [YI,YT hτ,hk,if_true,Nat.zero_mul,List.drop_zero,h1 _ cs hl,Option.map_some]
theorem Gm (a b:List AV):Zf (a++b)=(Zf a && Zf b):=by
 induction a with
 |nil=>rfl
 |cons x a ih=>simp only [List.cons_append,Zf,ih,Bool.and_assoc]
theorem Q3S {f:FuncId} {args:List AV} {v:AV} {y:AO} (k:Nat) (h:ACalls P f args (σ++l) (Ret v ((σ++l).set (σ.length+k) y))):ACalls P f args (σ++l) (Ret v (σ++l.set k y)):=by
 rwa [Kg rfl] at h
theorem QN {c:Code} (k:Nat) {bs bs':List AV} (hq:l[k]? =some (.box bs)) (hle:AVleL bs bs') (h:AWp P N c e (σ++l.set k (.box bs')) Q):AWp P N c e (σ++l) Q:=
 FF (σ.length+k) (by rw [YT rfl];exact hq) hle (by rw [Kg rfl];exact h)
theorem YM:(σ.set p x).length=σ.length:=List.length_set
theorem Yo (k:Nat):(σ.set p x++l).take (σ.length+k)=σ.set p x++l.take k:=by
 have:=Qo (σ:=σ.set p x) (l:=l) k
 rwa [List.length_set] at this
theorem Xu (k:Nat) (h:closed σ.length σ) (hx:AV.ltL σ.length x.cells) (hl:ownLt (σ.length+k) (l.take k)):closed (σ.length+k) (σ.set p x++l):=by
 have:=Qh (σ:=σ.set p x) (l:=l) k (by rw [List.length_set];exact Xb h hx) (by rw [List.length_set];exact hl)
 rwa [List.length_set] at this
end Lg
namespace Lg
open Go

structure JNum where
 neg:Bool:=false
 digits:ByteArray:=⟨#[]⟩
 exp:Int:=0
inductive JV where
 |mk (kind:Int) (b:Bool) (n:JNum) (s:ByteArray) (l:List JV) (m:List (ByteArray×JV))
def JV.kind:JV→Int| .mk k _ _ _ _ _=>k
def JV.b:JV→Bool| .mk _ b _ _ _ _=>b
def JV.n:JV→JNum| .mk _ _ n _ _ _=>n
def JV.s:JV→ByteArray| .mk _ _ _ s _ _=>s
def JV.l:JV→List JV| .mk _ _ _ _ l _=>l
def JV.m:JV→List (ByteArray×JV)| .mk _ _ _ _ _ m=>m

def Y1 (n:JNum):List AV:=[.bool n.neg,.str n.digits,.int .i64 n.exp]
mutual
def Qf:JV→List AV
 | .mk k b n s l m=>[.int .i64 k,.bool b,.bool n.neg,.str n.digits,.int .i64 n.exp,.str s,.sl false 8 (Q7 l),.sl false 9 (Q5 m)]
def Q7:List JV→List (List AV)
 |[]=>[]
 |v :: r=>Qf v :: Q7 r
def Q5:List (ByteArray×JV)→List (List AV)
 |[]=>[]
 |(k,v) :: r=>(.str k :: Qf v) :: Q5 r
end
theorem Q3 (v:JV):Qf v=[.int .i64 v.kind,.bool v.b,.bool v.n.neg,.str v.n.digits,.int .i64 v.n.exp,.str v.s,.sl false 8 (Q7 v.l),.sl false 9 (Q5 v.m)]:=by
 cases v;simp [Qf,JV.kind,JV.b,JV.n,JV.s,JV.l,JV.m]
theorem Jf:∀ l:List JV,Q7 l=l.map Qf
 |[]=>by simp [Q7]
 |v :: r=>by simp [Q7,Jf r]
theorem VA:∀ l:List (ByteArray×JV),Q5 l=l.map fun q=>.str q.1 :: Qf q.2
 |[]=>by simp [Q5]
 |(k,v) :: r=>by simp [Q5,VA r]
theorem QG (l:List JV):(Q7 l).length=l.length:=by simp [Jf]
theorem QK (l:List (ByteArray×JV)):(Q5 l).length=l.length:=by simp [VA]
theorem Jp {l:List JV} {i:Nat} {v:JV} (h:l[i]? =some v):(Q7 l)[i]? =some (Qf v):=by simp [Jf,h]
theorem Yf {l:List (ByteArray×JV)} {i:Nat} {q:ByteArray×JV} (h:l[i]? =some q):(Q5 l)[i]? =some (.str q.1 :: Qf q.2):=by simp [VA,h]
mutual
theorem Jk (n:Nat):∀ v:JV,AV.ltL n (Qf v)
 | .mk k b nn s l m=>by
  simp only [Qf,AV.ltL,AV.lt,and_true,true_and]
  exact ⟨Uy n l,UA n m⟩
theorem Uy (n:Nat):∀ l:List JV,AV.ltLL n (Q7 l)
 |[]=>by simp [Q7,AV.ltLL]
 |v :: r=>by simp only [Q7,AV.ltLL];exact ⟨Jk n v,Uy n r⟩
theorem UA (n:Nat):∀ l:List (ByteArray×JV),AV.ltLL n (Q5 l)
 |[]=>by simp [Q5,AV.ltLL]
 |(k,v) :: r=>by simp only [Q5,AV.ltLL,AV.ltL,AV.lt,true_and];exact ⟨Jk n v,UA n r⟩
end
attribute [simp] Jk Uy UA
mutual
def Q6:JV→Int
 | .mk _ _ _ _ l m=>1+Qm l+Qw m
def Qm:List JV→Int
 |[]=>0
 |v :: r=>Q6 v+Qm r
def Qw:List (ByteArray×JV)→Int
 |[]=>0
 |(_,v) :: r=>Q6 v+Qw r
end
theorem Zs (v:JV):Q6 v=1+Qm v.l+Qw v.m:=by cases v;simp [Q6,JV.l,JV.m]
mutual
theorem Qi:∀ v:JV,1≤Q6 v
 | .mk _ _ _ _ l m=>by have:=Ze l;have:=Zh m;simp only [Q6];omega
theorem Ze:∀ l:List JV,0≤Qm l
 |[]=>by simp [Qm]
 |v :: r=>by have:=Qi v;have:=Ze r;simp only [Qm];omega
theorem Zh:∀ l:List (ByteArray×JV),0≤Qw l
 |[]=>by simp [Qw]
 |(k,v) :: r=>by have:=Qi v;have:=Zh r;simp only [Qw];omega
end
end Lg
