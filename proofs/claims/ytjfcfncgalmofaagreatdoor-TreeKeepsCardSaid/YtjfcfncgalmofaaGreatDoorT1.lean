/- A part of the proof of The tree's Apply, and what the reference says of it: the same answer and the same tree.: Lg1 Lg2 Lg3 Lg4 Lg5 Lg6 Lg7 Lg8 Lg9 Lg10 Lg11 Lg12 Lg13. -/
import Derived.WalkKit
import Derived.Orders
import Derived.Below
set_option linter.unusedVariables false
set_option linter.unusedSimpArgs false
set_option linter.unusedSectionVars false
namespace Lg
open Go

inductive AV where
 |any
 |bool (b:Bool)
 |int (k:IntKind) (n:Int)
 |str (s:ByteArray)
 |nilp
 |ptr (p off:Nat)
 |nilT (p:Nat) (T:TypeId) (n:Nat)
 |bts (p n:Nat)
 |btp (p n:Nat)
 |pel (p g i:Nat)
 |pp (cs:List AV)
 |nils
 |sl (full:Bool) (sz:Nat) (es:List (List AV))
 |arr (p g sz off len:Nat)
 |arrC (p g sz off len cap:Nat)
 |mapv (p:Nat)
 |nilm
 |func (fn:Fn) (first caps:List AV)
 |nilf
 |iface (T:TypeId) (a:AV)
 |nili
 |agg (cs:List AV)
 |tup (cs:List AV)

mutual
def AV.lt (n:Nat):AV→Prop
 | .ptr p _| .pel p _ _| .arr p _ _ _ _| .arrC p _ _ _ _ _| .mapv p| .nilT p _ _| .bts p _| .btp p _=>p < n
 | .pp cs| .agg cs| .tup cs=>AV.ltL n cs
 | .sl _ _ es=>AV.ltLL n es
 | .func _ f c=>AV.ltL n f∧AV.ltL n c
 | .iface _ a=>AV.lt n a
 |_=>True
def AV.ltL (n:Nat):List AV→Prop
 |[]=>True
 |a :: r=>AV.lt n a∧AV.ltL n r
def AV.ltLL (n:Nat):List (List AV)→Prop
 |[]=>True
 |a :: r=>AV.ltL n a∧AV.ltLL n r
end

theorem AV.ltL_iff (n:Nat) (l:List AV):AV.ltL n l↔∀ a∈l,AV.lt n a:=by
 induction l with
 |nil=>simp [AV.ltL]
 |cons a r ih=>simp [AV.ltL,ih]
theorem AV.ltLL_iff (n:Nat) (l:List (List AV)):AV.ltLL n l↔∀ a∈l,AV.ltL n a:=by
 induction l with
 |nil=>simp [AV.ltLL]
 |cons a r ih=>simp [AV.ltLL,ih]

mutual
theorem AV.lt_mono {m n:Nat} (h:m≤n):∀ a:AV,AV.lt m a→AV.lt n a
 | .ptr p _| .pel p _ _| .arr p _ _ _ _| .arrC p _ _ _ _ _| .mapv p| .nilT p _ _| .bts p _| .btp p _=>fun q=>by simp only [AV.lt] at *;omega
 | .pp cs| .agg cs| .tup cs=>fun q=>by simp only [AV.lt] at *;exact AV.ltL_mono h cs q
 | .sl _ _ es=>fun q=>by simp only [AV.lt] at *;exact AV.ltLL_mono h es q
 | .func _ f c=>fun q=>by simp only [AV.lt] at *;exact ⟨AV.ltL_mono h f q.1,AV.ltL_mono h c q.2⟩
 | .iface _ a=>fun q=>by simp only [AV.lt] at *;exact AV.lt_mono h a q
 | .any| .bool _| .int _ _| .str _| .nilp| .nils| .nilm| .nilf| .nili=>fun _=>by simp only [AV.lt]
theorem AV.ltL_mono {m n:Nat} (h:m≤n):∀ l:List AV,AV.ltL m l→AV.ltL n l
 |[]=>fun _=>trivial
 |a :: r=>fun q=>⟨AV.lt_mono h a q.1,AV.ltL_mono h r q.2⟩
theorem AV.ltLL_mono {m n:Nat} (h:m≤n):∀ l:List (List AV),AV.ltLL m l→AV.ltLL n l
 |[]=>fun _=>trivial
 |a :: r=>fun q=>⟨AV.ltL_mono h a q.1,AV.ltLL_mono h r q.2⟩
end

inductive AO where
 |box (cs:List AV)
 |arr (sz g:Nat) (cs:List AV)
 |bytes (T:TypeId) (l:List UInt8)
 |gone
 |dead
 |map (l:List (AV×AV))

def ZH {α:Type}:List (α×α)→List α
 |[]=>[]
 |q :: r=>q.1 :: q.2 :: ZH r
def AO.isBox:AO→Bool
 | .box _| .gone=>true
 |_=>false
def AO.cells:AO→List AV
 | .box cs| .arr _ _ cs=>cs
 | .map l=>ZH l
 |_=>[]

structure Pl where
 b:Nat
 base:Nat:=0
 tot:Nat:=0

structure CS where
 σ:List AO
 μ:Nat→Pl
 ok:Nat→Prop
 w:World

def CS.live (s:CS) (p:Nat):Prop:=
 match s.σ[p]? with
 |some (.box _)=>True
 |some (.arr _ _ _)=>(s.μ p).tot ≠ 0
 |some (.bytes _ _)=>(s.μ p).tot ≠ 0
 |some (.map _)=>True
 |_=>False

def ArrAt (s:CS) (p g:Nat) (R:Nat→Pl→Prop):Prop:=
 match s.σ[p]? with
 |some (.arr sz g0 _)=>g≤g0∧(g=g0→R sz (s.μ p))
 |some .dead=>True
 |_=>False

def BAt (s:CS) (p n:Nat) (R:Pl→Prop):Prop:=
 match s.σ[p]? with
 |some (.bytes _ l)=>n≤l.length∧(n=l.length→R (s.μ p))
 |some .dead=>True
 |_=>False
def bcl (l:List UInt8):List Value:=l.map fun b=>Value.int .u8 b.toNat
def BoxOf (s:CS) (p:Nat) (T:TypeId) (n:Nat):Prop:=
 match s.σ[p]? with
 |some (.box _)=>s.w.shape? (s.μ p).b=some (T,n)
 |some .gone=>True
 |_=>False

inductive V (s:CS):AV→Value→Prop
 |nilT (p T n) (h:BoxOf s p T n):V s (.nilT p T n) (.pointer none)
 |any (v):V s .any v
 |bool (b):V s (.bool b) (.bool b)
 |int (k n):V s (.int k n) (.int k n)
 |str (x):V s (.str x) (.string x)
 |nilp:V s .nilp (.pointer none)
 |ptr (p off o) (h:s.σ[p]? =some o) (hb:o.isBox=true):V s (.ptr p off) (.pointer (some ⟨(s.μ p).b,off,none⟩))
 |pel (p g i v) (h1:v.oneCell'=true) (h:ArrAt s p g fun _ m=>v= .pointer (some ⟨m.b,m.base+i,none⟩)):V s (.pel p g i) v
 |pp (cs:List AV) (b off:Nat) (vs:List Value) (hok:s.ok b) (hl:vs.length=cs.length) (hc:∀ (i:Nat) (v:Value),vs[i]? =some v→s.w.cell? ⟨b,off+i,none⟩=some v)
   (hv:∀ (i:Nat) (c:AV) (v:Value),cs[i]? =some c→vs[i]? =some v→V s c v):V s (.pp cs) (.pointer (some ⟨b,off,none⟩))
 |nils:V s .nils (.slice none 0 0)
 |sl (full:Bool) (sz:Nat) (es:List (List AV)) (b off cap:Nat) (vs:List Value) (hok:es=[]∨s.ok b) (hsz:∀ e∈es,e.length=sz) (hl:vs.length=es.flatten.length)
   (hc:∀ (i:Nat) (v:Value),vs[i]? =some v→s.w.cell? ⟨b,off+i,none⟩=some v)
   (hv:∀ (i:Nat) (c:AV) (v:Value),es.flatten[i]? =some c→vs[i]? =some v→V s c v) (hcap:es.length≤cap) (hf:full=true→cap=es.length):
   V s (.sl full sz es) (.slice (some ⟨b,off,none⟩) es.length cap)
 |sl0 (full sz) (ad:Option Addr):V s (.sl full sz []) (.slice ad 0 0)
 |arr (p g sz off len v) (h1:v.oneCell'=true) (h:ArrAt s p g fun sz' m=>sz'=sz∧((∃ ad,v= .slice ad 0 0∧len=0)∨
    ∃ cap,v= .slice (some ⟨m.b,m.base+off * sz,none⟩) len cap∧len≤cap∧m.base+(off+cap) * sz≤m.tot)):V s (.arr p g sz off len) v
 |arrC (p g sz off len cap v) (h1:v.oneCell'=true) (h:ArrAt s p g fun sz' m=>sz'=sz∧v= .slice (some ⟨m.b,m.base+off * sz,none⟩) len cap∧len≤cap∧m.base+(off+cap) * sz≤m.tot):V s (.arrC p g sz off len cap) v
 |bts (p n v) (h1:v.oneCell'=true) (h:BAt s p n fun m=>(v= .slice none 0 0∧n=0)∨∃ cap,v= .slice (some ⟨m.b,0,none⟩) n cap∧n≤cap∧cap≤m.tot∧cap ≠ 0):V s (.bts p n) v
 |btp (p n v) (h1:v.oneCell'=true) (h:BAt s p n fun m=>∃ ad,v= .pointer ad∧(n ≠ 0→m.tot ≠ 0∧ad=some ⟨m.b,0,none⟩)):V s (.btp p n) v
 |nilm:V s .nilm (.map none)
 |mapv (p l) (h:s.σ[p]? =some (.map l)):V s (.mapv p) (.map (some (s.μ p).b))
 |func (fn:Fn) (f c:List AV) (vf vc:List Value) (hf:vf.length=f.length) (hc:vc.length=c.length) (h1:∀ (i:Nat) (a:AV) (v:Value),f[i]? =some a→vf[i]? =some v→V s a v)
   (h2:∀ (i:Nat) (a:AV) (v:Value),c[i]? =some a→vc[i]? =some v→V s a v):V s (.func fn f c) (.func fn vf.toArray vc.toArray)
 |nilf:V s .nilf .nilFunc
 |iface (T a v) (h:V s a v):V s (.iface T a) (.iface T v)
 |nili:V s .nili .nilIface
 |agg (cs:List AV) (vs:List Value) (hl:vs.length=cs.length) (hv:∀ (i:Nat) (c:AV) (v:Value),cs[i]? =some c→vs[i]? =some v→V s c v):V s (.agg cs) (.agg vs.toArray)
 |tup (cs:List AV) (vs:List Value) (hl:vs.length=cs.length) (hv:∀ (i:Nat) (c:AV) (v:Value),cs[i]? =some c→vs[i]? =some v→V s c v):V s (.tup cs) (.tuple vs.toArray)

def PW (s:CS) (cs:List AV) (vs:List Value):Prop:=
 vs.length=cs.length∧∀ (i:Nat) (c:AV) (v:Value),cs[i]? =some c→vs[i]? =some v→V s c v

def ORep (s:CS) (p:Nat):AO→Prop
 | .box cs=>¬s.ok (s.μ p).b∧∃ vs T,s.w.heap[(s.μ p).b]? =some (.cells (List.toArray vs) T (0,0))∧PW s cs vs
 | .arr _ _ cs=>((s.μ p).tot=0∧cs=[])∨((s.μ p).tot ≠ 0∧¬s.ok (s.μ p).b∧∃ vs T,s.w.heap[(s.μ p).b]? =some (.cells (List.toArray vs) T (0,0))∧
   vs.length=(s.μ p).tot∧(s.μ p).base+cs.length≤(s.μ p).tot∧PW s cs ((vs.drop (s.μ p).base).take cs.length))
 | .bytes T l=>((s.μ p).tot=0∧l=[])∨((s.μ p).tot ≠ 0∧¬s.ok (s.μ p).b∧∃ vs,s.w.heap[(s.μ p).b]? =some (.cells (List.toArray vs) T (0,0))∧
   vs.length=(s.μ p).tot∧l.length≤(s.μ p).tot∧vs.take l.length=bcl l)
 | .map l=>¬s.ok (s.μ p).b∧∃ es clock,s.w.heap[(s.μ p).b]? =some (.map (List.toArray es) clock)∧PW s (ZH l) (ZH (es.map fun e=>(e.key,e.val)))
 |_=>True

class GLay where
 f:Nat→Option Obj
variable [GLay]

structure Good (s:CS):Prop where
 okb:∀ b,s.ok b→b < s.w.heap.size
 obj:∀ p o,s.σ[p]? =some o→ORep s p o
 inj:∀ p q,p ≠ q→s.live p→s.live q→(s.μ p).b ≠ (s.μ q).b
 glob:∀ b o,GLay.f b=some o→s.ok b∧s.w.heap[b]? =some o

inductive OLe:AO→AO→Prop
 |box (cs cs') (h:cs.length=cs'.length):OLe (.box cs) (.box cs')
 |boxGone (cs):OLe (.box cs) .gone
 |gone:OLe .gone .gone
 |arr (sz g cs g' cs') (h:g≤g') (hl:g=g'→cs.length=cs'.length):OLe (.arr sz g cs) (.arr sz g' cs')
 |arrDead (sz g cs):OLe (.arr sz g cs) .dead
 |bytes (T l l') (h:l.length≤l'.length):OLe (.bytes T l) (.bytes T l')
 |bytesDead (T l):OLe (.bytes T l) .dead
 |dead:OLe .dead .dead
 |map (l l'):OLe (.map l) (.map l')

theorem OLe.refl (o:AO):OLe o o:=by
 cases o with
 |box cs=>exact .box _ _ rfl
 |arr sz g cs=>exact .arr _ _ _ _ _ (Nat.le_refl _) (fun _=>rfl)
 |bytes T l=>exact .bytes _ _ _ (Nat.le_refl _)
 |gone=>exact .gone
 |dead=>exact .dead
 |map l=>exact .map _ _
theorem OLe.trans {a b c:AO} (h:OLe a b) (k:OLe b c):OLe a c:=by
 cases h with
 |box cs cs' h=>cases k with
  |box _ cs'' h'=>exact .box _ _ (h.trans h')
  |boxGone=>exact .boxGone _
 |boxGone=>cases k;exact .boxGone _
 |gone=>cases k;exact .gone
 |bytes T l l' h=>cases k with
  |bytes _ _ l'' h2=>exact .bytes _ _ _ (Nat.le_trans h h2)
  |bytesDead=>exact .bytesDead _ _
 |bytesDead=>cases k;exact .bytesDead _ _
 |arr sz g cs g' cs' h hl=>cases k with
  |arr _ _ _ g'' cs'' h' hl'=>exact .arr _ _ _ _ _ (Nat.le_trans h h') (fun e=>by
    have e1:g=g':=by omega
    have e2:g'=g'':=by omega
    rw [hl e1,hl' e2])
  |arrDead=>exact .arrDead _ _ _
 |arrDead=>cases k;exact .arrDead _ _ _
 |dead=>cases k;exact .dead
 |map l l'=>cases k;exact .map _ _

def Q1z:AO→AO→Prop
 | .box _,_| .gone,_| .map _,_=>True
 | .arr _ g _,.arr _ g' _=>g=g'
 | .bytes _ l,.bytes _ l'=>l.length=l'.length
 |_,_=>False

structure Ext (s s':CS):Prop where
 objs:∀ p o,s.σ[p]? =some o→∃ o',s'.σ[p]? =some o'∧OLe o o'∧(Q1z o o'→s'.μ p=s.μ p)
 ok:∀ b,s.ok b→s'.ok b
 okn:∀ b,s'.ok b→s.ok b∨s.w.heap.size≤b∨∃ p,s.live p∧(s.μ p).b=b
 mun:∀ p,s'.live p→(p < s.σ.length∧s.live p∧(s'.μ p).b=(s.μ p).b)∨s.w.heap.size≤(s'.μ p).b
 frame:∀ b,b < s.w.heap.size→(∀ p,s.live p→(s.μ p).b ≠ b)→s'.w.heap[b]? =s.w.heap[b]?
 size:s.w.heap.size≤s'.w.heap.size
 shp:∀ p cs cs' x,s.σ[p]? =some (.box cs)→s'.σ[p]? =some (.box cs')→s.w.shape? (s.μ p).b=some x→s'.w.shape? (s'.μ p).b=some x
 tape:s'.w.tape=s.w.tape
 os:s'.w.os=s.w.os
 output:s'.w.output=s.w.output

theorem CS.live_lt {s:CS} {p:Nat} (h:s.live p):p < s.σ.length:=by
 unfold CS.live at h
 cases e:s.σ[p]? with
 |none=>simp [e] at h
 |some o=>exact (List.getElem?_eq_some_iff.1 e).1

theorem Good.live_lt {s:CS} (g:Good s) {p:Nat} (h:s.live p):(s.μ p).b < s.w.heap.size∧¬s.ok (s.μ p).b:=by
 unfold CS.live at h
 cases e:s.σ[p]? with
 |none=>simp [e] at h
 |some o=>
  have ho:=g.obj p o e
  cases o with
  |box cs=>
   obtain ⟨h1,vs,T,h2,_⟩:=ho
   exact ⟨(Array.getElem?_eq_some_iff.1 h2).1,h1⟩
  |arr sz gg cs=>
   simp [e] at h
   rcases ho with ⟨h0,_⟩|⟨_,h1,vs,T,h2,_⟩
   ·exact absurd h0 h
   ·exact ⟨(Array.getElem?_eq_some_iff.1 h2).1,h1⟩
  |bytes T l=>
   simp [e] at h
   rcases ho with ⟨h0,_⟩|⟨_,h1,vs,h2,_⟩
   ·exact absurd h0 h
   ·exact ⟨(Array.getElem?_eq_some_iff.1 h2).1,h1⟩
  |gone=>simp [e] at h
  |dead=>simp [e] at h
  |map l=>
   obtain ⟨h1,es,c,h2,_⟩:=ho
   exact ⟨(Array.getElem?_eq_some_iff.1 h2).1,h1⟩

theorem Good.ok_ne {s:CS} (g:Good s) {b:Nat} (h:s.ok b):∀ p,s.live p→(s.μ p).b ≠ b:=
 fun _ hp e=>(g.live_lt hp).2 (e ▸ h)

theorem Ext.keep {s s':CS} (x:Ext s s') (g:Good s) {b:Nat} (h:s.ok b):s'.w.heap[b]? =s.w.heap[b]? :=
 x.frame b (g.okb b h) (g.ok_ne h)

theorem VN {w w':World} {b o:Nat} (h:w'.heap[b]? =w.heap[b]?):w'.cell? ⟨b,o,none⟩=w.cell? ⟨b,o,none⟩:=by
 unfold World.cell?;rw [h]

theorem Ext.refl (s:CS):Ext s s where
 objs:=fun _ o h=>⟨o,h,OLe.refl o,fun _=>rfl⟩
 ok:=fun _ h=>h
 okn:=fun _ h=>.inl h
 mun:=fun _ h=>.inl ⟨CS.live_lt h,h,rfl⟩
 frame:=fun _ _ _=>rfl
 size:=Nat.le_refl _
 shp:=fun _ _ _ _ _ _ h=>h
 tape:=rfl
 os:=rfl
 output:=rfl

theorem Ext.len {s s':CS} (x:Ext s s'):s.σ.length≤s'.σ.length:=by
 rcases Nat.lt_or_ge s'.σ.length s.σ.length with h|h
 ·obtain ⟨o',h',_⟩:=x.objs s'.σ.length s.σ[s'.σ.length] (List.getElem?_eq_getElem h)
  have:=(List.getElem?_eq_some_iff.1 h').1
  omega
 ·exact h

theorem Ext.trans {a b c:CS} (x:Ext a b) (y:Ext b c):Ext a c where
 objs:=fun p o h=>by
  obtain ⟨o1,h1,l1,m1⟩:=x.objs p o h
  obtain ⟨o2,h2,l2,m2⟩:=y.objs p o1 h1
  refine ⟨o2,h2,l1.trans l2,fun hs=>?_⟩
  have s1:Q1z o o1∧Q1z o1 o2:=by
   cases l1 with
   |box=>exact ⟨trivial,trivial⟩
   |boxGone=>exact ⟨trivial,trivial⟩
   |bytes T l l' h1=>cases l2 with
    |bytes _ _ l'' h2=>simp only [Q1z] at *;omega
    |bytesDead=>exact hs.elim
   |bytesDead=>cases l2;exact hs.elim
   |gone=>exact ⟨trivial,trivial⟩
   |map=>cases l2;exact ⟨trivial,trivial⟩
   |dead=>exact hs.elim
   |arrDead=>cases l2;exact hs.elim
   |arr sz g cs g' cs' hle _=>cases l2 with
    |arr _ _ _ g'' cs'' hle' _=>simp only [Q1z] at *;omega
    |arrDead=>exact hs.elim
  rw [m2 s1.2,m1 s1.1]
 ok:=fun b h=>y.ok b (x.ok b h)
 okn:=fun b h=>by
  rcases y.okn b h with h1|h1|⟨p,h1,h2⟩
  ·exact x.okn b h1
  ·exact .inr (.inl (Nat.le_trans x.size h1))
  ·rcases x.mun p h1 with ⟨_,k2,k3⟩|k1
   ·exact .inr (.inr ⟨p,k2,k3.symm.trans h2⟩)
   ·exact .inr (.inl (h2 ▸ k1))
 mun:=fun p h=>by
  rcases y.mun p h with ⟨h1,h2,h3⟩|h1
  ·rcases x.mun p h2 with ⟨k1,k2,k3⟩|k1
   ·exact .inl ⟨k1,k2,h3.trans k3⟩
   ·exact .inr (h3 ▸ k1)
  ·exact .inr (Nat.le_trans x.size h1)
 frame:=fun n hn hp=>by
  have e1:=x.frame n hn hp
  have e2:=y.frame n (Nat.lt_of_lt_of_le hn x.size) (fun p h=>by
   rcases x.mun p h with ⟨_,k2,k3⟩|k1
   ·rw [k3];exact hp p k2
   ·omega)
  rw [e2,e1]
 size:=Nat.le_trans x.size y.size
 shp:=fun p cs cs' z h1 h2 h3=>by
  obtain ⟨o1,e1,l1,_⟩:=x.objs p _ h1
  cases l1 with
  |box _ c1 _=>exact y.shp p c1 cs' z e1 h2 (x.shp p cs c1 z h1 e1 h3)
  |boxGone=>
   obtain ⟨o2,e2,l2,_⟩:=y.objs p _ e1
   cases l2
   rw [h2] at e2;cases e2
 tape:=y.tape.trans x.tape
 os:=y.os.trans x.os
 output:=y.output.trans x.output

theorem ArrAt.mono {s s':CS} {p g:Nat} {R:Nat→Pl→Prop} (h:ArrAt s p g R) (x:Ext s s'):ArrAt s' p g R:=by
 unfold ArrAt at h
 split at h
 ·rename_i sz g0 cs e
  obtain ⟨o',h',l,m⟩:=x.objs p _ e
  unfold ArrAt
  rw [h']
  cases l with
  |arr _ _ _ g' cs' hle hl=>
   refine ⟨Nat.le_trans h.1 hle,fun eg=>?_⟩
   have e0:g=g0:=by omega
   rw [m (show g0=g' by omega)]
   exact h.2 e0
  |arrDead=>trivial
 ·rename_i e
  obtain ⟨o',h',l,m⟩:=x.objs p _ e
  unfold ArrAt
  rw [h']
  cases l
  trivial
 ·exact h.elim

theorem Yy {w w':World} {b:Nat} (h:w'.heap[b]? =w.heap[b]?):w'.shape? b=w.shape? b:=by unfold World.shape?;rw [h]
theorem Yi {w:World} {b:Nat} {x:TypeId×Nat} (h:w.shape? b=some x):b < w.heap.size:=by
 rcases Nat.lt_or_ge b w.heap.size with h1|h1
 ·exact h1
 ·unfold World.shape? at h;rw [Array.getElem?_eq_none h1] at h;cases h
theorem BoxOf.mono {s s':CS} {p:Nat} {T:TypeId} {n:Nat} (h:BoxOf s p T n) (x:Ext s s'):BoxOf s' p T n:=by
 unfold BoxOf at h
 split at h
 ·rename_i cs e
  obtain ⟨o',h',l,m⟩:=x.objs p _ e
  unfold BoxOf;rw [h']
  cases l with
  |box _ c1 _=>exact x.shp p cs c1 _ e h' h
  |boxGone=>trivial
 ·rename_i e
  obtain ⟨o',h',l,m⟩:=x.objs p _ e
  unfold BoxOf;rw [h']
  cases l;trivial
 ·exact h.elim
theorem BAt.mono {s s':CS} {p n:Nat} {R:Pl→Prop} (h:BAt s p n R) (x:Ext s s'):BAt s' p n R:=by
 unfold BAt at h
 split at h
 ·rename_i T l e
  obtain ⟨o',h',k,m⟩:=x.objs p _ e
  unfold BAt;rw [h']
  cases k with
  |bytes _ _ l' hl=>
   refine ⟨Nat.le_trans h.1 hl,fun en=>?_⟩
   rw [m (show l.length=l'.length by omega)]
   exact h.2 (by omega)
  |bytesDead=>trivial
 ·rename_i e
  obtain ⟨o',h',k,m⟩:=x.objs p _ e
  unfold BAt;rw [h']
  cases k;trivial
 ·exact h.elim
theorem V.mono {s s':CS} (g:Good s) (x:Ext s s') {a:AV} {v:Value} (h:V s a v):V s' a v:=by
 induction h with
 |any v=>exact .any v
 |bool b=>exact .bool b
 |int k n=>exact .int k n
 |str x=>exact .str x
 |nilp=>exact .nilp
 |nilT p T n h=>exact .nilT p T n (h.mono x)
 |ptr p off o h hb=>
  obtain ⟨o',h',l,m⟩:=x.objs p o h
  have e:s'.μ p=s.μ p:=m (by cases o<;>simp_all [AO.isBox,Q1z])
  rw [← e]
  refine .ptr p off o' h' ?_
  cases l<;>simp_all [AO.isBox]
 |pel p gg i v h1 h=>exact .pel p gg i v h1 (h.mono x)
 |pp cs b off vs hok hl hc hv ih=>
  exact .pp cs b off vs (x.ok b hok) hl (fun i v e=>(VN (x.keep g hok)).trans (hc i v e)) ih
 |nils=>exact .nils
 |sl full sz es b off cap vs hok hsz hl hc hv hcap hf ih=>
  refine .sl full sz es b off cap vs (hok.imp id (x.ok b)) hsz hl (fun i v e=>?_) ih hcap hf
  rcases hok with rfl|hok
  ·have:vs=[]:=List.eq_nil_of_length_eq_zero (by simpa using hl)
   subst this
   simp at e
  ·exact (VN (x.keep g hok)).trans (hc i v e)
 |sl0 full sz ad=>exact .sl0 full sz ad
 |arr p gg sz off len v h1 h=>exact .arr p gg sz off len v h1 (h.mono x)
 |arrC p gg sz off len cap v h1 h=>exact .arrC p gg sz off len cap v h1 (h.mono x)
 |bts p n v h1 h=>exact .bts p n v h1 (h.mono x)
 |btp p n v h1 h=>exact .btp p n v h1 (h.mono x)
 |nilm=>exact .nilm
 |mapv p l h=>
  obtain ⟨o',h',k,m⟩:=x.objs p _ h
  rw [← m (by simp [Q1z])]
  cases k with
  |map _ l'=>exact .mapv p l' h'
 |func fn f c vf vc hf hc h1 h2 ih1 ih2=>exact .func fn f c vf vc hf hc ih1 ih2
 |nilf=>exact .nilf
 |iface T a v h ih=>exact .iface T a v ih
 |nili=>exact .nili
 |agg cs vs hl hv ih=>exact .agg cs vs hl ih
 |tup cs vs hl hv ih=>exact .tup cs vs hl ih
end Lg
namespace Lg
open Go Go.RowKit
variable [GLay]

section pw
variable {s:CS}
theorem PW.nil:PW s [] []:=⟨rfl,fun i c v h=>by simp at h⟩
theorem PW.cons {c:AV} {v:Value} {cs:List AV} {vs:List Value} (h:V s c v) (k:PW s cs vs):PW s (c :: cs) (v :: vs):=
 ⟨by simp [k.1],fun i c' v' h1 h2=>by
  cases i with
  |zero=>simp at h1 h2;subst h1;subst h2;exact h
  |succ i=>simp at h1 h2;exact k.2 i c' v' h1 h2⟩
theorem PW.inv_cons {c:AV} {cs:List AV} {vs:List Value} (h:PW s (c :: cs) vs):∃ v vs',vs=v :: vs'∧V s c v∧PW s cs vs':=by
 cases vs with
 |nil=>have:=h.1;simp at this
 |cons v vs=>exact ⟨v,vs,rfl,h.2 0 c v rfl rfl,by have:=h.1;simpa using this,fun i c' v' h1 h2=>h.2 (i+1) c' v' (by simpa using h1) (by simpa using h2)⟩
theorem PW.inv_nil {vs:List Value} (h:PW s [] vs):vs=[]:=List.eq_nil_of_length_eq_zero h.1
theorem PW.get {cs:List AV} {vs:List Value} (h:PW s cs vs) {i:Nat} {c:AV} (hc:cs[i]? =some c):∃ v,vs[i]? =some v∧V s c v:=by
 have hi:=(List.getElem?_eq_some_iff.1 hc).1
 have hv:vs[i]? =some (vs[i]'(h.1 ▸ hi)):=List.getElem?_eq_getElem _
 exact ⟨_,hv,h.2 i c _ hc hv⟩
theorem PW.append {cs ds:List AV} {vs us:List Value} (h:PW s cs vs) (k:PW s ds us):PW s (cs++ds) (vs++us):=
 ⟨by simp [h.1,k.1],fun i c v h1 h2=>by
  rw [List.getElem?_append] at h1 h2
  rw [h.1] at h2
  split at h1
  ·rename_i hl
   rw [if_pos hl] at h2
   exact h.2 i c v h1 h2
  ·rename_i hl
   rw [if_neg hl] at h2
   exact k.2 _ c v h1 h2⟩
theorem PW.take {cs:List AV} {vs:List Value} (h:PW s cs vs) (n:Nat):PW s (cs.take n) (vs.take n):=
 ⟨by simp [h.1],fun i c v h1 h2=>by
  rw [List.getElem?_take] at h1 h2
  split at h1
  ·rename_i hl
   rw [if_pos hl] at h2
   exact h.2 i c v h1 h2
  ·simp at h1⟩
theorem PW.drop {cs:List AV} {vs:List Value} (h:PW s cs vs) (n:Nat):PW s (cs.drop n) (vs.drop n):=
 ⟨by simp [h.1],fun i c v h1 h2=>by
  rw [List.getElem?_drop] at h1 h2
  exact h.2 _ c v h1 h2⟩
theorem PW.set {cs:List AV} {vs:List Value} (h:PW s cs vs) (n:Nat) {c:AV} {v:Value} (k:V s c v):PW s (cs.set n c) (vs.set n v):=
 ⟨by simp [h.1],fun i c' v' h1 h2=>by
  rw [List.getElem?_set] at h1 h2
  rw [h.1] at h2
  split at h1
  ·rename_i e
   rw [if_pos e] at h2
   split at h1
   ·rename_i hl
    rw [if_pos hl] at h2
    cases h1;cases h2;exact k
   ·simp at h1
  ·rename_i e
   rw [if_neg e] at h2
   exact h.2 i c' v' h1 h2⟩
theorem PW.mono {s':CS} (g:Good s) (x:Ext s s') {cs:List AV} {vs:List Value} (h:PW s cs vs):PW s' cs vs:=
 ⟨h.1,fun i c v h1 h2=>(h.2 i c v h1 h2).mono g x⟩
end pw

theorem ORep.mono {s s':CS} (g:Good s) (x:Ext s s') {p:Nat} {o:AO} (h:ORep s p o) (hm:s'.μ p=s.μ p) (hok:¬s.ok (s.μ p).b→¬s'.ok (s.μ p).b)
  (hb:∀ ob,s.w.heap[(s.μ p).b]? =some ob→¬s.ok (s.μ p).b→s'.w.heap[(s.μ p).b]? =some ob):ORep s' p o:=by
 cases o with
 |box cs=>
  obtain ⟨h1,vs,T,h2,h3⟩:=h
  exact ⟨by rw [hm];exact hok h1,vs,T,by rw [hm];exact hb _ h2 h1,h3.mono g x⟩
 |arr sz gg cs=>
  rcases h with ⟨h1,h2⟩|⟨h0,h1,vs,T,h2,h3,h4,h5⟩
  ·exact .inl ⟨by rw [hm];exact h1,h2⟩
  ·refine .inr ⟨by rw [hm];exact h0,by rw [hm];exact hok h1,vs,T,by rw [hm];exact hb _ h2 h1,by rw [hm];exact h3,by rw [hm];exact h4,?_⟩
   rw [hm];exact h5.mono g x
 |bytes T l=>
  rcases h with ⟨h1,h2⟩|⟨h0,h1,vs,h2,h3,h4,h5⟩
  ·exact .inl ⟨by rw [hm];exact h1,h2⟩
  ·exact .inr ⟨by rw [hm];exact h0,by rw [hm];exact hok h1,vs,by rw [hm];exact hb _ h2 h1,by rw [hm];exact h3,by rw [hm];exact h4,h5⟩
 |gone=>trivial
 |dead=>trivial
 |map l=>
  obtain ⟨h1,es,c,h2,h3⟩:=h
  exact ⟨by rw [hm];exact hok h1,es,c,by rw [hm];exact hb _ h2 h1,h3.mono g x⟩
theorem ORep.idle {s s':CS} {p:Nat} {o:AO} (hm:s'.μ p=s.μ p) (ho:s.σ[p]? =some o) (h:ORep s p o) (hl:¬s.live p):ORep s' p o:=by
 unfold CS.live at hl;rw [ho] at hl
 cases o with
 |box cs=>exact absurd trivial hl
 |arr sz gg cs=>
  rcases h with ⟨h1,h2⟩|⟨h0,_⟩
  ·exact .inl ⟨by rw [hm];exact h1,h2⟩
  ·exact absurd h0 hl
 |bytes T l=>
  rcases h with ⟨h1,h2⟩|⟨h0,_⟩
  ·exact .inl ⟨by rw [hm];exact h1,h2⟩
  ·exact absurd h0 hl
 |gone=>trivial
 |dead=>trivial
 |map l=>exact absurd trivial hl
theorem ORep.keep {s s':CS} (g:Good s) (x:Ext s s') {q:Nat} {r:AO} (hr:s.σ[q]? =some r) (hm:s'.μ q=s.μ q) (hok:s.live q→¬s'.ok (s.μ q).b) (hb:s.live q→s'.w.heap[(s.μ q).b]? =s.w.heap[(s.μ q).b]?):ORep s' q r:=by
 by_cases hl:s.live q
 ·exact (g.obj q r hr).mono g x hm (fun _=>hok hl) (fun ob h _=>(hb hl).trans h)
 ·exact ORep.idle hm hr (g.obj q r hr) hl

theorem Good.grow {s:CS} (g:Good s) {w':World} (h:Below s.w.heap.size s.w w'):Good { s with w:=w'}∧Ext s { s with w:=w'}:=by
 have x:Ext s { s with w:=w'}:={
  objs:=fun _ o h=>⟨o,h,OLe.refl o,fun _=>rfl⟩
  ok:=fun _ h=>h
  okn:=fun _ h=>.inl h
  mun:=fun _ h=>.inl ⟨CS.live_lt (s:=s) h,h,rfl⟩
  frame:=fun b hb _=>h.block b hb
  size:=h.size
  shp:=fun p cs cs' z h1 _ h3=>(Yy (h.block _ (Yi h3))).trans h3
  tape:=h.tape
  os:=h.os
  output:=h.output}
 refine ⟨⟨fun b hb=>Nat.lt_of_lt_of_le (g.okb b hb) h.size,fun p o ho=>?_,fun p q hpq hp hq=>g.inj p q hpq hp hq,fun b o ho=>?_⟩,x⟩
 ·refine (g.obj p o ho).mono g x rfl id fun ob hb _=>?_
  show w'.heap[_]? =_
  rw [h.block _ (Array.getElem?_eq_some_iff.1 hb).1,hb]
 ·obtain ⟨h1,h2⟩:=g.glob b o ho
  exact ⟨h1,(h.block b (g.okb b h1)).trans h2⟩

theorem ZI (w:World) (o:Obj) (b:Nat):(w.alloc o).heap[b]? =if b=w.heap.size then some o else w.heap[b]? :=by
 show (w.heap.push o)[b]? =_
 rw [Array.getElem?_push]
theorem Yd (w:World) (o:Obj):(w.alloc o).heap.size=w.heap.size+1:=by show (w.heap.push o).size=_;simp

theorem Good.box {s:CS} (g:Good s) {cs:List AV} {vs:List Value} (h:PW s cs vs) (T:TypeId):
  ∃ s',s'.σ=s.σ++[.box cs]∧s'.w=s.w.alloc (.cells vs.toArray T (0,0))∧Good s'∧Ext s s'∧
   V s' (.ptr s.σ.length 0) (.pointer (some ⟨s.w.heap.size,0,none⟩)):=by
 let s':CS:={ σ:=s.σ++[.box cs],μ:=fun p=>if p=s.σ.length then ⟨s.w.heap.size,0,0⟩ else s.μ p,ok:=s.ok,w:=s.w.alloc (.cells vs.toArray T (0,0))}
 have hlt:∀ {p:Nat} {o:AO},s.σ[p]? =some o→p < s.σ.length:=fun h=>(List.getElem?_eq_some_iff.1 h).1
 have hold:∀ {p:Nat},p < s.σ.length→s'.σ[p]? =s.σ[p]? ∧s'.μ p=s.μ p:=fun {p} h=>
  ⟨by show (s.σ++[_])[p]? =_;rw [List.getElem?_append_left h],by show (if p=_ then _ else _)=_;rw [if_neg (by omega)]⟩
 have hnew:s'.σ[s.σ.length]? =some (.box cs)∧s'.μ s.σ.length=⟨s.w.heap.size,0,0⟩:=⟨by show (s.σ++[_])[_]? =_;simp,by show (if _=_ then _ else _)=_;rw [if_pos rfl]⟩
 have hcase:∀ {p:Nat} {o:AO},s'.σ[p]? =some o→(p < s.σ.length∧s.σ[p]? =some o∧s'.μ p=s.μ p)∨(p=s.σ.length∧o= .box cs):=fun {p o} h=>by
  rcases Nat.lt_trichotomy p s.σ.length with hp|hp|hp
  ·exact .inl ⟨hp,(hold hp).1 ▸ h,(hold hp).2⟩
  ·subst hp
   rw [hnew.1] at h
   exact .inr ⟨rfl,(Option.some.inj h).symm⟩
  ·have:s'.σ[p]? =none:=by show (s.σ++[_])[p]? =_;apply List.getElem?_eq_none;simp;omega
   rw [this] at h;cases h
 have hlive:∀ {p:Nat},s'.live p→(p < s.σ.length∧s.live p∧s'.μ p=s.μ p)∨p=s.σ.length:=fun {p} h=>by
  have hp:=CS.live_lt h
  have hl:s'.σ.length=s.σ.length+1:=by show (s.σ++[_]).length=_;simp
  rcases Nat.lt_or_ge p s.σ.length with h1|h1
  ·refine .inl ⟨h1,?_,(hold h1).2⟩
   unfold CS.live at h ⊢
   rw [(hold h1).1,(hold h1).2] at h
   exact h
  ·exact .inr (by omega)
 have hsz:s'.w.heap.size=s.w.heap.size+1:=Yd _ _
 have hheap:∀ {b:Nat},b < s.w.heap.size→s'.w.heap[b]? =s.w.heap[b]? :=fun {b} hb=>by
  show (s.w.alloc _).heap[b]? =_;rw [ZI,if_neg (by omega)]
 have x:Ext s s':={
  objs:=fun p o h=>⟨o,by rw [(hold (hlt h)).1];exact h,OLe.refl o,fun _=>(hold (hlt h)).2⟩
  ok:=fun _ h=>h
  okn:=fun _ h=>.inl h
  mun:=fun p h=>by
   rcases hlive h with ⟨h1,h2,h3⟩|rfl
   ·exact .inl ⟨h1,h2,by rw [h3]⟩
   ·exact .inr (by rw [hnew.2];exact Nat.le_refl _)
  frame:=fun b hb _=>hheap hb
  size:=by omega
  shp:=fun p cs cs' z h1 _ h3=>by
   rw [(hold (hlt h1)).2];exact (Yy (hheap (Yi h3))).trans h3
  tape:=rfl
  os:=rfl
  output:=rfl}
 refine ⟨s',rfl,rfl,⟨fun b hb=>Nat.lt_of_lt_of_le (g.okb b hb) x.size,fun p o ho=>?_,fun p q hpq hp hq=>?_,fun b o ho=>?_⟩,x,?_⟩
 ·rcases hcase ho with ⟨h1,h2,h3⟩|⟨rfl,rfl⟩
  ·exact (g.obj p o h2).mono g x h3 id fun ob hb _=>(hheap (Array.getElem?_eq_some_iff.1 hb).1).trans hb
  ·refine ⟨?_,vs,T,?_,h.mono g x⟩
   ·rw [hnew.2];exact fun hk=>absurd (g.okb _ hk) (by simp)
   ·rw [hnew.2];show (s.w.alloc _).heap[_]? =_;rw [ZI,if_pos rfl]
 ·rcases hlive hp with ⟨p1,p2,p3⟩|rfl<;>rcases hlive hq with ⟨q1,q2,q3⟩|rfl
  ·rw [p3,q3];exact g.inj p q hpq p2 q2
  ·rw [p3,hnew.2];have:=(g.live_lt p2).1;show _ ≠ s.w.heap.size;omega
  ·rw [q3,hnew.2];have:=(g.live_lt q2).1;show s.w.heap.size ≠ _;omega
  ·exact absurd rfl hpq
 ·obtain ⟨h1,h2⟩:=g.glob b o ho
  exact ⟨h1,(hheap (g.okb b h1)).trans h2⟩
 ·have:=V.ptr (s:=s') s.σ.length 0 (.box cs) hnew.1 rfl
  rw [hnew.2] at this
  exact this

theorem Good.row {s:CS} (g:Good s) (vs:List Value) (T:TypeId):
  ∃ s',s'.σ=s.σ∧s'.w=s.w.alloc (.cells vs.toArray T (0,0))∧Good s'∧Ext s s'∧s'.ok s.w.heap.size:=by
 let s':CS:={ s with ok:=fun b=>s.ok b∨b=s.w.heap.size,w:=s.w.alloc (.cells vs.toArray T (0,0))}
 have hheap:∀ {b:Nat},b < s.w.heap.size→s'.w.heap[b]? =s.w.heap[b]? :=fun {b} hb=>by
  show (s.w.alloc _).heap[b]? =_;rw [ZI,if_neg (by omega)]
 have hsz:s'.w.heap.size=s.w.heap.size+1:=Yd _ _
 have x:Ext s s':={
  objs:=fun _ o h=>⟨o,h,OLe.refl o,fun _=>rfl⟩
  ok:=fun _ h=>.inl h
  okn:=fun _ h=>h.elim .inl fun e=>.inr (.inl (Nat.le_of_eq e.symm))
  mun:=fun _ h=>.inl ⟨CS.live_lt (s:=s) h,h,rfl⟩
  frame:=fun b hb _=>hheap hb
  size:=by omega
  shp:=fun p cs cs' z h1 _ h3=>(Yy (hheap (Yi h3))).trans h3
  tape:=rfl
  os:=rfl
  output:=rfl}
 refine ⟨s',rfl,rfl,⟨fun b hb=>?_,fun p o ho=>?_,fun p q hpq hp hq=>g.inj p q hpq hp hq,fun b o ho=>?_⟩,x,.inr rfl⟩
 ·rcases hb with hb|rfl
  ·exact Nat.lt_of_lt_of_le (g.okb b hb) x.size
  ·omega
 ·exact ORep.keep g x ho rfl (fun hl hk=>hk.elim (g.live_lt hl).2 (fun e=>by have:=(g.live_lt hl).1;omega)) (fun hl=>hheap (g.live_lt hl).1)
 ·obtain ⟨h1,h2⟩:=g.glob b o ho
  exact ⟨.inl h1,(hheap (g.okb b h1)).trans h2⟩
end Lg
namespace Lg
open Go Go.RowKit
variable [GLay]

def RepW (s:CS) (m:Pl) (vs:List Value) (T:TypeId):AO→Prop
 | .box cs=>PW s cs vs
 | .arr _ _ cs=>m.tot ≠ 0∧vs.length=m.tot∧m.base+cs.length≤m.tot∧PW s cs ((vs.drop m.base).take cs.length)
 | .bytes T' l=>m.tot ≠ 0∧vs.length=m.tot∧l.length≤m.tot∧vs.take l.length=bcl l∧T=T'
 |_=>False
def AO.isBytes:AO→Bool
 | .bytes _ _=>true
 |_=>false
theorem RepW.any {s:CS} {m:Pl} {vs:List Value} {T T':TypeId} {o:AO} (h:RepW s m vs T o) (hb:o.isBytes=false):RepW s m vs T' o:=by
 cases o with
 |bytes=>cases hb
 |_=>exact h

def AO.isMap:AO→Bool
 | .map _=>true
 |_=>false
theorem Good.rep {s:CS} (g:Good s) {p:Nat} {o:AO} (h:s.σ[p]? =some o) (hl:s.live p) (hnm:o.isMap=false:=by rfl):
  ¬s.ok (s.μ p).b∧∃ vs T,s.w.heap[(s.μ p).b]? =some (.cells (List.toArray vs) T (0,0))∧RepW s (s.μ p) vs T o:=by
 have ho:=g.obj p o h
 unfold CS.live at hl
 rw [h] at hl
 cases o with
 |box cs=>exact ho
 |arr sz gg cs=>
  rcases ho with ⟨h0,_⟩|⟨h0,h1,vs,T,h2,h3,h4,h5⟩
  ·exact absurd h0 hl
  ·exact ⟨h1,vs,T,h2,h0,h3,h4,h5⟩
 |bytes T l=>
  rcases ho with ⟨h0,_⟩|⟨h0,h1,vs,h2,h3,h4,h5⟩
  ·exact absurd h0 hl
  ·exact ⟨h1,vs,T,h2,h0,h3,h4,h5,rfl⟩
 |gone=>exact hl.elim
 |dead=>exact hl.elim
 |map l=>cases hnm

theorem RepW.orep {s:CS} {p:Nat} {o:AO} {vs:List Value} {T:TypeId} (h1:¬s.ok (s.μ p).b) (h2:s.w.heap[(s.μ p).b]? =some (.cells vs.toArray T (0,0)))
  (h:RepW s (s.μ p) vs T o):ORep s p o:=by
 cases o with
 |box cs=>exact ⟨h1,vs,T,h2,h⟩
 |arr sz gg cs=>exact .inr ⟨h.1,h1,vs,T,h2,h.2⟩
 |bytes T' l=>
  obtain ⟨a1,a2,a3,a4,rfl⟩:=h
  exact .inr ⟨a1,h1,vs,h2,a2,a3,a4⟩
 |gone=>trivial
 |dead=>trivial
 |map l=>exact h.elim

theorem RepW.mono {s s':CS} (g:Good s) (x:Ext s s') {m:Pl} {vs:List Value} {T:TypeId} {o:AO} (h:RepW s m vs T o):RepW s' m vs T o:=by
 cases o with
 |box cs=>exact PW.mono g x h
 |arr sz gg cs=>exact ⟨h.1,h.2.1,h.2.2.1,PW.mono g x h.2.2.2⟩
 |bytes T l=>exact h
 |gone=>exact h
 |dead=>exact h
 |map l=>exact h

theorem Good.setObj {s:CS} (g:Good s) {p:Nat} {o o':AO} (ho:s.σ[p]? =some o) (hp:s.live p) (hle:OLe o o') (hst:Q1z o o') {vs:List Value}
  (h0:RepW s (s.μ p) vs 0 o') (hnb:o'.isBytes=false:=by rfl):∃ s',s'.σ=s.σ.set p o'∧s'.w=s.w.setRow (s.μ p).b vs.toArray∧Good s'∧Ext s s'∧s'.μ=s.μ∧s'.ok=s.ok:=by
 obtain ⟨hnok,us,T,hb,_⟩:=g.rep ho hp (by cases hle<;>first|rfl|exact h0.elim)
 have h:RepW s (s.μ p) vs T o':=h0.any hnb
 have hlt:p < s.σ.length:=(List.getElem?_eq_some_iff.1 ho).1
 let s':CS:={ s with σ:=s.σ.set p o',w:=s.w.setRow (s.μ p).b vs.toArray}
 have hother:∀ {q:Nat},q ≠ p→s'.σ[q]? =s.σ[q]? :=fun {q} hq=>by
  show (s.σ.set p o')[q]? =_;rw [List.getElem?_set,if_neg (fun e=>hq e.symm)]
 have hthis:s'.σ[p]? =some o':=by show (s.σ.set p o')[p]? =_;simp [hlt]
 have hlive':∀ {q:Nat},s'.live q→s.live q:=fun {q} hq=>by
  by_cases e:q=p
  ·subst e;exact hp
  ·unfold CS.live at hq ⊢;rw [hother e] at hq;exact hq
 have x:Ext s s':={
  objs:=fun q r hr=>by
   by_cases e:q=p
   ·subst e
    rw [ho] at hr;cases hr
    exact ⟨o',hthis,hle,fun _=>rfl⟩
   ·exact ⟨r,by rw [hother e];exact hr,OLe.refl r,fun _=>rfl⟩
  ok:=fun _ h=>h
  okn:=fun _ h=>.inl h
  mun:=fun q hq=>.inl ⟨CS.live_lt (hlive' hq),hlive' hq,rfl⟩
  frame:=fun b _ hne=>setRow_other _ _ _ _ (fun e=>hne p hp e.symm)
  size:=by show _≤(s.w.setRow _ _).heap.size;simp
  shp:=fun q cs cs' z h1 h2 h3=>by
   show (s.w.setRow _ _).shape? (s.μ q).b=some z
   by_cases e:q=p
   ·subst e
    obtain ⟨_,vs0,T0,hb0,hp0⟩:=g.obj q _ h1
    rw [hthis] at h2
    cases h2
    rw [ho] at h1
    cases h1
    have hl:cs.length=cs'.length:=by cases hle;assumption
    have hv:vs.length=cs'.length:=h.1
    unfold World.shape? at h3 ⊢
    rw [hb0] at h3
    rw [setRow_heap _ _ _ _ _ _ hb0]
    simp only [Option.some.injEq] at h3 ⊢
    rw [← h3]
    congr 1
    rw [List.size_toArray,List.size_toArray,hv,hp0.1,hl]
   ·have hq:s.live q:=by unfold CS.live;rw [h1];trivial
    exact (Yy (setRow_other _ _ _ _ (fun e2=>g.inj q p e hq hp e2))).trans h3
  tape:=rfl
  os:=rfl
  output:=rfl}
 refine ⟨s',rfl,rfl,⟨fun b hb=>Nat.lt_of_lt_of_le (g.okb b hb) x.size,fun q r hr=>?_,fun q q' hne h1 h2=>g.inj q q' hne (hlive' h1) (hlive' h2),fun b r hr=>?_⟩,x,rfl,rfl⟩
 ·by_cases e:q=p
  ·subst e
   rw [hthis] at hr;cases hr
   exact RepW.orep (T:=T) (vs:=vs) hnok (setRow_heap _ _ _ _ _ _ hb) (h.mono g x)
  ·have hr':s.σ[q]? =some r:=by rw [← hother e];exact hr
   exact ORep.keep g x hr' rfl (fun hq=>(g.live_lt hq).2) (fun hq=>setRow_other _ _ _ _ (g.inj q p e hq hp))
 ·obtain ⟨h1,h2⟩:=g.glob b r hr
  exact ⟨h1,(setRow_other _ _ _ _ (fun e:b=(s.μ p).b=>hnok (e ▸ h1))).trans h2⟩

theorem Good.freeze {s:CS} (g:Good s) {p:Nat} {o o':AO} (ho:s.σ[p]? =some o) (hp:s.live p) (h':(o.isBox=true∧o'= .gone)∨(o.isBox=false∧o'= .dead)) (hnm:o.isMap=false:=by rfl):
  ∃ s',s'.σ=s.σ.set p o'∧s'.w=s.w∧Good s'∧Ext s s'∧s'.ok (s.μ p).b∧s'.μ=s.μ:=by
 have hlt:p < s.σ.length:=(List.getElem?_eq_some_iff.1 ho).1
 have hle:OLe o o':=by
  unfold CS.live at hp;rw [ho] at hp
  rcases h' with ⟨h1,rfl⟩|⟨h1,rfl⟩<;>cases o<;>simp_all [AO.isBox,AO.isMap]
  ·exact .boxGone _
  ·exact .arrDead _ _ _
  ·exact .bytesDead _ _
 let s':CS:={ s with σ:=s.σ.set p o',ok:=fun b=>s.ok b∨b=(s.μ p).b}
 have hother:∀ {q:Nat},q ≠ p→s'.σ[q]? =s.σ[q]? :=fun {q} hq=>by
  show (s.σ.set p o')[q]? =_;rw [List.getElem?_set,if_neg (fun e=>hq e.symm)]
 have hthis:s'.σ[p]? =some o':=by show (s.σ.set p o')[p]? =_;simp [hlt]
 have hlive':∀ {q:Nat},s'.live q→s.live q∧q ≠ p:=fun {q} hq=>by
  by_cases e:q=p
  ·subst e
   unfold CS.live at hq
   rw [hthis] at hq
   rcases h' with ⟨_,rfl⟩|⟨_,rfl⟩<;>exact hq.elim
  ·unfold CS.live at hq ⊢;rw [hother e] at hq;exact ⟨hq,e⟩
 have x:Ext s s':={
  objs:=fun q r hr=>by
   by_cases e:q=p
   ·subst e
    rw [ho] at hr;cases hr
    exact ⟨o',hthis,hle,fun _=>rfl⟩
   ·exact ⟨r,by rw [hother e];exact hr,OLe.refl r,fun _=>rfl⟩
  ok:=fun _ h=>.inl h
  okn:=fun _ h=>h.elim .inl fun e=>.inr (.inr ⟨p,hp,e.symm⟩)
  mun:=fun q hq=>.inl ⟨CS.live_lt (hlive' hq).1,(hlive' hq).1,rfl⟩
  frame:=fun b _ _=>rfl
  size:=Nat.le_refl _
  shp:=fun _ _ _ _ _ _ h=>h
  tape:=rfl
  os:=rfl
  output:=rfl}
 refine ⟨s',rfl,rfl,⟨fun b hb=>?_,fun q r hr=>?_,fun q q' hne h1 h2=>g.inj q q' hne (hlive' h1).1 (hlive' h2).1,fun b r hr=>?_⟩,x,.inr rfl,rfl⟩
 ·rcases hb with hb|rfl
  ·exact g.okb b hb
  ·exact (g.live_lt hp).1
 ·by_cases e:q=p
  ·subst e
   rw [hthis] at hr;cases hr
   rcases h' with ⟨_,rfl⟩|⟨_,rfl⟩<;>trivial
  ·have hr':s.σ[q]? =some r:=by rw [← hother e];exact hr
   exact ORep.keep g x hr' rfl (fun hq hk=>hk.elim (g.live_lt hq).2 (g.inj q p e hq hp)) (fun _=>rfl)
 ·obtain ⟨h1,h2⟩:=g.glob b r hr
  exact ⟨.inl h1,h2⟩

theorem Good.kill {s:CS} (g:Good s) {p sz gg:Nat} {cs:List AV} (ho:s.σ[p]? =some (.arr sz gg cs)) (hp:¬s.live p):
  ∃ s',s'.σ=s.σ.set p .dead∧s'.w=s.w∧Good s'∧Ext s s':=by
 have hlt:p < s.σ.length:=(List.getElem?_eq_some_iff.1 ho).1
 let s':CS:={ s with σ:=s.σ.set p .dead}
 have hother:∀ {q:Nat},q ≠ p→s'.σ[q]? =s.σ[q]? :=fun {q} hq=>by
  show (s.σ.set p _)[q]? =_;rw [List.getElem?_set,if_neg (fun e=>hq e.symm)]
 have hthis:s'.σ[p]? =some .dead:=by show (s.σ.set p _)[p]? =_;simp [hlt]
 have hlive':∀ {q:Nat},s'.live q→s.live q∧q ≠ p:=fun {q} hq=>by
  by_cases e:q=p
  ·subst e
   unfold CS.live at hq
   rw [hthis] at hq
   exact hq.elim
  ·unfold CS.live at hq ⊢;rw [hother e] at hq;exact ⟨hq,e⟩
 have x:Ext s s':={
  objs:=fun q r hr=>by
   by_cases e:q=p
   ·subst e
    rw [ho] at hr;cases hr
    exact ⟨.dead,hthis,.arrDead _ _ _,fun h=>h.elim⟩
   ·exact ⟨r,by rw [hother e];exact hr,OLe.refl r,fun _=>rfl⟩
  ok:=fun _ h=>h
  okn:=fun _ h=>.inl h
  mun:=fun q hq=>.inl ⟨CS.live_lt (hlive' hq).1,(hlive' hq).1,rfl⟩
  frame:=fun b _ _=>rfl
  size:=Nat.le_refl _
  shp:=fun _ _ _ _ _ _ h=>h
  tape:=rfl
  os:=rfl
  output:=rfl}
 refine ⟨s',rfl,rfl,⟨g.okb,fun q r hr=>?_,fun q q' hne h1 h2=>g.inj q q' hne (hlive' h1).1 (hlive' h2).1,g.glob⟩,x⟩
 by_cases e:q=p
 ·subst e
  rw [hthis] at hr;cases hr
  trivial
 ·have hr':s.σ[q]? =some r:=by rw [← hother e];exact hr
  exact (g.obj q r hr').mono g x rfl id fun ob hb _=>hb

theorem V.lt {s:CS} {a:AV} {v:Value} (h:V s a v):a.lt s.σ.length:=by
 have harr:∀ {p g:Nat} {R:Nat→Pl→Prop},ArrAt s p g R→p < s.σ.length:=fun {p g R} h=>by
  unfold ArrAt at h
  cases e:s.σ[p]? with
  |none=>rw [e] at h;exact h.elim
  |some o=>exact (List.getElem?_eq_some_iff.1 e).1
 have hl:∀ {cs:List AV} {vs:List Value},vs.length=cs.length→(∀ (i:Nat) (c:AV) (v:Value),cs[i]? =some c→vs[i]? =some v→c.lt s.σ.length)→AV.ltL s.σ.length cs:=fun {cs vs} hl h=>by
  rw [AV.ltL_iff]
  intro a ha
  obtain ⟨i,hi,rfl⟩:=List.getElem_of_mem ha
  exact h i _ (vs[i]'(by omega)) (List.getElem?_eq_getElem hi) (List.getElem?_eq_getElem _)
 induction h with
 |ptr p off o h hb=>exact (List.getElem?_eq_some_iff.1 h).1
 |mapv p l h=>exact (List.getElem?_eq_some_iff.1 h).1
 |nilT p T n h=>
  unfold BoxOf at h
  cases e:s.σ[p]? with
  |none=>rw [e] at h;exact h.elim
  |some o=>exact (List.getElem?_eq_some_iff.1 e).1
 |pel p g i v h1 h=>exact harr h
 |bts p n v h1 h=>
  unfold BAt at h
  cases e:s.σ[p]? with
  |none=>rw [e] at h;exact h.elim
  |some o=>exact (List.getElem?_eq_some_iff.1 e).1
 |btp p n v h1 h=>
  unfold BAt at h
  cases e:s.σ[p]? with
  |none=>rw [e] at h;exact h.elim
  |some o=>exact (List.getElem?_eq_some_iff.1 e).1
 |arr p g sz off len v h1 h=>exact harr h
 |arrC p g sz off len cap v h1 h=>exact harr h
 |pp cs b off vs hok hl' hc hv ih=>exact hl hl' ih
 |sl full sz es b off cap vs hok hsz hl' hc hv hcap hf ih=>
  have h:=hl hl' ih
  rw [AV.ltL_iff] at h
  show AV.ltLL _ es
  rw [AV.ltLL_iff]
  intro e he
  rw [AV.ltL_iff]
  intro a ha
  exact h a (List.mem_flatten.2 ⟨e,he,ha⟩)
 |func fn f c vf vc hf hc h1 h2 ih1 ih2=>exact ⟨hl hf ih1,hl hc ih2⟩
 |iface T a v h ih=>exact ih
 |agg cs vs hl' hv ih=>exact hl hl' ih
 |tup cs vs hl' hv ih=>exact hl hl' ih
 |_=>trivial

def CS.cut (s:CS) (n:Nat):CS:={ s with σ:=s.σ.take n}

theorem V.cut {s:CS} {n:Nat} {a:AV} {v:Value} (h:V s a v) (ha:a.lt n):V (s.cut n) a v:=by
 have hget:∀ {p:Nat},p < n→(s.cut n).σ[p]? =s.σ[p]? :=fun {p} hp=>by show (s.σ.take n)[p]? =_;rw [List.getElem?_take,if_pos hp]
 have harr:∀ {p g:Nat} {R:Nat→Pl→Prop},p < n→ArrAt s p g R→ArrAt (s.cut n) p g R:=fun {p g R} hp h=>by
  unfold ArrAt at h ⊢;rw [hget hp];exact h
 have hm:∀ {cs:List AV} {i:Nat} {c:AV},AV.ltL n cs→cs[i]? =some c→c.lt n:=fun {cs i c} h e=>by
  rw [AV.ltL_iff] at h;exact h c (List.mem_of_getElem? e)
 induction h with
 |any v=>exact .any v
 |nilT p T k h=>exact .nilT p T k (by unfold BoxOf at h ⊢;rw [hget (by simpa [AV.lt] using ha)];exact h)
 |bts p k v h1 h=>exact .bts p k v h1 (by unfold BAt at h ⊢;rw [hget (by simpa [AV.lt] using ha)];exact h)
 |btp p k v h1 h=>exact .btp p k v h1 (by unfold BAt at h ⊢;rw [hget (by simpa [AV.lt] using ha)];exact h)
 |bool b=>exact .bool b
 |int k n=>exact .int k n
 |str x=>exact .str x
 |nilp=>exact .nilp
 |ptr p off o h hb=>exact .ptr p off o ((hget ha).trans h) hb
 |pel p g i v h1 h=>exact .pel p g i v h1 (harr ha h)
 |pp cs b off vs hok hl hc hv ih=>exact .pp cs b off vs hok hl hc fun i c v h1 h2=>ih i c v h1 h2 (hm ha h1)
 |nils=>exact .nils
 |sl full sz es b off cap vs hok hsz hl hc hv hcap hf ih=>
  refine .sl full sz es b off cap vs hok hsz hl hc (fun i c v h1 h2=>ih i c v h1 h2 ?_) hcap hf
  have ha':AV.ltLL n es:=ha
  rw [AV.ltLL_iff] at ha'
  obtain ⟨e,he,hce⟩:=List.mem_flatten.1 (List.mem_of_getElem? h1)
  have:=ha' e he
  rw [AV.ltL_iff] at this
  exact this c hce
 |sl0 full sz ad=>exact .sl0 full sz ad
 |arr p g sz off len v h1 h=>exact .arr p g sz off len v h1 (harr ha h)
 |arrC p g sz off len cap v h1 h=>exact .arrC p g sz off len cap v h1 (harr ha h)
 |nilm=>exact .nilm
 |mapv p l h=>exact .mapv p l ((hget ha).trans h)
 |func fn f c vf vc hf hc h1 h2 ih1 ih2=>exact .func fn f c vf vc hf hc (fun i a v e1 e2=>ih1 i a v e1 e2 (hm ha.1 e1)) (fun i a v e1 e2=>ih2 i a v e1 e2 (hm ha.2 e1))
 |nilf=>exact .nilf
 |iface T a v h ih=>exact .iface T a v (ih ha)
 |nili=>exact .nili
 |agg cs vs hl hv ih=>exact .agg cs vs hl fun i c v h1 h2=>ih i c v h1 h2 (hm ha h1)
 |tup cs vs hl hv ih=>exact .tup cs vs hl fun i c v h1 h2=>ih i c v h1 h2 (hm ha h1)

theorem Good.cut {s:CS} (g:Good s) {n:Nat} (h:∀ p o,p < n→s.σ[p]? =some o→AV.ltL n o.cells):Good (s.cut n):=by
 have hget:∀ {p:Nat} {o:AO},(s.cut n).σ[p]? =some o→p < n∧s.σ[p]? =some o:=fun {p o} hp=>by
  change (s.σ.take n)[p]? =_ at hp;rw [List.getElem?_take] at hp
  split at hp
  ·exact ⟨by assumption,hp⟩
  ·cases hp
 have hlive:∀ {p:Nat},(s.cut n).live p→s.live p:=fun {p} hp=>by
  unfold CS.live at hp ⊢
  cases e:(s.cut n).σ[p]? with
  |none=>rw [e] at hp;exact hp.elim
  |some o=>rw [e] at hp;rw [(hget e).2];exact hp
 have hpw:∀ {cs:List AV} {vs:List Value},AV.ltL n cs→PW s cs vs→PW (s.cut n) cs vs:=fun {cs vs} h1 h2=>
  ⟨h2.1,fun i c v e1 e2=>(h2.2 i c v e1 e2).cut (by rw [AV.ltL_iff] at h1;exact h1 c (List.mem_of_getElem? e1))⟩
 refine ⟨g.okb,fun p o ho=>?_,fun p q hne h1 h2=>g.inj p q hne (hlive h1) (hlive h2),g.glob⟩
 obtain ⟨hp,ho'⟩:=hget ho
 have hor:=g.obj p o ho'
 have hc:=h p o hp ho'
 cases o with
 |box cs=>obtain ⟨h1,vs,T,h2,h3⟩:=hor;exact ⟨h1,vs,T,h2,hpw hc h3⟩
 |arr sz gg cs=>
  rcases hor with hor|⟨h0,h1,vs,T,h2,h3,h4,h5⟩
  ·exact .inl hor
  ·exact .inr ⟨h0,h1,vs,T,h2,h3,h4,hpw hc h5⟩
 |bytes T l=>exact hor
 |gone=>trivial
 |dead=>trivial
 |map l=>obtain ⟨h1,es,c,h2,h3⟩:=hor;exact ⟨h1,es,c,h2,hpw hc h3⟩
theorem Ext.cut {s0 s:CS} (x:Ext s0 s):Ext s0 (s.cut s0.σ.length) where
 objs:=fun p o h=>by
  obtain ⟨o',h',r⟩:=x.objs p o h
  exact ⟨o',by show (s.σ.take _)[p]? =_;rw [List.getElem?_take,if_pos (List.getElem?_eq_some_iff.1 h).1];exact h',r⟩
 ok:=x.ok
 okn:=x.okn
 mun:=fun p h=>x.mun p (by
  unfold CS.live at h ⊢
  change (match (s.σ.take s0.σ.length)[p]? with|some (.box _)=>True|some (.arr _ _ _)=>(s.μ p).tot ≠ 0|some (.bytes _ _)=>(s.μ p).tot ≠ 0|some (.map _)=>True|_=>False) at h
  rw [List.getElem?_take] at h
  split at h<;>rename_i e<;>split at e<;>simp_all)
 frame:=x.frame
 size:=x.size
 shp:=fun p cs cs' z h1 h2 h3=>x.shp p cs cs' z h1 (by
  change (s.σ.take _)[p]? =_ at h2
  rw [List.getElem?_take,if_pos (List.getElem?_eq_some_iff.1 h1).1] at h2;exact h2) h3
 tape:=x.tape
 os:=x.os
 output:=x.output
end Lg
namespace Lg
open Go Go.RowKit
variable [GLay]

structure Env where
 D:List (FuncId×List AV):=[]
 l:List (Nat×AV)

def Y7:List (Nat×AV)→Nat→AV
 |[],_=>.any
 |(k,v) :: r,t=>bif Nat.beq k t then v else Y7 r t
def Env.look (e:Env) (t:Nat):AV:=Y7 e.l t
def Env.put (e:Env) (d:Option Nat) (v:AV):Env:=match d with|some d=>{ e with l:=(d,v) :: e.l}|none=>e

def Qx:Value→AV
 | .bool b=>.bool b
 | .int k n=>.int k n
 | .string s=>.str s
 | .pointer none=>.nilp
 | .slice none 0 0=>.nils
 | .map none=>.nilm
 | .nilFunc=>.nilf
 | .nilIface=>.nili
 |_=>.any
def VC:Value→AV
 | .agg cs=>.agg (cs.toList.map Qx)
 |v=>Qx v
def opv (e:Env):Operand→AV
 | .tmp t=>e.look t
 | .const v=>VC v
 | .func f=>.func (.func f) [] []
 | .global _=>.any

theorem Jl (s:CS) (v:Value):V s (Qx v) v:=by
 unfold Qx
 split<;>constructor
theorem Vs (s:CS) (v:Value):V s (VC v) v:=by
 unfold VC
 split
 ·rename_i cs
  have:=V.agg (s:=s) (cs.toList.map Qx) cs.toList (by simp) (fun i c v h1 h2=>by
   rw [List.getElem?_map,h2] at h1
   simp at h1
   subst h1
   exact Jl s v)
  simpa using this
 ·exact Jl s v

def DefOK (s:CS):List (FuncId×List AV)→List Deferred→Prop
 |[],[]=>True
 |(f,l) :: r,d :: r'=>(d.target= .fn (.func f) #[]∧∃ vs:List Value,d.args=vs.toArray∧PW s l vs)∧DefOK s r r'
 |_,_=>False
theorem DefOK.mono {s s':CS} (g:Good s) (x:Ext s s'):∀ {D:List (FuncId×List AV)} {ds:List Deferred},DefOK s D ds→DefOK s' D ds
 |[],[],_=>trivial
 |_ :: _,_ :: _,⟨⟨h1,vs,h2,h3⟩,h4⟩=>⟨⟨h1,vs,h2,h3.mono g x⟩,DefOK.mono g x h4⟩

structure EnvOK (s:CS) (N:Nat) (e:Env) (a:Act):Prop where
 size:a.tmps.size=N
 defers:DefOK s e.D a.defers
 tmps:∀ t,V s (e.look t) (a.eval (.tmp t))
theorem EnvOK.mono {s s':CS} {N:Nat} {e:Env} {a:Act} (g:Good s) (x:Ext s s') (h:EnvOK s N e a):EnvOK s' N e a:=
 ⟨h.size,h.defers.mono g x,fun t=>(h.tmps t).mono g x⟩
theorem EnvOK.eval {s:CS} {N:Nat} {e:Env} {a:Act} (h:EnvOK s N e a) (x:Operand):V s (opv e x) (a.eval x):=by
 cases x with
 |tmp t=>exact h.tmps t
 |const v=>exact Vs s v
 |global g=>exact .any _
 |func f=>
  have:=V.func (s:=s) (.func f) [] [] [] [] rfl rfl (fun i a v h=>by simp at h) (fun i a v h=>by simp at h)
  exact this
theorem EnvOK.put {s:CS} {N:Nat} {e:Env} {a:Act} (h:EnvOK s N e a) (d:Option Nat) {v:AV} {c:Value} (hv:V s v c) (hd:∀ t,d=some t→t < N):EnvOK s N (e.put d v) (a.put d c):=by
 cases d with
 |none=>exact h
 |some d=>
  have hdN:=hd d rfl
  refine ⟨by simp [Act.put,h.size],h.defers,fun t=>?_⟩
  show V s (Y7 ((d,v) :: e.l) t) _
  simp only [Y7,Act.put,Act.eval]
  by_cases e1:d=t
  ·subst e1
   have:(Nat.beq d d)=true:=Nat.beq_refl d
   rw [this]
   have hlt:d < a.tmps.size:=by rw [h.size];exact hdN
   simp [hlt]
   exact hv
  ·have:Nat.beq d t=false:=by
    cases hb:Nat.beq d t with
    |false=>rfl
    |true=>exact absurd (Nat.eq_of_beq_eq_true hb) e1
   rw [this]
   have h2:=h.tmps t
   simp only [Act.eval] at h2
   have e2:(a.tmps.setIfInBounds d c).getD t undef=a.tmps.getD t undef:=by
    simp [Array.getD_eq_getD_getElem?,e1]
   rw [e2]
   exact h2

def AOpR (P:Program) (σ:List AO) (e:Env) (o:Oper) (N X:AV→List AO→Prop):Prop:=
 ∀ (s:CS) (a:Act),s.σ=σ→Good s→(∀ x∈o.op.operands,V s (opv e x) (a.eval x))→∀ (K:Act→World→Prop) (Q:Exit→Act→World→Prop),
  (∀ v cv s',N v s'.σ→Good s'→Ext s s'→V s' v cv→K (a.put o.dst cv) s'.w)→
  (∀ v cv s',X v s'.σ→Good s'→Ext s s'→V s' v cv→Q (.panic [{ v:=cv,recovered:=false}]) a s'.w)→o.wp P a s.w K Q
def AOp (P:Program) (σ:List AO) (e:Env) (o:Oper) (v:AV) (σ':List AO):Prop:=
 AOpR P σ e o (fun v' σ''=>v'=v∧σ''=σ') (fun _ _=>False)

theorem AOpR.mono {P:Program} {σ:List AO} {e:Env} {o:Oper} {N X N' X':AV→List AO→Prop} (h:AOpR P σ e o N X) (hn:∀ v s,N v s→N' v s) (hx:∀ v s,X v s→X' v s):AOpR P σ e o N' X':=
 fun s a hs g hv K Q hk hq=>h s a hs g hv K Q (fun v cv s' hN=>hk v cv s' (hn _ _ hN)) (fun v cv s' hX=>hq v cv s' (hx _ _ hX))

theorem Zn {P:Program} {o:Oper} {a:Act} {w w':World} {K:Act→World→Prop} {Q:Exit→Act→World→Prop} {cv:Value}
  (h:(execOp a.eval o).run P w= .ok (.value cv) w') (hk:K (a.put o.dst cv) w'):o.wp P a w K Q:=by
 unfold Oper.wp;rw [h];exact hk
theorem Uf {P:Program} {o:Oper} {a:Act} {w w':World} {K:Act→World→Prop} {Q:Exit→Act→World→Prop}
  (h:(execOp a.eval o).run P w= .ok .skip w') (hk:K (a.put o.dst undef) w'):o.wp P a w K Q:=by
 unfold Oper.wp;rw [h];exact hk

theorem AOp.of_run {P:Program} {σ:List AO} {e:Env} {o:Oper} {v:AV}
  (h:∀ (s:CS) (a:Act),s.σ=σ→Good s→(∀ x∈o.op.operands,V s (opv e x) (a.eval x))→∃ cv,(execOp a.eval o).run P s.w= .ok (.value cv) s.w∧V s v cv):AOp P σ e o v σ:=
 fun s a hs g hv _ _ hk _=>by
  obtain ⟨cv,h1,h2⟩:=h s a hs g hv
  exact Zn h1 (hk v cv s ⟨rfl,hs⟩ g (Ext.refl s) h2)

theorem V.undef (s:CS):V s (.tup []) undef:=V.tup (s:=s) [] [] rfl (fun i c v h _=>by simp at h)
section inv
variable {s:CS} {c:Value}
theorem V.inv_bool {b:Bool} (h:V s (.bool b) c):c= .bool b:=by cases h;rfl
theorem V.inv_int {k:IntKind} {n:Int} (h:V s (.int k n) c):c= .int k n:=by cases h;rfl
theorem V.inv_str {x:ByteArray} (h:V s (.str x) c):c= .string x:=by cases h;rfl
theorem V.inv_nilp (h:V s .nilp c):c= .pointer none:=by cases h;rfl
theorem V.inv_nili (h:V s .nili c):c= .nilIface:=by cases h;rfl
theorem V.inv_nils (h:V s .nils c):c= .slice none 0 0:=by cases h;rfl
theorem V.inv_iface {T:TypeId} {a:AV} (h:V s (.iface T a) c):∃ v,c= .iface T v∧V s a v:=by cases h;exact ⟨_,rfl,by assumption⟩
theorem V.inv_agg {cs:List AV} (h:V s (.agg cs) c):∃ vs:List Value,c= .agg vs.toArray∧PW s cs vs:=by cases h with|agg _ vs hl hv=>exact ⟨vs,rfl,hl,hv⟩
theorem V.inv_tup {cs:List AV} (h:V s (.tup cs) c):∃ vs:List Value,c= .tuple vs.toArray∧PW s cs vs:=by cases h with|tup _ vs hl hv=>exact ⟨vs,rfl,hl,hv⟩
theorem V.inv_undef (h:V s (.tup []) c):c=Go.undef:=by
 obtain ⟨vs,rfl,hp⟩:=h.inv_tup
 have:vs=[]:=List.eq_nil_of_length_eq_zero hp.1
 subst this;rfl
theorem V.inv_ptr {p off:Nat} (h:V s (.ptr p off) c):c= .pointer (some ⟨(s.μ p).b,off,none⟩):=by cases h;rfl
theorem V.inv_pp {cs:List AV} (h:V s (.pp cs) c):∃ b off vs,c= .pointer (some ⟨b,off,none⟩)∧s.ok b∧(∀ (i:Nat) (v:Value),vs[i]? =some v→s.w.cell? ⟨b,off+i,none⟩=some v)∧PW s cs vs:=by
 cases h with|pp _ b off vs hok hl hc hv=>exact ⟨b,off,vs,rfl,hok,hc,hl,hv⟩
theorem V.inv_func {fn:Fn} {f cp:List AV} (h:V s (.func fn f cp) c):∃ vf vc:List Value,c= .func fn vf.toArray vc.toArray∧PW s f vf∧PW s cp vc:=by
 cases h with|func _ _ _ vf vc hf hc h1 h2=>exact ⟨vf,vc,rfl,⟨hf,h1⟩,⟨hc,h2⟩⟩
theorem V.inv_pel {p g i sz:Nat} {cs:List AV} (h:V s (.pel p g i) c) (hs:s.σ[p]? =some (.arr sz g cs)):c= .pointer (some ⟨(s.μ p).b,(s.μ p).base+i,none⟩):=by
 cases h with|pel _ _ _ _ _ h=>unfold ArrAt at h;rw [hs] at h;exact h.2 rfl
theorem V.inv_arr {p g sz sz' off len:Nat} {cs:List AV} (h:V s (.arr p g sz off len) c) (hs:s.σ[p]? =some (.arr sz' g cs)):
  sz'=sz∧((∃ ad,c= .slice ad 0 0∧len=0)∨∃ cap,c= .slice (some ⟨(s.μ p).b,(s.μ p).base+off * sz,none⟩) len cap∧len≤cap∧(s.μ p).base+(off+cap) * sz≤(s.μ p).tot):=by
 cases h with|arr _ _ _ _ _ _ _ h=>unfold ArrAt at h;rw [hs] at h;exact h.2 rfl
theorem V.inv_arrC {p g sz sz' off len cap:Nat} {cs:List AV} (h:V s (.arrC p g sz off len cap) c) (hs:s.σ[p]? =some (.arr sz' g cs)):
  sz'=sz∧c= .slice (some ⟨(s.μ p).b,(s.μ p).base+off * sz,none⟩) len cap∧len≤cap∧(s.μ p).base+(off+cap) * sz≤(s.μ p).tot:=by
 cases h with|arrC _ _ _ _ _ _ _ _ h=>unfold ArrAt at h;rw [hs] at h;exact h.2 rfl
end inv
end Lg
namespace Lg
open Go Go.RowKit
variable [GLay]

variable {P:Program} {σ:List AO} {e:Env} {o:Oper}

theorem Qac {x:Operand} {v:AV} (ho:o.op= .move x) (hx:opv e x=v):AOp P σ e o v σ:=
 .of_run fun s a _ _ hv=>⟨a.eval x,by simp [execOp,ho],by rw [← hx];exact hv x (by simp [ho,Op.operands])⟩
theorem Q5Q {x:Operand} {v:AV} (ho:o.op= .assign x) (hx:opv e x=v):AOp P σ e o v σ:=
 .of_run fun s a _ _ hv=>⟨a.eval x,by simp [execOp,ho],by rw [← hx];exact hv x (by simp [ho,Op.operands])⟩
theorem Q4v {c x y:Operand} {b:Bool} {v:AV} (ho:o.op= .pick c x y) (hc:opv e c= .bool b) (hv:(if b=true then opv e x else opv e y)=v):AOp P σ e o v σ:=
 .of_run fun s a _ _ h=>by
  have h1:=(hc ▸ h c (by simp [ho,Op.operands])).inv_bool
  refine ⟨if b=true then a.eval x else a.eval y,by simp [execOp,ho,h1,asBool],?_⟩
  rw [← hv]
  cases b
  ·simpa using h y (by simp [ho,Op.operands])
  ·simpa using h x (by simp [ho,Op.operands])
theorem Y2 {op:BinOp} {T T':TypeId} {x y:Operand} {va vb v:AV} (ho:o.op= .binOp op T x y T') (hx:opv e x=va) (hy:opv e y=vb)
  (h:∀ (s:CS) (cx cy:Value),s.σ=σ→Good s→V s va cx→V s vb cy→∃ cv,(binOp op T cx cy).run P s.w= .ok cv s.w∧V s v cv∧(eqGuard op T x y cx cy).run P s.w= .ok () s.w):AOp P σ e o v σ:=
 .of_run fun s a hs g hv=>by
  obtain ⟨cv,h1,h2,h3⟩:=h s (a.eval x) (a.eval y) hs g (hx ▸ hv x (by simp [ho,Op.operands])) (hy ▸ hv y (by simp [ho,Op.operands]))
  exact ⟨cv,by simp [execOp,ho,h3,h1],h2⟩

theorem Q1F (op:BinOp) (T:TypeId) (x y:Operand) (k k':IntKind) (a b:Int) (w:World):(eqGuard op T x y (.int k a) (.int k' b)).run P w= .ok () w:=by
 unfold eqGuard;cases op<;>simp
theorem Q1G (op:BinOp) (T:TypeId) (x y:Operand) (a b:ByteArray) (w:World):(eqGuard op T x y (.string a) (.string b)).run P w= .ok () w:=by
 unfold eqGuard;cases op<;>simp
theorem Wt (op:BinOp) (T:TypeId) (x y:Operand) (a b:Bool) (w:World):(eqGuard op T x y (.bool a) (.bool b)).run P w= .ok () w:=by
 unfold eqGuard;cases op<;>simp
theorem JE (op:BinOp) (T:TypeId) (x y:Operand) (a b:Option Addr) (w:World):(eqGuard op T x y (.pointer a) (.pointer b)).run P w= .ok () w:=by
 unfold eqGuard;cases op<;>simp

theorem Qdu (a b:Int):(a == b)=decide (a=b):=rfl
section ints
variable {T T':TypeId} {x y:Operand} {k:IntKind} {a b:Int}
theorem Js {op:BinOp} {v:AV} {cv:Value} (ho:o.op= .binOp op T x y T') (hx:opv e x= .int k a) (hy:opv e y= .int k b)
  (h:∀ w,(binOp op T (.int k a) (.int k b)).run P w= .ok cv w) (hv:∀ s,V s v cv):AOp P σ e o v σ:=
 Y2 ho hx hy fun s cx cy _ _ h1 h2=>by
  rw [h1.inv_int,h2.inv_int]
  exact ⟨cv,h s.w,hv s,Q1F ..⟩
theorem Qcv (ho:o.op= .binOp .add T x y T') (hx:opv e x= .int k a) (hy:opv e y= .int k b):AOp P σ e o (.int k (k.wrap (a+b))) σ:=
 Js ho hx hy (cv:=.int k (k.wrap (a+b))) (fun w=>by simp [binOp,Op.intArith]) (fun _=>.int _ _)
theorem QcD (ho:o.op= .binOp .sub T x y T') (hx:opv e x= .int k a) (hy:opv e y= .int k b):AOp P σ e o (.int k (k.wrap (a - b))) σ:=
 Js ho hx hy (cv:=.int k (k.wrap (a - b))) (fun w=>by simp [binOp,Op.intArith]) (fun _=>.int _ _)
theorem Qcy (ho:o.op= .binOp .mul T x y T') (hx:opv e x= .int k a) (hy:opv e y= .int k b):AOp P σ e o (.int k (k.wrap (a * b))) σ:=
 Js ho hx hy (cv:=.int k (k.wrap (a * b))) (fun w=>by simp [binOp,Op.intArith]) (fun _=>.int _ _)
theorem Yp {n:Int} (h1: -9223372036854775808≤n) (h2:n≤9223372036854775807):IntKind.i64.wrap n=n:=by
 exact IntWalk.i64_in n ⟨by omega,by omega⟩
theorem Q7M (ho:o.op= .binOp .add T x y T') (hx:opv e x= .int .i64 a) (hy:opv e y= .int .i64 b) (h1: -9223372036854775808≤a+b) (h2:a+b≤9223372036854775807):AOp P σ e o (.int .i64 (a+b)) σ:=by
 have:=Qcv (P:=P) (σ:=σ) ho hx hy;rwa [Yp h1 h2] at this
theorem Q7Z (ho:o.op= .binOp .sub T x y T') (hx:opv e x= .int .i64 a) (hy:opv e y= .int .i64 b) (h1: -9223372036854775808≤a - b) (h2:a - b≤9223372036854775807):AOp P σ e o (.int .i64 (a - b)) σ:=by
 have:=QcD (P:=P) (σ:=σ) ho hx hy;rwa [Yp h1 h2] at this
theorem Q7X (ho:o.op= .binOp .mul T x y T') (hx:opv e x= .int .i64 a) (hy:opv e y= .int .i64 b) (h1: -9223372036854775808≤a * b) (h2:a * b≤9223372036854775807):AOp P σ e o (.int .i64 (a * b)) σ:=by
 have:=Qcy (P:=P) (σ:=σ) ho hx hy;rwa [Yp h1 h2] at this
theorem Q7V (ho:o.op= .binOp .lss T x y T') (hx:opv e x= .int k a) (hy:opv e y= .int k b):AOp P σ e o (.bool (decide (a < b))) σ:=
 Js ho hx hy (cv:=.bool (decide (a < b))) (fun w=>by simp [binOp,Op.intCmp]) (fun _=>.bool _)
theorem Q7T (ho:o.op= .binOp .leq T x y T') (hx:opv e x= .int k a) (hy:opv e y= .int k b):AOp P σ e o (.bool (decide (a≤b))) σ:=
 Js ho hx hy (cv:=.bool (decide (a≤b))) (fun w=>by simp [binOp,Op.intCmp]) (fun _=>.bool _)
theorem Q7R (ho:o.op= .binOp .gtr T x y T') (hx:opv e x= .int k a) (hy:opv e y= .int k b):AOp P σ e o (.bool (decide (b < a))) σ:=
 Js ho hx hy (cv:=.bool (decide (b < a))) (fun w=>by simp [binOp,Op.intCmp]) (fun _=>.bool _)
theorem Qcx (ho:o.op= .binOp .geq T x y T') (hx:opv e x= .int k a) (hy:opv e y= .int k b):AOp P σ e o (.bool (decide (b≤a))) σ:=
 Js ho hx hy (cv:=.bool (decide (b≤a))) (fun w=>by simp [binOp,Op.intCmp]) (fun _=>.bool _)
theorem Q3r (ho:o.op= .binOp .eql T x y T') (hx:opv e x= .int k a) (hy:opv e y= .int k b):AOp P σ e o (.bool (decide (a=b))) σ:=
 Js ho hx hy (cv:=.bool (decide (a=b))) (fun w=>by simp [binOp,Op.intCmp,Qdu]) (fun _=>.bool _)
theorem Q3v (ho:o.op= .binOp .neq T x y T') (hx:opv e x= .int k a) (hy:opv e y= .int k b):AOp P σ e o (.bool (!decide (a=b))) σ:=
 Js ho hx hy (cv:=.bool (!decide (a=b))) (fun w=>by simp [binOp,Op.intCmp,bne,Qdu]) (fun _=>.bool _)
end ints

section strs
variable {T T':TypeId} {x y:Operand} {a b:ByteArray}
theorem W6 {op:BinOp} {v:AV} {cv:Value} (ho:o.op= .binOp op T x y T') (hx:opv e x= .str a) (hy:opv e y= .str b)
  (h:∀ w,(binOp op T (.string a) (.string b)).run P w= .ok cv w) (hv:∀ s,V s v cv):AOp P σ e o v σ:=
 Y2 ho hx hy fun s cx cy _ _ h1 h2=>by
  rw [h1.inv_str,h2.inv_str]
  exact ⟨cv,h s.w,hv s,Q1G ..⟩
theorem Q0M (ho:o.op= .binOp .add T x y T') (hx:opv e x= .str a) (hy:opv e y= .str b) (hl:a.size+b.size≤9223372036854775807):AOp P σ e o (.str (a++b)) σ:=
 W6 ho hx hy (cv:=.string (a++b)) (fun w=>by
  have:¬(((a.size+b.size:Nat):Int) > IntKind.i64.max):=by simp [IntKind.max,IntKind.bits,IntKind.signed];omega
  simp only [binOp,Op.stringOp];rw [if_neg this];simp) (fun _=>.str _)
theorem VZ (a b:ByteArray):(a.toList == b.toList)=decide (a=b):=by
 have h:a.toList=b.toList↔a=b:=by
  constructor
  ·intro h
   have h1:a.data.toList=b.data.toList:=by rwa [ByteArray.toList_eq,ByteArray.toList_eq] at h
   cases a;cases b;congr 1;exact Array.ext' h1
  ·rintro rfl;rfl
 by_cases e:a=b
 ·simp [e]
 ·simp [e,h]
theorem Qaf (ho:o.op= .binOp .eql T x y T') (hx:opv e x= .str a) (hy:opv e y= .str b):AOp P σ e o (.bool (decide (a=b))) σ:=
 W6 ho hx hy (cv:=.bool (decide (a=b))) (fun w=>by simp [binOp,Op.stringOp,VZ]) (fun _=>.bool _)
theorem Q4w (ho:o.op= .binOp .neq T x y T') (hx:opv e x= .str a) (hy:opv e y= .str b):AOp P σ e o (.bool (!decide (a=b))) σ:=
 W6 ho hx hy (cv:=.bool (!decide (a=b))) (fun w=>by simp [binOp,Op.stringOp,VZ]) (fun _=>.bool _)
def blt (a b:ByteArray):Bool:=Op.bytesLess a.toList b.toList
theorem Qaj (ho:o.op= .binOp .lss T x y T') (hx:opv e x= .str a) (hy:opv e y= .str b):AOp P σ e o (.bool (blt a b)) σ:=
 W6 ho hx hy (cv:=.bool (blt a b)) (fun w=>by simp [binOp,Op.stringOp,blt]) (fun _=>.bool _)
theorem Qai (ho:o.op= .binOp .leq T x y T') (hx:opv e x= .str a) (hy:opv e y= .str b):AOp P σ e o (.bool (blt a b || decide (a=b))) σ:=
 W6 ho hx hy (cv:=.bool (blt a b || decide (a=b))) (fun w=>by simp [binOp,Op.stringOp,blt,VZ]) (fun _=>.bool _)
theorem Qah (ho:o.op= .binOp .gtr T x y T') (hx:opv e x= .str a) (hy:opv e y= .str b):AOp P σ e o (.bool (!(blt a b || decide (a=b)))) σ:=
 W6 ho hx hy (cv:=.bool (!(blt a b || decide (a=b)))) (fun w=>by simp [binOp,Op.stringOp,blt,VZ]) (fun _=>.bool _)
theorem Qag (ho:o.op= .binOp .geq T x y T') (hx:opv e x= .str a) (hy:opv e y= .str b):AOp P σ e o (.bool (!blt a b)) σ:=
 W6 ho hx hy (cv:=.bool (!blt a b)) (fun w=>by simp [binOp,Op.stringOp,blt]) (fun _=>.bool _)
end strs

section others
variable {T T':TypeId} {x y:Operand}
theorem Qa2 {a b:Bool} (ho:o.op= .binOp .eql T x y T') (hu:P.underlying T=some .bool) (hx:opv e x= .bool a) (hy:opv e y= .bool b):AOp P σ e o (.bool (a == b)) σ:=
 Y2 ho hx hy fun s cx cy _ _ h1 h2=>by
  rw [h1.inv_bool,h2.inv_bool]
  exact ⟨.bool (a == b),by simp [binOp,run_equal_bool _ _ _ _ hu],.bool _,Wt ..⟩
theorem Qa3 {a b:Bool} (ho:o.op= .binOp .neq T x y T') (hu:P.underlying T=some .bool) (hx:opv e x= .bool a) (hy:opv e y= .bool b):AOp P σ e o (.bool (a != b)) σ:=
 Y2 ho hx hy fun s cx cy _ _ h1 h2=>by
  rw [h1.inv_bool,h2.inv_bool]
  exact ⟨.bool (a != b),by simp [binOp,run_equal_bool _ _ _ _ hu,bne],.bool _,Wt ..⟩
theorem QcB {b:Bool} (ho:o.op= .unOp .not T x) (hx:opv e x= .bool b):AOp P σ e o (.bool (!b)) σ:=
 .of_run fun s a _ _ hv=>by
  have h1:=(hx ▸ hv x (by simp [ho,Op.operands])).inv_bool
  exact ⟨.bool (!b),by simp [execOp,ho,h1,Op.unary],.bool _⟩
theorem QcA {k:IntKind} {n:Int} (ho:o.op= .unOp .neg T x) (hx:opv e x= .int k n):AOp P σ e o (.int k (k.wrap (0 - n))) σ:=
 .of_run fun s a _ _ hv=>by
  have h1:=(hx ▸ hv x (by simp [ho,Op.operands])).inv_int
  exact ⟨.int k (k.wrap (0 - n)),by simp [execOp,ho,h1,Op.unary,Op.intArith],.int _ _⟩
theorem Q3s {i:Nat} {cs:List AV} {v:AV} (ho:o.op= .extract x i) (hx:opv e x= .tup cs) (hv:cs[i]? =some v):AOp P σ e o v σ:=
 .of_run fun s a _ _ h=>by
  obtain ⟨vs,h1,h2⟩:=(hx ▸ h x (by simp [ho,Op.operands])).inv_tup
  obtain ⟨c,h3,h4⟩:=h2.get hv
  exact ⟨c,by simp [execOp,ho,h1,Instr.extract,h3],h4⟩
theorem Q5S {f:Nat} {fs:Array Field} {fd:Field} {cs:List AV} {v:AV} (ho:o.op= .field T x f) (hu:P.underlying T=some (.struct fs)) (hf:fs[f]? =some fd)
  (ha:∀ w,(isAgg fd.type).run P w= .ok false w) (hx:opv e x= .agg cs) (hv:cs[fd.offset]? =some v):AOp P σ e o v σ:=
 .of_run fun s a _ _ h=>by
  obtain ⟨vs,h1,h2⟩:=(hx ▸ h x (by simp [ho,Op.operands])).inv_agg
  obtain ⟨c,h3,h4⟩:=h2.get hv
  exact ⟨c,by simp [execOp,ho,h1,Instr.field,run_underlying hu,hf,asAgg,part,ha,h3],h4⟩
theorem Q5T {f n:Nat} {fs:Array Field} {fd:Field} {cs:List AV} (ho:o.op= .field T x f) (hu:P.underlying T=some (.struct fs)) (hf:fs[f]? =some fd)
  (ha:∀ w,(isAgg fd.type).run P w= .ok true w) (hz:∀ w,(Go.sizeOf fd.type).run P w=Result.ok n w) (hx:opv e x= .agg cs):AOp P σ e o (.agg ((cs.drop fd.offset).take n)) σ:=
 .of_run fun s a _ _ h=>by
  obtain ⟨vs,h1,h2⟩:=(hx ▸ h x (by simp [ho,Op.operands])).inv_agg
  have h3:=(h2.drop fd.offset).take n
  refine ⟨.agg ((vs.drop fd.offset).take n).toArray,?_,.agg _ _ h3.1 h3.2⟩
  simp [execOp,ho,h1,Instr.field,run_underlying hu,hf,asAgg,part,ha,hz,List.extract]
theorem UJ {v:AV} {d:TypeDesc} (ho:o.op= .makeInterface T x) (hu:P.underlying T=some d) (hd:∀ ms,d ≠ .interface ms) (hx:opv e x=v):AOp P σ e o (.iface T v) σ:=
 .of_run fun s a _ _ h=>by
  refine ⟨.iface T (a.eval x),?_,.iface T v _ (hx ▸ h x (by simp [ho,Op.operands]))⟩
  cases d<;>simp_all [execOp,Instr.makeInterface,run_underlying hu]
theorem Q25 {fn:Fn} {f c:Array Operand} {af ac:List AV} (ho:o.op= .makeFunc fn f c) (hf:f.toList.map (opv e)=af) (hc:c.toList.map (opv e)=ac):AOp P σ e o (.func fn af ac) σ:=
 .of_run fun s a _ _ h=>by
  refine ⟨.func fn (f.toList.map a.eval).toArray (c.toList.map a.eval).toArray,by
   have hm:∀ q:Array Operand,q.map a.eval=(q.toList.map a.eval).toArray:=fun q=>by apply Array.ext';simp
   simp [execOp,ho,Instr.makeFunc,hm],?_⟩
  have hp:∀ (l:List Operand),(∀ x∈l,x∈o.op.operands)→PW s (l.map (opv e)) (l.map a.eval):=fun l hl=>by
   induction l with
   |nil=>exact .nil
   |cons x r ih=>exact .cons (h x (hl x (by simp))) (ih fun y hy=>hl y (by simp [hy]))
  have h1:=hp f.toList (fun x hx=>by simp only [ho,Op.operands,Array.mem_append];exact .inl (Array.mem_toList_iff.1 hx))
  have h2:=hp c.toList (fun x hx=>by simp only [ho,Op.operands,Array.mem_append];exact .inr (Array.mem_toList_iff.1 hx))
  rw [hf] at h1;rw [hc] at h2
  exact .func fn af ac _ _ h1.1 h2.1 h1.2 h2.2
end others
end Lg
namespace Lg
open Go Go.RowKit
variable [GLay]

variable {P:Program} {σ:List AO} {e:Env} {o:Oper}

theorem X3 (b off n:Nat):(⟨b,off,none⟩:Addr).add n=⟨b,off+n,none⟩:=by unfold Addr.add;split<;>simp_all

def offv (k:Nat):AV→Option AV
 | .ptr p off=>some (.ptr p (off+k))
 | .pel p g i=>some (.pel p g (i+k))
 | .pp cs=>some (.pp (cs.drop k))
 |_=>none
theorem V.offv {s:CS} {k:Nat} {a b:AV} {c:Value} (h:V s a c) (hv:offv k a=some b):
  ∃ blk off,c= .pointer (some ⟨blk,off,none⟩)∧V s b (.pointer (some ⟨blk,off+k,none⟩))∨∃ p g i,a= .pel p g i:=by
 cases h<;>simp [Lg.offv] at hv
 ·subst hv
  exact ⟨_,_,.inl ⟨rfl,.ptr _ _ _ (by assumption) (by assumption)⟩⟩
 ·exact ⟨0,0,.inr ⟨_,_,_,rfl⟩⟩
 ·subst hv
  rename_i cs b off vs hok hl hc hv
  refine ⟨_,_,.inl ⟨rfl,?_⟩⟩
  refine .pp (cs.drop k) b (off+k) (vs.drop k) hok (by simp [hl]) (fun i v e=>?_) (fun i c v e1 e2=>?_)
  ·rw [List.getElem?_drop] at e
   rw [Nat.add_assoc]
   exact hc _ _ e
  ·rw [List.getElem?_drop] at e1 e2
   exact hv _ _ _ e1 e2
def Hn (σ:List AO):AV→Prop
 | .pel p g _=>∃ sz cs,σ[p]? =some (.arr sz g cs)
 | .arr p g _ _ _=>∃ sz cs,σ[p]? =some (.arr sz g cs)
 | .arrC p g _ _ _ _=>∃ sz cs,σ[p]? =some (.arr sz g cs)
 |_=>True
theorem V.offv' {s:CS} {k:Nat} {a b:AV} {c:Value} (h:V s a c) (hv:Lg.offv k a=some b) (hf:Hn s.σ a):
  ∃ blk off,c= .pointer (some ⟨blk,off,none⟩)∧V s b (.pointer (some ⟨blk,off+k,none⟩)):=by
 obtain ⟨blk,off,h1|⟨p,g,i,rfl⟩⟩:=h.offv hv
 ·exact ⟨blk,off,h1⟩
 ·obtain ⟨sz,cs,hs⟩:=hf
  have h1:=h.inv_pel hs
  simp [Lg.offv] at hv
  subst hv
  refine ⟨_,_,h1,.pel p g (i+k) _ rfl ?_⟩
  unfold ArrAt
  rw [hs]
  exact ⟨Nat.le_refl _,fun _=>by rw [Nat.add_assoc]⟩
theorem Q0N {T:TypeId} {x:Operand} {f n:Nat} {fs:Array Field} {fd:Field} {v:AV} (ho:o.op= .fieldAddr T x f) (hu:P.underlying T=some (.struct fs)) (hf:fs[f]? =some fd)
  (hz:∀ w,(Go.sizeOf fd.type).run P w=Result.ok n w) (hn:n ≠ 0) (hx:offv fd.offset (opv e x)=some v) (hfr:Hn σ (opv e x)):AOp P σ e o v σ:=
 .of_run fun s a hs _ hv=>by
  subst hs
  obtain ⟨b,off,h1,h2⟩:=(hv x (by simp [ho,Op.operands])).offv' hx hfr
  refine ⟨_,?_,h2⟩
  simp [execOp,ho,h1,Instr.fieldAt,run_underlying hu,hf,Instr.sureAddr,fieldPlace,hz,hn,X3]

def tk:Nat→List AV→Option (List AV)
 |0,_=>some []
 |n+1,c :: cs=>(tk n cs).map (c :: ·)
 |_+1,[]=>none
theorem VW:∀ {n:Nat} {cs ds:List AV},tk n cs=some ds→ds=cs.take n∧n≤cs.length
 |0,cs,ds,h=>by simp [tk] at h;simp [h]
 |n+1,c :: cs,ds,h=>by
  simp only [tk,Option.map_eq_some_iff] at h
  obtain ⟨d,h1,rfl⟩:=h
  have:=VW h1
  simp [this.1,this.2]
 |n+1,[],ds,h=>by simp [tk] at h
def ldv (σ:List AO) (n:Nat):AV→Option (List AV)
 | .ptr p off=>match σ[p]? with
  |some (.box cs)=>tk n (cs.drop off)
  |_=>none
 | .pel p g i=>match σ[p]? with
  |some (.arr _ g' cs)=>if g=g' then tk n (cs.drop i) else none
  |_=>none
 | .pp cs=>tk n cs
 |_=>none

theorem YD {w:World} {b:Nat} {vs:List Value} {T:TypeId} {fr:Nat×Nat} (h:w.heap[b]? =some (.cells vs.toArray T fr)) (i:Nat):w.cell? ⟨b,i,none⟩=vs[i]? :=by
 simp [World.cell?,h]
theorem V.load {s:CS} (g:Good s) {a:AV} {c:Value} {n:Nat} {cs:List AV} (h:V s a c) (hl:ldv s.σ n a=some cs):
  ∃ b off vs,c= .pointer (some ⟨b,off,none⟩)∧PW s cs vs∧vs.length=n∧∀ (i:Nat) (v:Value),vs[i]? =some v→s.w.cell? ⟨b,off+i,none⟩=some v:=by
 unfold ldv at hl
 split at hl
 ·rename_i p off
  split at hl
  ·rename_i cs0 hs
   obtain ⟨rfl,hle⟩:=VW hl
   obtain ⟨_,vs,T,hb,hp⟩:=g.obj p _ hs
   refine ⟨_,_,(vs.drop off).take n,h.inv_ptr,(hp.drop off).take n,?_,fun i v e=>?_⟩
   ·have:=((hp.drop off).take n).1
    rw [this];simp at hle ⊢;omega
   ·rw [List.getElem?_take] at e
    split at e
    ·rw [List.getElem?_drop] at e
     rw [YD hb];exact e
    ·cases e
  ·cases hl
 ·rename_i p gg i0
  split at hl
  ·rename_i sz g' cs0 hs
   split at hl
   ·rename_i e0
    subst e0
    obtain ⟨rfl,hle⟩:=VW hl
    by_cases hn:n=0
    ·subst hn
     exact ⟨_,_,[],h.inv_pel hs,by simpa using PW.nil,rfl,fun i v e=>by simp at e⟩
    have hlive:s.live p:=by
     unfold CS.live;rw [hs]
     intro h0
     rcases g.obj p _ hs with ⟨_,rfl⟩|⟨h1,_⟩
     ·simp at hle;omega
     ·exact h1 h0
    obtain ⟨_,vs,T,hb,_,h3,h4,hp⟩:=g.rep hs hlive
    simp at hle
    refine ⟨_,_,((vs.drop ((s.μ p).base+i0)).take n),h.inv_pel hs,?_,by simp;omega,fun i v e=>?_⟩
    ·have h5:=(hp.drop i0).take n
     rw [List.drop_take,List.take_take,List.drop_drop,Nat.min_eq_left (by omega)] at h5
     exact h5
    ·rw [List.getElem?_take] at e
     split at e
     ·rw [List.getElem?_drop,Nat.add_assoc] at e
      rw [YD hb,Nat.add_assoc];exact e
     ·cases e
   ·cases hl
  ·cases hl
 ·rename_i cs0
  obtain ⟨rfl,hle⟩:=VW hl
  obtain ⟨b,off,vs,h1,_,hc,hp⟩:=h.inv_pp
  refine ⟨b,off,vs.take n,h1,hp.take n,by simp [hp.1];omega,fun i v e=>?_⟩
  rw [List.getElem?_take] at e
  split at e
  ·exact hc i v e
  ·cases e
 ·cases hl

theorem ZS {T:TypeId} {x:Operand} {c:AV} (ho:o.op= .load T x) (ha:∀ w,(isAgg T).run P w= .ok false w) (hx:ldv σ 1 (opv e x)=some [c]):AOp P σ e o c σ:=
 .of_run fun s a hs g hv=>by
  subst hs
  obtain ⟨b,off,vs,h1,hp,_,hc⟩:=(hv x (by simp [ho,Op.operands])).load g hx
  obtain ⟨v,vs',rfl,hv1,_⟩:=hp.inv_cons
  have:=hc 0 v rfl
  refine ⟨v,?_,hv1⟩
  simp only [Nat.add_zero] at this
  simp [execOp,ho,h1,Instr.loadAt,Instr.sureAddr,loadVar,ha,this]
theorem Q7U {T:TypeId} {x:Operand} {n:Nat} {cs:List AV} (ho:o.op= .load T x) (ha:∀ w,(isAgg T).run P w= .ok true w) (hz:∀ w,(Go.sizeOf T).run P w=Result.ok n w)
  (hx:ldv σ n (opv e x)=some cs):AOp P σ e o (.agg cs) σ:=
 .of_run fun s a hs g hv=>by
  subst hs
  obtain ⟨b,off,vs,h1,hp,hl,hc⟩:=(hv x (by simp [ho,Op.operands])).load g hx
  refine ⟨.agg vs.toArray,?_,.agg _ _ hp.1 hp.2⟩
  have:=run_loadCells_list (P:=P) s.w ⟨b,off,none⟩ vs (fun j v e=>by rw [X3];exact hc j v e)
  rw [hl] at this
  simp [execOp,ho,h1,Instr.loadAt,Instr.sureAddr,loadVar,ha,hz,this]
end Lg
namespace Lg
open Go Go.RowKit
variable [GLay]

variable {P:Program} {σ:List AO} {e:Env} {o:Oper}

def AV.one:AV→Bool
 | .agg _| .tup _| .any=>false
 |_=>true
theorem V.one {s:CS} {a:AV} {c:Value} (h:V s a c) (ha:a.one=true):c.oneCell'=true:=by
 cases h<;>first|rfl|assumption|simp [AV.one] at ha

def AV.cells:AV→List AV
 | .agg cs=>cs
 |a=>[a]
def Zf:List AV→Bool
 |[]=>true
 |a :: r=>a.one && Zf r
theorem K5 (l:List AV):Zf l=true↔∀ a∈l,a.one=true:=by
 induction l with
 |nil=>simp [Zf]
 |cons a r ih=>simp [Zf,ih]
theorem Q5g {v:Value} (h:v.oneCell'=true):v.cells= #[v]:=by cases v<;>simp_all [Value.oneCell',Value.cells]
theorem V.cells {s:CS} {a:AV} {c:Value} (h:V s a c) (ha:Zf a.cells=true):∃ vs:List Value,c.cells.toList=vs∧PW s a.cells vs∧∀ v∈vs,v.oneCell'=true:=by
 have hone:∀ {cs:List AV} {vs:List Value},PW s cs vs→Zf cs=true→∀ v∈vs,v.oneCell'=true:=fun {cs vs} h1 h2 v hv=>by
  obtain ⟨i,hi,rfl⟩:=List.getElem_of_mem hv
  have hi':i < cs.length:=h1.1 ▸ hi
  exact (h1.2 i cs[i] vs[i] (List.getElem?_eq_getElem hi') (List.getElem?_eq_getElem hi)).one ((K5 cs).1 h2 _ (List.getElem_mem hi'))
 by_cases hag:∃ cs,a= .agg cs
 ·obtain ⟨cs,rfl⟩:=hag
  obtain ⟨vs,rfl,hp⟩:=h.inv_agg
  exact ⟨vs,by simp [Value.cells],hp,hone hp ha⟩
 ·have hc:a.cells=[a]:=by cases a<;>simp_all [AV.cells]
  rw [hc] at ha ⊢
  have h1:a.one=true:=by simpa [Zf] using ha
  have h2:=h.one h1
  exact ⟨[c],by simp [Q5g h2],.cons h .nil,by simpa using h2⟩

def VS:List AV→List AV→Option (List AV)
 |cs,[]=>some cs
 |_ :: cs,n :: ns=>(VS cs ns).map (n :: ·)
 |[],_ :: _=>none
def spl:Nat→List AV→List AV→Option (List AV)
 |0,cs,ns=>VS cs ns
 |k+1,c :: cs,ns=>(spl k cs ns).map (c :: ·)
 |_+1,[],_=>none
theorem Q2e:∀ {cs ns ds:List AV},VS cs ns=some ds→ds=ns++cs.drop ns.length∧ns.length≤cs.length
 |cs,[],ds,h=>by simp [VS] at h;simp [h]
 |c :: cs,n :: ns,ds,h=>by
  simp only [VS,Option.map_eq_some_iff] at h
  obtain ⟨d,h1,rfl⟩:=h
  have:=Q2e h1
  simp [this.1,this.2]
 |[],n :: ns,ds,h=>by simp [VS] at h
theorem Q1d:∀ {k:Nat} {cs ns ds:List AV},spl k cs ns=some ds→ds=cs.take k++ns++cs.drop (k+ns.length)∧k+ns.length≤cs.length
 |0,cs,ns,ds,h=>by have:=Q2e h;simp [this.1,this.2]
 |k+1,c :: cs,ns,ds,h=>by
  simp only [spl,Option.map_eq_some_iff] at h
  obtain ⟨d,h1,rfl⟩:=h
  obtain ⟨h2,h3⟩:=Q1d h1
  refine ⟨?_,by simp;omega⟩
  rw [h2,show k+1+ns.length=k+ns.length+1 by omega]
  simp
 |k+1,[],ns,ds,h=>by simp [spl] at h

def stv (σ:List AO) (ns:List AV):AV→Option (Nat×AO)
 | .ptr p off=>match σ[p]? with
  |some (.box cs)=>(spl off cs ns).map fun ds=>(p,.box ds)
  |_=>none
 | .pel p g i=>match σ[p]? with
  |some (.arr sz g' cs)=>if g=g' then (spl i cs ns).map fun ds=>(p,.arr sz g ds) else none
  |_=>none
 |_=>none

theorem WY {w:World} {T:TypeId} {b off n:Nat} {us vs:List Value} {T':TypeId} {v:Value} (hz:∀ w,(Go.sizeOf T).run P w=Result.ok n w) (hv:v.cells.toList=us) (hn:us.length=n)
  (hb:w.heap[b]? =some (.cells vs.toArray T' (0,0))) (hfit:off+n≤vs.length) (h1:∀ u∈us,u.oneCell'=true):
  (storeVar T ⟨b,off,none⟩ v).run P w= .ok () (w.setRow b (vs.take off++us++vs.drop (off+n)).toArray):=by
 have hs:v.cells.size=n:=by rw [← hn,←hv];simp
 have h2:=run_storeCells_at P b off T' us 0 vs.toArray w hb (by simp;omega) h1
 simp only [Nat.add_zero] at h2
 simp only [storeVar,Sem.run_bind,hz,Result.andThen_ok,hs,ne_eq,not_true_eq_false,if_false,hv,Sem.run_ite]
 rw [h2]
 simp [hn]

theorem WM {T:TypeId} {x y:Operand} {n p:Nat} {O:AO} (ho:o.op= .store T x y) (hz:∀ w,(Go.sizeOf T).run P w=Result.ok n w) (hn:(opv e y).cells.length=n)
  (h1:Zf (opv e y).cells=true) (hx:stv σ (opv e y).cells (opv e x)=some (p,O)) (hn0:n ≠ 0):AOp P σ e o .any (σ.set p O):=by
 intro s a hs g hv K Q hk _
 subst hs
 obtain ⟨us,hu,hpw,hone⟩:=(hv y (by simp [ho,Op.operands])).cells h1
 have hlen:us.length=n:=by rw [hpw.1,hn]
 have hvx:=hv x (by simp [ho,Op.operands])
 unfold stv at hx
 split at hx
 ·rename_i q off heq
  rw [heq] at hvx
  split at hx
  ·rename_i cs hs
   simp only [Option.map_eq_some_iff,Prod.mk.injEq] at hx
   obtain ⟨ds,hd,rfl,rfl⟩:=hx
   obtain ⟨rfl,hfit⟩:=Q1d hd
   have hlive:s.live q:=by unfold CS.live;rw [hs];trivial
   obtain ⟨_,vs,T',hb,hp⟩:=g.rep hs hlive
   have hp:PW s cs vs:=hp
   have hnew:PW s (cs.take off++(opv e y).cells++cs.drop (off+(opv e y).cells.length)) (vs.take off++us++vs.drop (off+n)):=by
    rw [hn];exact ((hp.take off).append hpw).append (hp.drop _)
   obtain ⟨s',e1,e2,g',x',_⟩:=g.setObj hs hlive (o':=.box _) (.box _ _ (by have:=hnew.1;simp [hn] at this ⊢;omega)) trivial hnew
   have hrun:=WY (P:=P) (w:=s.w) (off:=off) hz hu hlen hb (by rw [hp.1];omega) hone
   refine Uf (w':=s'.w) ?_ (hk .any undef s' ⟨rfl,e1⟩ g' x' (.any _))
   rw [e2]
   simp only [execOp,ho,hvx.inv_ptr,Instr.storeAt,Instr.sureAddr,Sem.run_bind,Sem.run_pure,Result.andThen_ok,hrun]
  ·cases hx
 ·rename_i q gg i heq
  rw [heq] at hvx
  split at hx
  ·rename_i sz g' cs hs
   split at hx
   ·rename_i eg
    subst eg
    simp only [Option.map_eq_some_iff,Prod.mk.injEq] at hx
    obtain ⟨ds,hd,rfl,rfl⟩:=hx
    obtain ⟨rfl,hfit⟩:=Q1d hd
    have hlive:s.live q:=by
     unfold CS.live;rw [hs]
     intro h0
     rcases g.obj q _ hs with ⟨_,rfl⟩|⟨h1,_⟩
     ·rw [hn] at hfit;simp at hfit;omega
     ·exact h1 h0
    obtain ⟨_,vs,T',hb,h0,h3,h4,hp⟩:=g.rep hs hlive
    have hnew:PW s (cs.take i++(opv e y).cells++cs.drop (i+(opv e y).cells.length))
      (((vs.take ((s.μ q).base+i)++us++vs.drop ((s.μ q).base+i+n)).drop (s.μ q).base).take (cs.take i++(opv e y).cells++cs.drop (i+(opv e y).cells.length)).length):=by
     have k:=((hp.take i).append hpw).append (hp.drop (i+n))
     rw [hn]
     have e1:((vs.drop (s.μ q).base).take cs.length).take i++us++((vs.drop (s.μ q).base).take cs.length).drop (i+n)=
       ((vs.take ((s.μ q).base+i)++us++vs.drop ((s.μ q).base+i+n)).drop (s.μ q).base).take (cs.take i++(opv e y).cells++cs.drop (i+n)).length:=by
      apply List.ext_getElem?
      intro j
      simp only [List.getElem?_append,List.getElem?_take,List.getElem?_drop,List.length_append,List.length_take,List.length_drop,hn,hlen]
      by_cases c1:j < i
      ·have:j < cs.length:=by omega
       simp only [show min i (min cs.length (vs.length - (s.μ q).base))=i by omega,show min i cs.length=i by omega,show min ((s.μ q).base+i) vs.length=(s.μ q).base+i by omega]
       simp only [show j < i+n by omega,c1,if_true,this,show j < i+n+(cs.length - (i+n)) by omega,show (s.μ q).base+j < (s.μ q).base+i+n by omega,show (s.μ q).base+j < (s.μ q).base+i by omega]
      ·by_cases c2:j < i+n
       ·simp only [show min i (min cs.length (vs.length - (s.μ q).base))=i by omega,show min i cs.length=i by omega,show min ((s.μ q).base+i) vs.length=(s.μ q).base+i by omega]
        simp only [c2,c1,if_true,if_false,show j < i+n+(cs.length - (i+n)) by omega,show (s.μ q).base+j < (s.μ q).base+i+n by omega,show ¬(s.μ q).base+j < (s.μ q).base+i by omega]
        congr 1;omega
       ·simp only [show min i (min cs.length (vs.length - (s.μ q).base))=i by omega,show min i cs.length=i by omega,show min ((s.μ q).base+i) vs.length=(s.μ q).base+i by omega]
        by_cases c3:j < cs.length
        ·simp only [c2,if_false,show j < i+n+(cs.length - (i+n)) by omega,if_true,show ¬(s.μ q).base+j < (s.μ q).base+i+n by omega,show i+n+(j - (i+n)) < cs.length by omega]
         congr 1;omega
        ·simp only [c2,if_false,show ¬j < i+n+(cs.length - (i+n)) by omega,show ¬i+n+(j - (i+n)) < cs.length by omega]
     rw [← e1];exact k
    have hl':(cs.take i++(opv e y).cells++cs.drop (i+(opv e y).cells.length)).length=cs.length:=by simp [hn];omega
    obtain ⟨s',e1,e2,g',x',_⟩:=g.setObj hs hlive (o':=.arr sz gg _) (.arr _ _ _ _ _ (Nat.le_refl _) fun _=>hl'.symm) rfl (vs:=vs.take ((s.μ q).base+i)++us++vs.drop ((s.μ q).base+i+n))
     ⟨h0,by simp;omega,by rw [hl'];exact h4,hnew⟩
    have hrun:=WY (P:=P) (w:=s.w) (off:=(s.μ q).base+i) hz hu hlen hb (by omega) hone
    refine Uf (w':=s'.w) ?_ (hk .any undef s' ⟨rfl,e1⟩ g' x' (.any _))
    rw [e2]
    simp only [execOp,ho,hvx.inv_pel hs,Instr.storeAt,Instr.sureAddr,Sem.run_bind,Sem.run_pure,Result.andThen_ok,hrun]
   ·cases hx
  ·cases hx
 ·cases hx
end Lg
namespace Lg
open Go Go.RowKit
variable [GLay]

variable {P:Program} {σ:List AO} {e:Env} {o:Oper}

theorem Q0L {T:TypeId} {x:Operand} {cs:List AV} (ho:o.op= .box T x) (hx:(opv e x).cells=cs) (h1:Zf cs=true):AOp P σ e o (.ptr σ.length 0) (σ++[.box cs]):=by
 intro s a hs g hv K Q hk _
 subst hs
 subst hx
 obtain ⟨vs,hvs,hp,_⟩:=(hv x (by simp [ho,Op.operands])).cells h1
 obtain ⟨s',e1,e2,g',x',hv'⟩:=g.box hp T
 refine Zn (w':=s'.w) ?_ (hk _ _ s' ⟨rfl,e1⟩ g' x' hv')
 have:(a.eval x).cells=vs.toArray:=by rw [← hvs]
 rw [e2]
 simp [execOp,ho,Instr.box,newVar,newRow,newObj,this,Sem.run]
theorem WJ {T:TypeId} {z:Value} {cs:List AV} (ho:o.op= .alloc T) (hz:∀ w,(zeroValue T).run P w=Result.ok z w) (hx:z.cells.toList.map Qx=cs):AOp P σ e o (.ptr σ.length 0) (σ++[.box cs]):=by
 intro s a hs g hv K Q hk _
 subst hs
 subst hx
 have hp:PW s (z.cells.toList.map Qx) z.cells.toList:=⟨by simp,fun i c v h1 h2=>by
  rw [List.getElem?_map,h2] at h1;simp at h1;subst h1;exact Jl s v⟩
 obtain ⟨s',e1,e2,g',x',hv'⟩:=g.box hp T
 refine Zn (w':=s'.w) ?_ (hk _ _ s' ⟨rfl,e1⟩ g' x' hv')
 rw [e2]
 simp [execOp,ho,Instr.alloc,hz,newVar,newRow,newObj,Sem.run]

def bld (place:Nat→Option Nat) (cs:List AV) (e:Env):List (Nat×Operand)→Option (List AV)
 |[]=>some cs
 |(i,x) :: r=>match place i with
  |some off=>match spl off cs (opv e x).cells with
   |some ds=>bld place ds e r
   |none=>none
  |none=>none

theorem Q5r (cells:Array Value) (off:Nat):∀ (us:List Value) (k:Nat),off+k+us.length≤cells.size→
  (us.zipIdx k).foldl (fun cs (c,j)=>cs.setIfInBounds (off+j) c) cells=(cells.toList.take (off+k)++us++cells.toList.drop (off+k+us.length)).toArray:=by
 intro us
 induction us generalizing cells with
 |nil=>intro k h;simp
 |cons u us ih=>
  intro k h
  simp only [List.zipIdx_cons,List.foldl_cons]
  rw [ih (cells.setIfInBounds (off+k) u) (k+1) (by simp at h ⊢;omega)]
  have:=list_seg_step cells.toList (off+k) u us (by simp at h ⊢;omega)
  congr 1
  simpa [Array.toList_setIfInBounds,Nat.add_assoc] using this

theorem HQ {s:CS} {ev:Operand→Value} (pl:Nat→Option (Nat×Nat)) (place:Nat→Option Nat) (sz:Nat→Nat) (hpl:∀ i off,place i=some off→pl i=some (off,sz i)):∀ (parts:List (Nat×Operand)) (cs ds:List AV) (vs:List Value),
  (∀ q∈parts,V s (opv e q.2) (ev q.2)∧Zf (opv e q.2).cells=true∧(opv e q.2).cells.length=sz q.1)→PW s cs vs→bld place cs e parts=some ds→
  ∃ us:List Value,Instr.fill pl vs.toArray (parts.map fun q=>(q.1,ev q.2))=some us.toArray∧PW s ds us
 |[],cs,ds,vs,_,hp,hb=>by
  simp only [bld,Option.some.injEq] at hb
  subst hb
  exact ⟨vs,by simp [Instr.fill],hp⟩
 |(i,x) :: r,cs,ds,vs,hv,hp,hb=>by
  simp only [bld] at hb
  split at hb
  ·rename_i off hoff
   split at hb
   ·rename_i ds' hs
    obtain ⟨rfl,hfit⟩:=Q1d hs
    obtain ⟨h1,h2,h3⟩:=hv (i,x) (by simp)
    have h3:(opv e x).cells.length=sz i:=h3
    have h1:V s (opv e x) (ev x):=h1
    have h2:Zf (opv e x).cells=true:=h2
    obtain ⟨us,hu,hpw,_⟩:=h1.cells h2
    have hul:us.length=sz i:=by rw [hpw.1];exact h3
    have hcs:(ev x).cells.size=sz i:=by rw [← hul,←hu];simp
    have hnew:PW s (cs.take off++(opv e x).cells++cs.drop (off+(opv e x).cells.length)) (vs.take off++us++vs.drop (off+us.length)):=by
     rw [← hpw.1];exact ((hp.take off).append hpw).append (hp.drop _)
    obtain ⟨ws,hw1,hw2⟩:=HQ pl place sz hpl r _ ds _ (fun q hq=>hv q (by simp [hq])) hnew hb
    refine ⟨ws,?_,hw2⟩
    simp only [List.map_cons,Instr.fill,hpl i off hoff]
    rw [if_neg (by
     have:=hp.1
     rw [hcs]
     simp only [ne_eq,not_true_eq_false,decide_false,Bool.false_or,decide_eq_true_eq,List.size_toArray]
     omega)]
    have hz:(ev x).cells.zipIdx=(us.zipIdx).toArray:=by
     have:(ev x).cells=us.toArray:=by rw [← hu]
     rw [this];simp
    have hfold:(ev x).cells.zipIdx.foldl (fun cs (c,j)=>cs.setIfInBounds (off+j) c) vs.toArray=(vs.take off++us++vs.drop (off+us.length)).toArray:=by
     rw [hz]
     have h4:=Q5r vs.toArray off us 0 (by simp only [List.size_toArray];have:=hp.1;have:=hpw.1;omega)
     simpa using h4
    rw [hfold]
    exact hw1
   ·cases hb
  ·cases hb

theorem Q7O {T:TypeId} {parts:Array (Nat×Operand)} {fs:Array Field} {z:Value} {cs:List AV} (pls:List (Nat×Nat)) (ho:o.op= .build T parts) (hu:P.underlying T=some (.struct fs))
  (hz:∀ w,(zeroValue T).run P w=Result.ok z w) (hpls:∀ w,(fs.mapM fun f=>do pure (f.offset,←Go.sizeOf f.type):Sem (Array (Nat×Nat))).run P w=Result.ok pls.toArray w)
  (h1:(parts.toList.all fun q=>Zf (opv e q.2).cells && (opv e q.2).cells.length == ((pls[q.1]?).map (·.2)).getD 0)=true)
  (hb:bld (fun i:Nat=>(pls[i]?).map (·.1)) (z.cells.toList.map Qx) e parts.toList=some cs):AOp P σ e o (.agg cs) σ:=
 .of_run fun s a _ _ hv=>by
  have hp:PW s (z.cells.toList.map Qx) z.cells.toList:=⟨by simp,fun i c v h1 h2=>by
   rw [List.getElem?_map,h2] at h1;simp at h1;subst h1;exact Jl s v⟩
  obtain ⟨us,h2,h3⟩:=HQ (s:=s) (ev:=a.eval) (fun i:Nat=>pls[i]?) (fun i:Nat=>(pls[i]?).map (·.1)) (fun i:Nat=>((pls[i]?).map (·.2)).getD 0) (fun i off h=>by
   simp only [Option.map_eq_some_iff] at h
   obtain ⟨q,h,rfl⟩:=h
   simp [h]) parts.toList _ cs _ (fun q hq=>by
    simp only [List.all_eq_true,Bool.and_eq_true,beq_iff_eq] at h1
    exact ⟨hv q.2 (by simp only [ho,Op.operands];simp;exact ⟨q.1,by simpa using hq⟩),h1 q hq⟩) hp hb
  refine ⟨.agg us.toArray,?_,.agg _ _ h3.1 h3.2⟩
  have e1:(parts.map fun (q:Nat×Operand)=>(q.1,a.eval q.2)).toList=parts.toList.map fun q=>(q.1,a.eval q.2):=by simp
  simp only [execOp,ho,Instr.build,Sem.run_bind,hz,Result.andThen_ok,run_underlying hu,hpls]
  have e2:(fun i:Nat=>pls.toArray[i]?)=fun i:Nat=>pls[i]? :=by funext i;simp
  rw [e2,e1]
  simp only [Array.toArray_toList] at h2
  rw [h2]
  simp
end Lg
namespace Lg
open Go Go.RowKit
variable [GLay]

variable {P:Program} {σ:List AO} {e:Env} {o:Oper}

theorem Good.newArr {s:CS} (g:Good s) {sz:Nat} {cs:List AV} {vs:List Value} (h:PW s cs (vs.take cs.length)) (hl:cs.length≤vs.length) (T:TypeId) {w:World} (hw:Below s.w.heap.size s.w w) (hws:w.heap.size=s.w.heap.size):
  ∃ s',s'.σ=s.σ++[.arr sz 0 cs]∧s'.w=w.alloc (.cells vs.toArray T (0,0))∧Good s'∧Ext s s'∧s'.μ s.σ.length=⟨s.w.heap.size,0,vs.length⟩:=by
 let s':CS:={ σ:=s.σ++[.arr sz 0 cs],μ:=fun p=>if p=s.σ.length then ⟨s.w.heap.size,0,vs.length⟩ else s.μ p,ok:=s.ok,w:=w.alloc (.cells vs.toArray T (0,0))}
 have hlt:∀ {p:Nat} {o:AO},s.σ[p]? =some o→p < s.σ.length:=fun h=>(List.getElem?_eq_some_iff.1 h).1
 have hold:∀ {p:Nat},p < s.σ.length→s'.σ[p]? =s.σ[p]? ∧s'.μ p=s.μ p:=fun {p} h=>
  ⟨by show (s.σ++[_])[p]? =_;rw [List.getElem?_append_left h],by show (if p=_ then _ else _)=_;rw [if_neg (by omega)]⟩
 have hnew:s'.σ[s.σ.length]? =some (.arr sz 0 cs)∧s'.μ s.σ.length=⟨s.w.heap.size,0,vs.length⟩:=⟨by show (s.σ++[_])[_]? =_;simp,by show (if _=_ then _ else _)=_;rw [if_pos rfl]⟩
 have hcase:∀ {p:Nat} {o:AO},s'.σ[p]? =some o→(p < s.σ.length∧s.σ[p]? =some o∧s'.μ p=s.μ p)∨(p=s.σ.length∧o= .arr sz 0 cs):=fun {p o} h=>by
  rcases Nat.lt_trichotomy p s.σ.length with hp|hp|hp
  ·exact .inl ⟨hp,(hold hp).1 ▸ h,(hold hp).2⟩
  ·subst hp
   rw [hnew.1] at h
   exact .inr ⟨rfl,(Option.some.inj h).symm⟩
  ·have:s'.σ[p]? =none:=by show (s.σ++[_])[p]? =_;apply List.getElem?_eq_none;simp;omega
   rw [this] at h;cases h
 have hlive:∀ {p:Nat},s'.live p→(p < s.σ.length∧s.live p∧s'.μ p=s.μ p)∨p=s.σ.length:=fun {p} h=>by
  have hp:=CS.live_lt h
  have hl:s'.σ.length=s.σ.length+1:=by show (s.σ++[_]).length=_;simp
  rcases Nat.lt_or_ge p s.σ.length with h1|h1
  ·refine .inl ⟨h1,?_,(hold h1).2⟩
   unfold CS.live at h ⊢
   rw [(hold h1).1,(hold h1).2] at h
   exact h
  ·exact .inr (by omega)
 have hsz:s'.w.heap.size=s.w.heap.size+1:=by show (w.alloc _).heap.size=_;rw [Yd,hws]
 have hheap:∀ {b:Nat},b < s.w.heap.size→s'.w.heap[b]? =s.w.heap[b]? :=fun {b} hb=>by
  show (w.alloc _).heap[b]? =_;rw [ZI,if_neg (by omega)];exact hw.block b hb
 have x:Ext s s':={
  objs:=fun p o h=>⟨o,by rw [(hold (hlt h)).1];exact h,OLe.refl o,fun _=>(hold (hlt h)).2⟩
  ok:=fun _ h=>h
  okn:=fun _ h=>.inl h
  mun:=fun p h=>by
   rcases hlive h with ⟨h1,h2,h3⟩|rfl
   ·exact .inl ⟨h1,h2,by rw [h3]⟩
   ·exact .inr (by rw [hnew.2];exact Nat.le_refl _)
  frame:=fun b hb _=>hheap hb
  size:=by omega
  shp:=fun p cs cs' z h1 _ h3=>by
   rw [(hold (hlt h1)).2];exact (Yy (hheap (Yi h3))).trans h3
  tape:=hw.tape
  os:=hw.os
  output:=hw.output}
 refine ⟨s',rfl,rfl,⟨fun b hb=>Nat.lt_of_lt_of_le (g.okb b hb) x.size,fun p o ho=>?_,fun p q hpq hp hq=>?_,fun b o ho=>?_⟩,x,hnew.2⟩
 ·rcases hcase ho with ⟨h1,h2,h3⟩|⟨rfl,rfl⟩
  ·exact (g.obj p o h2).mono g x h3 id fun ob hb _=>(hheap (Array.getElem?_eq_some_iff.1 hb).1).trans hb
  ·by_cases h0:vs.length=0
   ·refine .inl ⟨by rw [hnew.2];exact h0,List.eq_nil_of_length_eq_zero (by omega)⟩
   ·refine .inr ⟨by rw [hnew.2];exact h0,?_,vs,T,?_,by rw [hnew.2],by rw [hnew.2];simpa using hl,?_⟩
    ·rw [hnew.2];exact fun hk=>absurd (g.okb _ hk) (by simp)
    ·rw [hnew.2];show (w.alloc _).heap[_]? =_;rw [ZI,if_pos (by rw [hws])]
    ·rw [hnew.2];exact h.mono g x
 ·rcases hlive hp with ⟨p1,p2,p3⟩|rfl<;>rcases hlive hq with ⟨q1,q2,q3⟩|rfl
  ·rw [p3,q3];exact g.inj p q hpq p2 q2
  ·rw [p3,hnew.2];have:=(g.live_lt p2).1;show _ ≠ s.w.heap.size;omega
  ·rw [q3,hnew.2];have:=(g.live_lt q2).1;show s.w.heap.size ≠ _;omega
  ·exact absurd rfl hpq
 ·obtain ⟨h1,h2⟩:=g.glob b o ho
  exact ⟨h1,(hheap (g.okb b h1)).trans h2⟩

theorem V.newArr {s':CS} {p sz b tot:Nat} {cs:List AV} (hσ:s'.σ[p]? =some (.arr sz 0 cs)) (hμ:s'.μ p=⟨b,0,tot⟩) {len cap:Nat} (h1:len≤cap) (h2:cap * sz≤tot):
  V s' (.arr p 0 sz 0 len) (.slice (some ⟨b,0,none⟩) len cap):=by
 refine .arr p 0 sz 0 len _ rfl ?_
 unfold ArrAt
 rw [hσ]
 refine ⟨Nat.le_refl _,fun _=>⟨rfl,.inr ⟨cap,?_,h1,?_⟩⟩⟩
 ·rw [hμ];simp
 ·rw [hμ];simpa using h2

theorem Q60 (a:Act) (parts:Array (Nat×Operand)):(parts.map fun (q:Nat×Operand)=>(q.1,a.eval q.2)).toList=parts.toList.map fun q=>(q.1,a.eval q.2):=by simp
theorem JX {s:CS} {a:Act} {parts:Array (Nat×Operand)} {z:Value} {sz len:Nat} {cs:List AV} (hpart:∀ q∈parts.toList,V s (opv e q.2) (a.eval q.2)) (hzs:z.cells.size=sz)
  (h1:(parts.toList.all fun q=>Zf (opv e q.2).cells && (opv e q.2).cells.length == sz)=true)
  (hb:bld (fun i=>some (i * sz)) ((List.replicate len (z.cells.toList.map Qx)).flatten) e parts.toList=some cs):
  ∃ us:List Value,Instr.fill (fun i=>some (i * sz,sz)) ((Array.range (len * sz)).map (z.cells[· % z.cells.size]!)) (parts.map fun (q:Nat×Operand)=>(q.1,a.eval q.2)).toList=some us.toArray∧PW s cs us:=by
 have hz1:((Array.range (len * sz)).map (z.cells[· % z.cells.size]!)).toList=(List.replicate len z.cells.toList).flatten:=by
  apply List.ext_getElem?
  intro j
  by_cases hj:j < len * sz
  ·have hsz:0 < sz:=by
    rcases Nat.eq_zero_or_pos sz with h|h
    ·rw [h] at hj;simp at hj
    ·exact h
   have hm:j % sz < sz:=Nat.mod_lt _ hsz
   have hR:(List.replicate len z.cells.toList).flatten[j]? =z.cells.toList[j % sz]? :=by
    clear h1 hb
    induction len generalizing j with
    |zero=>simp at hj
    |succ n ih=>
     simp only [List.replicate_succ,List.flatten_cons]
     rw [List.getElem?_append]
     simp only [Array.length_toList,hzs]
     by_cases hjz:j < sz
     ·rw [if_pos hjz,Nat.mod_eq_of_lt hjz]
     ·rw [if_neg hjz]
      have hj':j < n * sz+sz:=by rw [← Nat.succ_mul];exact hj
      have:=ih (j - sz) (by omega) (Nat.mod_lt _ hsz)
      have hm2:j % sz=(j - sz) % sz:=Nat.mod_eq_sub_mod (by omega)
      rw [this,hm2]
   rw [hR]
   simp [hj,hzs,hm]
  ·have h2:(List.replicate len z.cells.toList).flatten.length=len * sz:=by simp [hzs]
   rw [List.getElem?_eq_none (by simp;omega),List.getElem?_eq_none (by rw [h2];omega)]
 have hp1:PW s (z.cells.toList.map Qx) z.cells.toList:=⟨by simp,fun i c v h1 h2=>by
  rw [List.getElem?_map,h2] at h1;simp at h1;subst h1;exact Jl s v⟩
 have hp:PW s ((List.replicate len (z.cells.toList.map Qx)).flatten) ((List.replicate len z.cells.toList).flatten):=by
  clear h1 hb hz1
  induction len with
  |zero=>exact .nil
  |succ n ih=>simp only [List.replicate_succ,List.flatten_cons];exact hp1.append ih
 obtain ⟨us,h2,h3⟩:=HQ (s:=s) (ev:=a.eval) (fun i:Nat=>some (i * sz,sz)) (fun i:Nat=>some (i * sz)) (fun _=>sz) (fun i off h=>by simp at h;simp [h]) parts.toList _ cs _ (fun q hq=>by
  simp only [List.all_eq_true,Bool.and_eq_true,beq_iff_eq] at h1
  exact ⟨hpart q hq,h1 q hq⟩) hp hb
 refine ⟨us,?_,h3⟩
 rw [Q60,←h2]
 congr 1
 apply Array.ext'
 rw [hz1]

theorem Ql {T E:TypeId} {len sz:Nat} {parts:Array (Nat×Operand)} {z:Value} {cs:List AV} (es:List (List AV)) (ho:o.op= .buildSlice T len parts) (hu:P.underlying T=some (.slice E))
  (hsz:∀ w,(Go.sizeOf E).run P w=Result.ok sz w) (hz:∀ w,(zeroValue E).run P w=Result.ok z w) (hzs:z.cells.size=sz) (hsm:len * sz≤16777216) (hpos:len * sz ≠ 0)
  (h1:(parts.toList.all fun q=>Zf (opv e q.2).cells && (opv e q.2).cells.length == sz)=true)
  (hb:bld (fun i=>some (i * sz)) ((List.replicate len (z.cells.toList.map Qx)).flatten) e parts.toList=some cs) (hes:es.flatten=cs) (hel:(es.all fun r=>r.length == sz)=true) (hlen:es.length=len):
  AOp P σ e o (.sl true sz es) σ:=by
 intro s a hs g hv K Q hk _
 subst hs
 obtain ⟨us,h2,h3⟩:=JX (s:=s) (a:=a) (fun q hq=>hv q.2 (by simp only [ho,Op.operands];simp;exact ⟨q.1,by simpa using hq⟩)) hzs h1 hb
 obtain ⟨s',e1,e2,g',x',hok⟩:=g.row us E
 have hpos':¬len * sz=0:=hpos
 refine Zn (w':=s'.w) ?_ (hk _ (.slice (some ⟨s.w.heap.size,0,none⟩) len len) s' ⟨rfl,e1⟩ g' x' ?_)
 ·rw [e2]
  simp only [execOp,ho,Instr.buildSlice,Sem.run_bind,run_underlying hu,hsz,Result.andThen_ok,Sem.run_ite,hpos',if_false,hz,Sem.run_pure]
  rw [if_neg (by omega)]
  rw [show (parts.map fun (x:Nat×Operand)=>match x with|(i,x)=>(i,a.eval x))=parts.map fun (q:Nat×Operand)=>(q.1,a.eval q.2) from rfl,h2]
  simp [newRow,newObj,Sem.run]
 ·subst hlen
  have hcap:es.length≤es.length:=Nat.le_refl _
  refine .sl true sz es s.w.heap.size 0 es.length us (.inr hok) (fun r hr=>?_) ?_ (fun i v hi=>?_) (fun i c v hc hv'=>?_) hcap fun _=>rfl
  ·simp only [List.all_eq_true,beq_iff_eq] at hel;exact hel r hr
  ·rw [hes];exact h3.1
  ·rw [e2,Nat.zero_add]
   simp only [World.cell?,ZI,if_true]
   simpa using hi
  ·rw [hes] at hc;exact (h3.2 i c v hc hv').mono g x'
theorem UG {T E:TypeId} {len sz:Nat} {parts:Array (Nat×Operand)} {z:Value} {cs:List AV} (ho:o.op= .buildSlice T len parts) (hu:P.underlying T=some (.slice E))
  (hsz:∀ w,(Go.sizeOf E).run P w=Result.ok sz w) (hz:∀ w,(zeroValue E).run P w=Result.ok z w) (hzs:z.cells.size=sz) (hsm:len * sz≤16777216) (hpos:len * sz ≠ 0)
  (h1:(parts.toList.all fun q=>Zf (opv e q.2).cells && (opv e q.2).cells.length == sz)=true)
  (hb:bld (fun i=>some (i * sz)) ((List.replicate len (z.cells.toList.map Qx)).flatten) e parts.toList=some cs) (hcl:cs.length=len * sz):
  AOp P σ e o (.arr σ.length 0 sz 0 len) (σ++[.arr sz 0 cs]):=by
 intro s a hs g hv K Q hk _
 subst hs
 obtain ⟨us,h2,h3⟩:=JX (s:=s) (a:=a) (fun q hq=>hv q.2 (by simp only [ho,Op.operands];simp;exact ⟨q.1,by simpa using hq⟩)) hzs h1 hb
 have hul:us.length=len * sz:=by rw [h3.1,hcl]
 obtain ⟨s',e1,e2,g',x',hμ⟩:=g.newArr (sz:=sz) (cs:=cs) (vs:=us) (by rw [List.take_of_length_le (by rw [h3.1];exact Nat.le_refl _)];exact h3) (by rw [h3.1];exact Nat.le_refl _) E (Below.refl _ _) rfl
 have hpos':¬len * sz=0:=hpos
 refine Zn (w':=s'.w) ?_ (hk _ (.slice (some ⟨s.w.heap.size,0,none⟩) len len) s' ⟨rfl,e1⟩ g' x' ?_)
 ·rw [e2]
  simp only [execOp,ho,Instr.buildSlice,Sem.run_bind,run_underlying hu,hsz,Result.andThen_ok,Sem.run_ite,hpos',if_false,hz,Sem.run_pure]
  rw [if_neg (by omega)]
  rw [show (parts.map fun (x:Nat×Operand)=>match x with|(i,x)=>(i,a.eval x))=parts.map fun (q:Nat×Operand)=>(q.1,a.eval q.2) from rfl,h2]
  simp [newRow,newObj,Sem.run]
 ·exact V.newArr (cs:=cs) (by rw [e1];simp) hμ (Nat.le_refl _) (by rw [hul];exact Nat.le_refl _)
end Lg
namespace Lg
open Go Go.RowKit
variable [GLay]

variable {P:Program} {σ:List AO} {e:Env} {o:Oper}

theorem Q1J {α:Type} {es:List (List α)} {sz:Nat} (h:∀ r∈es,r.length=sz) {i:Nat} {r:List α} (hi:es[i]? =some r) (j:Nat) (hj:j < sz):es.flatten[i * sz+j]? =r[j]? :=by
 induction es generalizing i with
 |nil=>simp at hi
 |cons a t ih=>
  have ha:=h a (by simp)
  simp only [List.flatten_cons,List.getElem?_append,ha]
  cases i with
  |zero=>simp at hi;subst hi;simp [hj]
  |succ i=>
   simp at hi
   rw [if_neg (by rw [Nat.add_mul];omega)]
   have:=ih (fun r hr=>h r (by simp [hr])) hi
   rw [← this];congr 1;rw [Nat.add_mul];omega
theorem QJ {α:Type} {es:List (List α)} {sz:Nat} (h:∀ r∈es,r.length=sz):es.flatten.length=es.length * sz:=by
 induction es with
 |nil=>simp
 |cons a t ih=>simp only [List.flatten_cons,List.length_append,List.length_cons,h a (by simp),ih (fun r hr=>h r (by simp [hr]))];rw [Nat.add_mul];omega
theorem Q0x {α:Type} {es:List (List α)} {sz:Nat} (h:∀ r∈es,r.length=sz) (k:Nat) (hk:k≤es.length):(es.drop k).flatten=es.flatten.drop (k * sz):=by
 induction es generalizing k with
 |nil=>simp
 |cons a t ih=>
  cases k with
  |zero=>simp
  |succ k=>
   simp only [List.drop_succ_cons,List.flatten_cons]
   rw [ih (fun r hr=>h r (by simp [hr])) k (by simpa using hk),List.drop_append,h a (by simp)]
   have:List.drop ((k+1) * sz) a=[]:=List.drop_eq_nil_of_le (by rw [h a (by simp),Nat.add_mul];omega)
   rw [this,List.nil_append];congr 1;rw [Nat.add_mul];omega
theorem Q0y {α:Type} {es:List (List α)} {sz:Nat} (h:∀ r∈es,r.length=sz) (k:Nat) (hk:k≤es.length):(es.take k).flatten=es.flatten.take (k * sz):=by
 induction es generalizing k with
 |nil=>simp
 |cons a t ih=>
  cases k with
  |zero=>simp
  |succ k=>
   simp only [List.take_succ_cons,List.flatten_cons]
   rw [ih (fun r hr=>h r (by simp [hr])) k (by simpa using hk),List.take_append,h a (by simp)]
   have:List.take ((k+1) * sz) a=a:=List.take_of_length_le (by rw [h a (by simp),Nat.add_mul];omega)
   rw [this];congr 2;rw [Nat.add_mul];omega

theorem V.inv_sl {s:CS} {f:Bool} {sz:Nat} {es:List (List AV)} {c:Value} (h:V s (.sl f sz es) c):
  (∃ ad,c= .slice ad 0 0∧es=[])∨∃ b off cap vs,c= .slice (some ⟨b,off,none⟩) es.length cap∧(es=[]∨s.ok b)∧(∀ r∈es,r.length=sz)∧
   (∀ (i:Nat) (v:Value),vs[i]? =some v→s.w.cell? ⟨b,off+i,none⟩=some v)∧PW s es.flatten vs∧es.length≤cap∧(f=true→cap=es.length):=by
 cases h with
 |sl _ _ _ b off cap vs hok hsz hl hc hv hcap hf=>exact .inr ⟨b,off,cap,vs,rfl,hok,hsz,hc,⟨hl,hv⟩,hcap,hf⟩
 |sl0 _ _ ad=>exact .inl ⟨ad,rfl,rfl⟩

theorem JK {w:World} {T E:TypeId} {sz len cap b off:Nat} {k:IntKind} {n:Int} (hu:P.underlying T=some (.slice E)) (hsz:∀ w,(Go.sizeOf E).run P w=Result.ok sz w) (h0:0≤n) (h1:n < len):
  (Instr.indexAt T (.slice (some ⟨b,off,none⟩) len cap) (.int k n)).run P w= .ok (.pointer (some ⟨b,off+n.toNat * sz,none⟩)) w:=by
 simp only [Instr.indexAt,asIntOf,Sem.run_bind,Sem.run_pure,Result.andThen_ok,run_underlying hu]
 rw [if_pos ⟨h0,h1⟩]
 simp [hsz,X3]

theorem Qe {T E:TypeId} {x y:Operand} {sz:Nat} {k:IntKind} {n:Int} {f:Bool} {es:List (List AV)} {r:List AV} (ho:o.op= .indexAddr T x y) (hu:P.underlying T=some (.slice E))
  (hsz:∀ w,(Go.sizeOf E).run P w=Result.ok sz w) (hx:opv e x= .sl f sz es) (hy:opv e y= .int k n) (h0:0≤n) (hr:es[n.toNat]? =some r):AOp P σ e o (.pp r) σ:=
 .of_run fun s a _ _ hv=>by
  have h1:=hx ▸ hv x (by simp [ho,Op.operands])
  have h2:=(hy ▸ hv y (by simp [ho,Op.operands])).inv_int
  have hlt:=(List.getElem?_eq_some_iff.1 hr).1
  rcases h1.inv_sl with ⟨_,_,rfl⟩|⟨b,off,cap,vs,h3,hok,hl,hc,hp,hcap,_⟩
  ·simp at hlt
  ·have hok:s.ok b:=hok.resolve_left (fun e=>by rw [e] at hlt;simp at hlt)
   have hrl:=hl r (List.mem_of_getElem? hr)
   refine ⟨_,by simp only [execOp,ho,h3,h2,Sem.run_bind];rw [JK (cap:=cap) hu hsz h0 (by omega)];rfl,?_⟩
   refine .pp r b (off+n.toNat * sz) ((vs.drop (n.toNat * sz)).take sz) hok ?_ (fun i v hi=>?_) (fun i c v hc1 hv1=>?_)
   ·simp only [List.length_take,List.length_drop,hp.1,QJ hl,hrl]
    have:(n.toNat+1) * sz≤es.length * sz:=Nat.mul_le_mul_right _ hlt
    rw [Nat.add_mul] at this;omega
   ·rw [List.getElem?_take] at hi
    split at hi
    ·rw [List.getElem?_drop] at hi;rw [Nat.add_assoc];exact hc _ _ hi
    ·cases hi
   ·rw [List.getElem?_take] at hv1
    split at hv1
    ·rename_i hlt2
     rw [List.getElem?_drop] at hv1
     exact hp.2 _ c v (by rw [Q1J hl hr i hlt2];exact hc1) hv1
    ·cases hv1
def Q9R:AV→Option Int
 | .str s=>some (s.size:Int)
 | .sl _ _ es=>some (es.length:Int)
 | .nils=>some 0
 | .arr _ _ _ _ len=>some (len:Int)
 | .arrC _ _ _ _ len _=>some (len:Int)
 |_=>none
theorem Q5U {T:TypeId} {x:Operand} {b:ByteArray} {c:Array TypeId} (ho:o.op= .call { callee:=.builtin .len,args:= #[x],argTypes:=c}) (hc:c[0]? =some T) (hu:P.underlying T=some .string)
  (hx:opv e x= .str b):AOp P σ e o (.int .i64 b.size) σ:=
 .of_run fun s a _ _ hv=>by
  have h1:=(hx ▸ hv x (by simp [ho,Op.operands,Call.operands])).inv_str
  exact ⟨.int .i64 b.size,by simp [execOp,ho,resolve,invoke,builtin,h1,Builtin.len_,hc,run_underlying hu,goInt],.int _ _⟩
theorem Q7S {T E:TypeId} {x:Operand} {n:Int} {c:Array TypeId} (ho:o.op= .call { callee:=.builtin .len,args:= #[x],argTypes:=c}) (hc:c[0]? =some T) (hu:P.underlying T=some (.slice E))
  (hx:Q9R (opv e x)=some n) (hns:∀ b,opv e x ≠ .str b) (hfr:Hn σ (opv e x)):AOp P σ e o (.int .i64 n) σ:=
 .of_run fun s a hs _ hv=>by
  subst hs
  have h1:=hv x (by simp [ho,Op.operands,Call.operands])
  have key:∀ c':Value,a.eval x=c'→(∃ A m k,c'= .slice A m k∧n=m)→(execOp a.eval o).run P s.w= .ok (.value (.int .i64 n)) s.w:=fun c' hc' h=>by
   obtain ⟨A,m,k,rfl,rfl⟩:=h
   simp [execOp,ho,resolve,invoke,builtin,hc',Builtin.len_,hc,run_underlying hu,goInt]
  refine ⟨_,key _ rfl ?_,.int _ _⟩
  generalize hq:opv e x=q at *
  cases q<;>simp only [Q9R,Option.some.injEq,reduceCtorEq] at hx
  ·exact absurd rfl (hns _)
  ·exact ⟨_,_,_,h1.inv_nils,by simpa using hx.symm⟩
  ·rcases h1.inv_sl with ⟨ad,h2,h3⟩|⟨b,off,cap,vs,h2,_⟩
   ·exact ⟨_,_,_,h2,by rw [h3] at hx;simpa using hx.symm⟩
   ·exact ⟨_,_,_,h2,hx.symm⟩
  ·obtain ⟨sz,cs,hs⟩:=hfr
   obtain ⟨_,⟨ad,h2,h3⟩|⟨cap,h2,_⟩⟩:=h1.inv_arr hs
   ·exact ⟨_,_,_,h2,by rw [h3] at hx;simpa using hx.symm⟩
   ·exact ⟨_,_,_,h2,hx.symm⟩
  ·obtain ⟨sz,cs,hs⟩:=hfr
   exact ⟨_,_,_,(h1.inv_arrC hs).2.1,hx.symm⟩
theorem Q0O {T:TypeId} {x y:Operand} {b:ByteArray} {k:IntKind} {n:Int} {u:UInt8} (ho:o.op= .index T x y) (hu:P.underlying T=some .string) (hx:opv e x= .str b) (hy:opv e y= .int k n)
  (h0:0≤n) (h1:b.data.toList[n.toNat]? =some u):AOp P σ e o (.int .u8 u.toNat) σ:=
 .of_run fun s a _ _ hv=>by
  have h2:=(hx ▸ hv x (by simp [ho,Op.operands])).inv_str
  have h3:=(hy ▸ hv y (by simp [ho,Op.operands])).inv_int
  have hlt:n.toNat < b.size:=by have:=(List.getElem?_eq_some_iff.1 h1).1;simpa using this
  have hg:b[n.toNat]? =some u:=by
   rw [getElem?_pos b n.toNat hlt]
   have:=(List.getElem?_eq_some_iff.1 h1).2
   rw [← this];rfl
  exact ⟨.int .u8 u.toNat,by simp [execOp,ho,h2,h3,Instr.index,asIntOf,run_underlying hu,h0,hg],.int _ _⟩
def bnd (e:Env) (d:Int) (l:Int):Option Operand→Prop
 |some y=>∃ k,opv e y= .int k l
 |none=>l=d
def QbM (d:Int) (l:Int):Option Value→Prop
 |some v=>∃ k,v= .int k l
 |none=>l=d
theorem bnd.ev {e:Env} {s:CS} {a:Act} {d l:Int} {lo:Option Operand} (h:bnd e d l lo) (hv:∀ y,lo=some y→V s (opv e y) (a.eval y)):QbM d l (lo.map a.eval):=by
 cases lo with
 |none=>exact h
 |some y=>obtain ⟨k,h⟩:=h;exact ⟨k,(h ▸ hv y rfl).inv_int⟩
theorem Q0R {T:TypeId} {x:Operand} {lo hi:Option Operand} {b:ByteArray} (l h:Int) (ho:o.op= .slice T x lo hi none) (hu:P.underlying T=some .string) (hx:opv e x= .str b)
  (hl:bnd e 0 l lo) (hh:bnd e b.size h hi) (h0:0≤l) (h1:l≤h) (h2:h≤b.size):AOp P σ e o (.str (b.extract l.toNat h.toNat)) σ:=
 .of_run fun s a _ _ hv=>by
  have h3:=(hx ▸ hv x (by simp [ho,Op.operands])).inv_str
  refine ⟨.string (b.extract l.toNat h.toNat),?_,.str _⟩
  have h0h:0≤h:=by omega
  have hl':=hl.ev (s:=s) (a:=a) (fun y hy=>hv y (by subst hy;simp [ho,Op.operands]))
  have hh':=hh.ev (s:=s) (a:=a) (fun y hy=>hv y (by subst hy;simp [ho,Op.operands]))
  clear hl hh
  generalize hlo:lo.map a.eval=lo' at *
  generalize hhi:hi.map a.eval=hi' at *
  cases lo' with
  |none=>
   have:l=0:=hl'
   subst this
   cases hi' with
   |none=>
    have:h=b.size:=hh'
    subst this
    simp [execOp,ho,h3,hlo,hhi,Instr.sliceAt,Instr.slice,Instr.sliceBounds,run_underlying hu]
   |some y=>
    obtain ⟨k,rfl⟩:=hh'
    simp [execOp,ho,h3,hlo,hhi,Instr.sliceAt,Instr.slice,Instr.sliceBounds,Instr.sliceBound,asIntOf,run_underlying hu,h0h,h2]
  |some z=>
   obtain ⟨kl,rfl⟩:=hl'
   cases hi' with
   |none=>
    have:h=b.size:=hh'
    subst this
    have:l≤(b.size:Int):=h1
    simp [execOp,ho,h3,hlo,hhi,Instr.sliceAt,Instr.slice,Instr.sliceBounds,Instr.sliceBound,asIntOf,run_underlying hu,h0,this]
   |some y=>
    obtain ⟨k,rfl⟩:=hh'
    simp [execOp,ho,h3,hlo,hhi,Instr.sliceAt,Instr.slice,Instr.sliceBounds,Instr.sliceBound,asIntOf,run_underlying hu,h0h,h2,h0]
    intro hm
    omega
end Lg
namespace Lg
open Go Go.RowKit
variable [GLay]

variable {P:Program} {σ:List AO} {e:Env} {o:Oper}

theorem X2 {w:World} {T E:TypeId} {sz len cap:Nat} {A:Option Addr} {lo hi:Option Value} {l h:Int} (hu:P.underlying T=some (.slice E)) (hsz:∀ w,(Go.sizeOf E).run P w=Result.ok sz w)
  (hl:QbM 0 l lo) (hh:QbM len h hi) (h0:0≤l) (h1:l≤h) (h2:h≤cap):
  (Instr.sliceAt T (.slice A len cap) lo hi none).run P w= .ok (.slice (if cap=l.toNat then A else A.map (·.add (l.toNat * sz))) (h.toNat - l.toNat) (cap - l.toNat)) w:=by
 have h0h:0≤h:=by omega
 cases lo with
 |none=>
  have:l=0:=hl
  subst this
  cases hi with
  |none=>
   have:h=len:=hh
   subst this
   simp [Instr.sliceAt,Instr.slice,Instr.sliceBounds,run_underlying hu,hsz]
  |some y=>
   obtain ⟨k,rfl⟩:=hh
   simp [Instr.sliceAt,Instr.slice,Instr.sliceBounds,Instr.sliceBound,asIntOf,run_underlying hu,hsz,h0h,h2]
 |some z=>
  obtain ⟨kl,rfl⟩:=hl
  cases hi with
  |none=>
   have:h=len:=hh
   subst this
   have:l≤(len:Int):=h1
   simp [Instr.sliceAt,Instr.slice,Instr.sliceBounds,Instr.sliceBound,asIntOf,run_underlying hu,hsz,h0,this]
  |some y=>
   obtain ⟨k,rfl⟩:=hh
   simp [Instr.sliceAt,Instr.slice,Instr.sliceBounds,Instr.sliceBound,asIntOf,run_underlying hu,hsz,h0h,h2,h0]
   intro hm
   omega

theorem ZT {T E:TypeId} {x:Operand} {lo hi:Option Operand} {sz:Nat} {f:Bool} {es:List (List AV)} (l h:Int) (ho:o.op= .slice T x lo hi none) (hu:P.underlying T=some (.slice E))
  (hsz:∀ w,(Go.sizeOf E).run P w=Result.ok sz w) (hx:opv e x= .sl f sz es)
  (hl:bnd e 0 l lo) (hh:bnd e (es.length:Nat) h hi) (h0:0≤l) (h1:l≤h) (h2:h≤es.length):
  AOp P σ e o (.sl false sz ((es.drop l.toNat).take (h.toNat - l.toNat))) σ:=
 .of_run fun s a _ _ hv=>by
  have hxv:=hx ▸ hv x (by simp [ho,Op.operands])
  have hl':=hl.ev (s:=s) (a:=a) (fun y hy=>hv y (by subst hy;simp [ho,Op.operands]))
  have hh':=hh.ev (s:=s) (a:=a) (fun y hy=>hv y (by subst hy;simp [ho,Op.operands]))
  rcases hxv.inv_sl with ⟨ad,h3,rfl⟩|⟨b,off,cap,vs,h3,hok,hel,hc,hp,hcap,_⟩
  ·have hl0:l=0:=by simp at h2;omega
   have hh0:h=0:=by simp at h2;omega
   subst hl0;subst hh0
   refine ⟨_,by simp only [execOp,ho,h3,Sem.run_bind,Option.map_none];rw [X2 (len:=0) (cap:=0) hu hsz hl' hh' h0 h1 (by simp)];rfl,?_⟩
   simp
   exact .sl0 false sz ad
  ·refine ⟨_,by simp only [execOp,ho,h3,Sem.run_bind,Option.map_none];rw [X2 (cap:=cap) hu hsz hl' hh' h0 h1 (by omega)];rfl,?_⟩
   by_cases hcl:cap=l.toNat
   ·rw [if_pos hcl]
    have he:(es.drop l.toNat).take (h.toNat - l.toNat)=[]:=by
     have:es.drop l.toNat=[]:=List.drop_eq_nil_of_le (by omega)
     rw [this];simp
    have hlen:h.toNat - l.toNat=0:=by omega
    rw [he,hlen]
    exact .sl false sz [] b off (cap - l.toNat) [] (.inl rfl) (by simp) (by simp) (by simp) (by simp) (by simp) (by simp)
   ·rw [if_neg hcl]
    simp only [Option.map_some,X3]
    have hr:∀ r∈(es.drop l.toNat).take (h.toNat - l.toNat),r.length=sz:=fun r hr=>hel r (List.mem_of_mem_drop (List.mem_of_mem_take hr))
    have hlen:((es.drop l.toNat).take (h.toNat - l.toNat)).length=h.toNat - l.toNat:=by simp;omega
    have hfl:((es.drop l.toNat).take (h.toNat - l.toNat)).flatten=(es.flatten.drop (l.toNat * sz)).take ((h.toNat - l.toNat) * sz):=by
     rw [Q0y (fun r hr=>hel r (List.mem_of_mem_drop hr)) _ (by simp;omega),Q0x hel _ (by omega)]
    have hp':PW s ((es.drop l.toNat).take (h.toNat - l.toNat)).flatten ((vs.drop (l.toNat * sz)).take ((h.toNat - l.toNat) * sz)):=by
     rw [hfl];exact (hp.drop _).take _
    have:=V.sl (s:=s) false sz ((es.drop l.toNat).take (h.toNat - l.toNat)) b (off+l.toNat * sz) (cap - l.toNat) _ (by
      rcases hok with rfl|hok
      ·exact .inl (by simp)
      ·exact .inr hok) hr hp'.1 (fun i v hi=>by
      rw [List.getElem?_take] at hi
      split at hi
      ·rw [List.getElem?_drop] at hi;rw [Nat.add_assoc];exact hc _ _ hi
      ·cases hi) hp'.2 (by rw [hlen];omega) (by simp)
    rw [hlen] at this
    exact this
theorem QC {T E:TypeId} {x:Operand} {lo hi:Option Operand} {sz p g off len:Nat} {cs:List AV} (l h:Int) (ho:o.op= .slice T x lo hi none) (hu:P.underlying T=some (.slice E))
  (hsz:∀ w,(Go.sizeOf E).run P w=Result.ok sz w) (hx:opv e x= .arr p g sz off len) (hσ:σ[p]? =some (.arr sz g cs))
  (hl:bnd e 0 l lo) (hh:bnd e (len:Nat) h hi) (h0:0≤l) (h1:l≤h) (h2:h≤len):
  AOp P σ e o (.arr p g sz (off+l.toNat) (h.toNat - l.toNat)) σ:=
 .of_run fun s a hs _ hv=>by
  subst hs
  have hxv:=hx ▸ hv x (by simp [ho,Op.operands])
  have hl':=hl.ev (s:=s) (a:=a) (fun y hy=>hv y (by subst hy;simp [ho,Op.operands]))
  have hh':=hh.ev (s:=s) (a:=a) (fun y hy=>hv y (by subst hy;simp [ho,Op.operands]))
  obtain ⟨_,⟨ad,h3,rfl⟩|⟨cap,h3,h4,h5⟩⟩:=hxv.inv_arr hσ
  ·have hl0:l=0:=by simp at h2;omega
   have hh0:h=0:=by simp at h2;omega
   subst hl0;subst hh0
   refine ⟨_,by simp only [execOp,ho,h3,Sem.run_bind,Option.map_none];rw [X2 (len:=0) (cap:=0) hu hsz hl' hh' h0 h1 (by simp)];rfl,?_⟩
   refine .arr p g sz _ _ _ rfl ?_
   unfold ArrAt;rw [hσ]
   exact ⟨Nat.le_refl _,fun _=>⟨rfl,.inl ⟨_,by simp;rfl,by simp⟩⟩⟩
  ·refine ⟨_,by simp only [execOp,ho,h3,Sem.run_bind,Option.map_none];rw [X2 (cap:=cap) hu hsz hl' hh' h0 h1 (by omega)];rfl,?_⟩
   refine .arr p g sz _ _ _ rfl ?_
   unfold ArrAt;rw [hσ]
   refine ⟨Nat.le_refl _,fun _=>⟨rfl,?_⟩⟩
   by_cases hcl:cap=l.toNat
   ·have e1:h.toNat - l.toNat=0:=by omega
    have e2:cap - l.toNat=0:=by omega
    rw [e1,e2]
    exact .inl ⟨_,rfl,rfl⟩
   ·refine .inr ⟨cap - l.toNat,?_,by omega,?_⟩
    ·rw [if_neg hcl];simp only [Option.map_some,X3]
     rw [Nat.add_mul,Nat.add_assoc]
    ·rw [show off+l.toNat+(cap - l.toNat)=off+cap by omega];exact h5
end Lg
namespace Lg
open Go Go.RowKit
variable [GLay]

variable {P:Program} {σ:List AO} {e:Env} {o:Oper}

def YI (σ:List AO):AV→Option (List AV×Nat)
 | .nils=>some ([],0)
 | .sl _ _ es=>some (es.flatten,es.length)
 | .arr p g sz off len=>match σ[p]? with
  |some (.arr _ g' cs)=>if g=g' then (tk (len * sz) (cs.drop (off * sz))).map fun ds=>(ds,len) else none
  |_=>none
 | .str s=>some (s.data.toList.map fun b=>.int .u8 b.toNat,s.size)
 |_=>none
def szv:AV→Nat→Prop
 | .sl _ sz _,n| .arr _ _ sz _ _,n=>sz=n
 | .str _,n=>n=1
 |_,_=>True

theorem UF {s:CS} {cs:List AV} {vs:List Value} (h1:PW s cs vs) (h2:Zf cs=true):∀ v∈vs,v.oneCell'=true:=fun v hv=>by
 obtain ⟨i,hi,rfl⟩:=List.getElem_of_mem hv
 have hi':i < cs.length:=h1.1 ▸ hi
 exact (h1.2 i cs[i] vs[i] (List.getElem?_eq_getElem hi') (List.getElem?_eq_getElem hi)).one ((K5 cs).1 h2 _ (List.getElem_mem hi'))

theorem V.src {s:CS} (g:Good s) {a:AV} {c:Value} {sz m:Nat} {cs:List AV} (h:V s a c) (hs:YI s.σ a=some (cs,m)) (hsz:szv a sz):
  ∃ vs:List Value,PW s cs vs∧(Builtin.lenOf c).run P s.w= .ok m s.w∧∀ w:World,w.heap=s.w.heap→(Builtin.firstCells sz m c).run P w= .ok vs.toArray w:=by
 have hload:∀ {b off len cap:Nat} {vs:List Value},vs.length=m * sz→(∀ (i:Nat) (v:Value),vs[i]? =some v→s.w.cell? ⟨b,off+i,none⟩=some v)→∀ w:World,w.heap=s.w.heap→
   (Builtin.firstCells sz m (.slice (some ⟨b,off,none⟩) len cap)).run P w= .ok vs.toArray w:=fun {b off len cap vs} hl hc w hw=>
  run_firstCells_some w sz m _ len cap vs hl fun j v hj=>by
   rw [X3]
   have:=hc j v hj
   simp only [World.cell?,hw] at this ⊢
   exact this
 cases a<;>simp only [YI,Option.some.injEq,Prod.mk.injEq,reduceCtorEq] at hs
 ·obtain ⟨rfl,rfl⟩:=hs
  rename_i b
  refine ⟨b.data.toList.map fun u=>.int .u8 u.toNat,?_,?_,fun w _=>?_⟩
  ·refine ⟨by simp,fun i c v h1 h2=>?_⟩
   rw [List.getElem?_map] at h1 h2
   cases hu:b.data.toList[i]? with
   |none=>rw [hu] at h1;cases h1
   |some u=>rw [hu] at h1 h2;cases h1;cases h2;exact .int _ _
  ·rw [h.inv_str];simp [Builtin.lenOf]
  ·rw [h.inv_str]
   simp only [Builtin.firstCells,Sem.run_pure]
   congr 1
   apply Array.ext'
   simp
 ·obtain ⟨rfl,rfl⟩:=hs
  rw [h.inv_nils]
  exact ⟨[],.nil,by simp [Builtin.lenOf],fun w _=>by simp [Builtin.firstCells]⟩
 ·rename_i f sz' es
  obtain ⟨rfl,rfl⟩:=hs
  have hsz:sz'=sz:=hsz
  subst hsz
  rcases h.inv_sl with ⟨ad,rfl,rfl⟩|⟨b,off,cap,vs,rfl,_,hel,hc,hp,_⟩
  ·exact ⟨[],.nil,by simp [Builtin.lenOf],fun w _=>by cases ad<;>simp [Builtin.firstCells,loadCells,loadCellsFrom]⟩
  ·exact ⟨vs,hp,by simp [Builtin.lenOf],hload (by rw [hp.1,QJ hel]) hc⟩
 ·rename_i p gg sz' off len
  have hsz:sz'=sz:=hsz
  subst hsz
  split at hs
  ·rename_i sz2 g' cs0 hσ
   split at hs
   ·rename_i e0
    subst e0
    simp only [Option.map_eq_some_iff,Prod.mk.injEq] at hs
    obtain ⟨ds,hd,rfl,rfl⟩:=hs
    obtain ⟨rfl,hle⟩:=VW hd
    obtain ⟨rfl,⟨ad,rfl,rfl⟩|⟨cap,rfl,h4,h5⟩⟩:=h.inv_arr hσ
    ·refine ⟨[],by simpa using PW.nil,by simp [Builtin.lenOf],fun w _=>?_⟩
     cases ad<;>simp [Builtin.firstCells,loadCells,loadCellsFrom]
    ·by_cases h0:len * sz2=0
     ·refine ⟨[],by rw [h0];simpa using PW.nil,by simp [Builtin.lenOf],?_⟩
      exact hload (by simp [h0]) (by simp)
     ·have hlive:s.live p:=by
       unfold CS.live;rw [hσ]
       intro ht
       have:(off+cap) * sz2=0:=by omega
       have h6:len * sz2≤(off+cap) * sz2:=Nat.mul_le_mul_right _ (by omega)
       omega
      obtain ⟨_,vs,T,hb,_,h7,h8,hp⟩:=g.rep hσ hlive
      simp at hle
      have hx:=(hp.drop (off * sz2)).take (len * sz2)
      rw [List.drop_take,List.take_take,List.drop_drop,Nat.min_eq_left (by omega)] at hx
      refine ⟨_,hx,by simp [Builtin.lenOf],hload (by simp;omega) fun i v hi=>?_⟩
      rw [List.getElem?_take] at hi
      split at hi
      ·rw [List.getElem?_drop,Nat.add_assoc] at hi
       rw [YD hb,Nat.add_assoc];exact hi
      ·cases hi
   ·cases hs
  ·cases hs

theorem Kf {w:World} {t u ty E:TypeId} {i:TypeInfo} {d:TypeDesc} {b off sLen sCap m:Nat} {x:Value} {news:List Value} {cur:List Value} {T:TypeId}
  (hd:d= .string∨∃ E',d= .slice E') (ht:P.underlying t=some (.slice E)) (hu:P.underlying u=some d) (hi:P.info? E=some i) (hx:(Builtin.lenOf x).run P w= .ok m w) (hf:(Builtin.firstCells i.size m x).run P w= .ok news.toArray w)
  (hroom:sLen+m≤sCap) (hb:w.heap[b]? =some (.cells cur.toArray T (0,0))) (hfit:off+sLen * i.size+news.length≤cur.length) (h1:∀ v∈news,v.oneCell'=true):
  (Builtin.append_ #[t,u] ty #[.slice (some ⟨b,off,none⟩) sLen sCap,x]).run P w=
   .ok (.slice (some ⟨b,off,none⟩) (sLen+m) sCap) (w.setRow b (cur.take (off+sLen * i.size)++news++cur.drop (off+sLen * i.size+news.length)).toArray):=by
 have hst:=run_storeCells_at P b (off+sLen * i.size) T news 0 cur.toArray w hb (by simpa using hfit) h1
 simp only [Nat.add_zero] at hst
 rcases hd with rfl|⟨E',rfl⟩<;>simp [Builtin.append_,run_underlying ht,run_underlying hu,Go.sizeOf,typeInfo,hi,hx,hf,hroom,X3,hst]

theorem KQ {w:World} {t u ty E:TypeId} {i:TypeInfo} {z:Value} {d:TypeDesc} {A:Option Addr} {sLen sCap m:Nat} {x:Value} {olds news:List Value}
  (hd:d= .string∨∃ E',d= .slice E') (ht:P.underlying t=some (.slice E)) (hu:P.underlying u=some d) (hi:P.info? E=some i) (hz:i.zero=some z) (hx:(Builtin.lenOf x).run P w= .ok m w)
  (hf:(Builtin.firstCells i.size m x).run P w.drew= .ok news.toArray w.drew) (hfo:(Builtin.firstCells i.size sLen (.slice A sLen sCap)).run P w.drew= .ok olds.toArray w.drew)
  (hroom:sCap < sLen+m) (h63:sLen+m≤9223372036854775807) (hby:(sLen+m) * i.bytes≤140737488355328):
  ∃ rest:List Value,∃ cap:Nat,sLen+m≤cap∧rest.length=(cap - (sLen+m)) * z.cells.size∧(Builtin.append_ #[t,u] ty #[.slice A sLen sCap,x]).run P w=
   .ok (.slice (some ⟨w.heap.size,0,none⟩) (sLen+m) cap) (w.drew.alloc (.cells (olds++news++rest).toArray E (0,0))):=by
 have hn:¬(sLen+m≤sCap):=by omega
 have h63':¬(9223372036854775807 < ((sLen:Int)+(m:Int))):=by omega
 have hfit:=growslice_fits (need:=sLen+m) (old:=sCap) (bytes:=i.bytes) hroom hby
 have h48':¬(281474976710656 < Builtin.nextslicecap (sLen+m) sCap * i.bytes):=by omega
 refine ⟨(Builtin.zeroCells z.cells (grownCap w (sLen+m) sCap E - (sLen+m))).toList,grownCap w (sLen+m) sCap E,grownCap_ge _ _ _ _,by simp [size_zeroCells],?_⟩
 rcases hd with rfl|⟨E',rfl⟩
 all_goals
  simp [Builtin.append_,run_underlying ht,run_underlying hu,Go.sizeOf,typeInfo,zeroValue,hi,hz,hx,hn,h63',h48',Question.forced,hf,hfo,newRow,grownCap]
  congr 2
  apply Array.ext'
  simp
end Lg
namespace Lg
open Go Go.RowKit
variable [GLay]

variable {P:Program} {σ:List AO} {e:Env} {o:Oper}

theorem Good.renew {s:CS} (g:Good s) {p sz gg:Nat} {cs cs':List AV} (ho:s.σ[p]? =some (.arr sz gg cs)) {g':Nat} (hg:gg < g') (m:Pl) {w':World}
  (hsize:s.w.heap.size≤w'.heap.size) (htape:w'.tape=s.w.tape) (hos:w'.os=s.w.os) (hout:w'.output=s.w.output)
  (hframe:∀ b,b < s.w.heap.size→(s.live p→b ≠ (s.μ p).b)→w'.heap[b]? =s.w.heap[b]?)
  (hm:(m.tot=0∧cs'=[])∨(((m.b=(s.μ p).b∧s.live p)∨(s.w.heap.size≤m.b∧m.b < w'.heap.size))∧∃ vs T,w'.heap[m.b]? =some (.cells (List.toArray vs) T (0,0))∧RepW s m vs T (.arr sz g' cs'))):
  ∃ s',s'.σ=s.σ.set p (.arr sz g' cs')∧s'.w=w'∧Good s'∧Ext s s'∧s'.μ p=m:=by
 have hlt:p < s.σ.length:=(List.getElem?_eq_some_iff.1 ho).1
 let s':CS:={ s with σ:=s.σ.set p (.arr sz g' cs'),μ:=fun q=>if q=p then m else s.μ q,w:=w'}
 have hother:∀ {q:Nat},q ≠ p→s'.σ[q]? =s.σ[q]? ∧s'.μ q=s.μ q:=fun {q} hq=>
  ⟨by show (s.σ.set p _)[q]? =_;rw [List.getElem?_set,if_neg (fun e=>hq e.symm)],by show (if q=p then m else s.μ q)=_;rw [if_neg hq]⟩
 have hthis:s'.σ[p]? =some (.arr sz g' cs')∧s'.μ p=m:=⟨by show (s.σ.set p _)[p]? =_;simp [hlt],by show (if p=p then m else s.μ p)=_;rw [if_pos rfl]⟩
 have hlive':∀ {q:Nat},q ≠ p→s'.live q→s.live q:=fun {q} hq h=>by
  unfold CS.live at h ⊢;rw [(hother hq).1,(hother hq).2] at h;exact h
 have hlp:s'.live p→(m.b=(s.μ p).b∧s.live p)∨(s.w.heap.size≤m.b∧m.b < w'.heap.size):=fun h=>by
  unfold CS.live at h;rw [hthis.1,hthis.2] at h
  rcases hm with ⟨h0,_⟩|⟨h1,_⟩
  ·exact absurd h0 h
  ·exact h1
 have hfr:∀ {b:Nat},b < s.w.heap.size→(s.live p→b ≠ (s.μ p).b)→w'.heap[b]? =s.w.heap[b]? :=fun h1 h2=>hframe _ h1 h2
 have x:Ext s s':={
  objs:=fun q r hr=>by
   by_cases e:q=p
   ·subst e
    rw [ho] at hr;cases hr
    exact ⟨_,hthis.1,.arr _ _ _ _ _ (by omega) (by omega),fun (h:gg=g')=>by omega⟩
   ·exact ⟨r,by rw [(hother e).1];exact hr,OLe.refl r,fun _=>(hother e).2⟩
  ok:=fun _ h=>h
  okn:=fun _ h=>.inl h
  mun:=fun q hq=>by
   by_cases e:q=p
   ·subst e
    rw [hthis.2]
    rcases hlp hq with ⟨h1,h2⟩|⟨h1,_⟩
    ·exact .inl ⟨hlt,h2,h1⟩
    ·exact .inr h1
   ·exact .inl ⟨CS.live_lt (hlive' e hq),hlive' e hq,by rw [(hother e).2]⟩
  frame:=fun b hb hne=>hfr hb fun hl e=>hne p hl e.symm
  size:=hsize
  shp:=fun q cs cs' z h1 _ h3=>by
   have e:q ≠ p:=fun e=>by subst e;rw [ho] at h1;cases h1
   have hq:s.live q:=by unfold CS.live;rw [h1];trivial
   rw [(hother e).2]
   exact (Yy (hfr (Yi h3) fun hl=>g.inj q p e hq hl)).trans h3
  tape:=htape
  os:=hos
  output:=hout}
 refine ⟨s',rfl,rfl,⟨fun b hb=>Nat.lt_of_lt_of_le (g.okb b hb) hsize,fun q r hr=>?_,fun q q' hne h1 h2=>?_,fun b r hr=>?_⟩,x,hthis.2⟩
 ·by_cases e:q=p
  ·subst e
   rw [hthis.1] at hr;cases hr
   rcases hm with ⟨h0,rfl⟩|⟨h1,vs,T,h2,h3⟩
   ·exact .inl ⟨by rw [hthis.2];exact h0,rfl⟩
   ·refine RepW.orep (T:=T) (vs:=vs) ?_ (by rw [hthis.2];exact h2) (by rw [hthis.2];exact h3.mono g x)
    rw [hthis.2]
    rcases h1 with ⟨h1,hl⟩|⟨h1,_⟩
    ·rw [h1];exact (g.live_lt hl).2
    ·exact fun hk=>absurd (g.okb _ hk) (by omega)
  ·have hr':s.σ[q]? =some r:=by rw [← (hother e).1];exact hr
   exact ORep.keep g x hr' (hother e).2 (fun hq=>(g.live_lt hq).2) (fun hq=>hfr (g.live_lt hq).1 fun hl=>g.inj q p e hq hl)
 ·by_cases e:q=p
  ·subst e
   rw [hthis.2,(hother (fun e=>hne e.symm)).2]
   have h2':=hlive' (fun e=>hne e.symm) h2
   rcases hlp h1 with ⟨h3,h4⟩|⟨h3,_⟩
   ·rw [h3];exact g.inj _ _ hne h4 h2'
   ·have:=(g.live_lt h2').1;omega
  ·by_cases e':q'=p
   ·subst e'
    rw [hthis.2,(hother e).2]
    have h1':=hlive' e h1
    rcases hlp h2 with ⟨h3,h4⟩|⟨h3,_⟩
    ·rw [h3];exact g.inj _ _ hne h1' h4
    ·have:=(g.live_lt h1').1;omega
   ·rw [(hother e).2,(hother e').2];exact g.inj _ _ hne (hlive' e h1) (hlive' e' h2)
 ·obtain ⟨h1,h2⟩:=g.glob b r hr
  exact ⟨h1,(hfr (g.okb b h1) fun hl e=>(g.live_lt hl).2 (e ▸ h1)).trans h2⟩

theorem Good.ghost {s:CS} (g:Good s) (sz:Nat):∃ s',s'.σ=s.σ++[.arr sz 0 []]∧s'.w=s.w∧Good s'∧Ext s s':=by
 let s':CS:={ s with σ:=s.σ++[.arr sz 0 []],μ:=fun p=>if p=s.σ.length then ⟨0,0,0⟩ else s.μ p}
 have hlt:∀ {p:Nat} {o:AO},s.σ[p]? =some o→p < s.σ.length:=fun h=>(List.getElem?_eq_some_iff.1 h).1
 have hold:∀ {p:Nat},p < s.σ.length→s'.σ[p]? =s.σ[p]? ∧s'.μ p=s.μ p:=fun {p} h=>
  ⟨by show (s.σ++[_])[p]? =_;rw [List.getElem?_append_left h],by show (if p=_ then _ else _)=_;rw [if_neg (by omega)]⟩
 have hnew:s'.σ[s.σ.length]? =some (.arr sz 0 [])∧s'.μ s.σ.length=⟨0,0,0⟩:=⟨by show (s.σ++[_])[_]? =_;simp,by show (if _=_ then _ else _)=_;rw [if_pos rfl]⟩
 have hlive:∀ {p:Nat},s'.live p→p < s.σ.length∧s.live p∧s'.μ p=s.μ p:=fun {p} h=>by
  have hp:=CS.live_lt h
  have hl:s'.σ.length=s.σ.length+1:=by show (s.σ++[_]).length=_;simp
  rcases Nat.lt_or_ge p s.σ.length with h1|h1
  ·refine ⟨h1,?_,(hold h1).2⟩
   unfold CS.live at h ⊢
   rw [(hold h1).1,(hold h1).2] at h
   exact h
  ·have:p=s.σ.length:=by omega
   subst this
   unfold CS.live at h
   rw [hnew.1,hnew.2] at h
   exact absurd rfl h
 have x:Ext s s':={
  objs:=fun p o h=>⟨o,by rw [(hold (hlt h)).1];exact h,OLe.refl o,fun _=>(hold (hlt h)).2⟩
  ok:=fun _ h=>h
  okn:=fun _ h=>.inl h
  mun:=fun p h=>.inl ⟨(hlive h).1,(hlive h).2.1,by rw [(hlive h).2.2]⟩
  frame:=fun b _ _=>rfl
  size:=Nat.le_refl _
  shp:=fun p cs cs' z h1 _ h3=>by
   rw [(hold (hlt h1)).2];exact h3
  tape:=rfl
  os:=rfl
  output:=rfl}
 refine ⟨s',rfl,rfl,⟨g.okb,fun p o ho=>?_,fun p q hpq hp hq=>?_,g.glob⟩,x⟩
 ·rcases Nat.lt_or_ge p s.σ.length with hp|hp
  ·have ho':s.σ[p]? =some o:=by rw [← (hold hp).1];exact ho
   exact (g.obj p o ho').mono g x (hold hp).2 id fun ob hb _=>hb
  ·have hl:s'.σ.length=s.σ.length+1:=by show (s.σ++[_]).length=_;simp
   have:p=s.σ.length:=by have:=(List.getElem?_eq_some_iff.1 ho).1;omega
   subst this
   rw [hnew.1] at ho;cases ho
   exact .inl ⟨by rw [hnew.2],rfl⟩
 ·rw [(hlive hp).2.2,(hlive hq).2.2];exact g.inj p q hpq (hlive hp).2.1 (hlive hq).2.1

theorem ArrAt.mk {s:CS} {p g sz:Nat} {cs:List AV} {R:Nat→Pl→Prop} (hσ:s.σ[p]? =some (.arr sz g cs)) (h:R sz (s.μ p)):ArrAt s p g R:=by
 unfold ArrAt;rw [hσ];exact ⟨Nat.le_refl _,fun _=>h⟩

theorem Q5k (w:World):w.drew.heap=w.heap:=rfl
theorem V2 {w:World} (A:Option Addr) (sz:Nat):(Builtin.firstCells sz 0 (.slice A 0 0)).run P w= .ok #[] w:=by
 cases A<;>simp [Builtin.firstCells,loadCells,loadCellsFrom]
theorem J6 {w:World} {t u ty E:TypeId} {i:TypeInfo} {d:TypeDesc} {A:Option Addr} {n c:Nat} {x:Value} (hd:d= .string∨∃ E',d= .slice E')
  (ht:P.underlying t=some (.slice E)) (hu:P.underlying u=some d) (hi:P.info? E=some i) (hx:(Builtin.lenOf x).run P w= .ok 0 w) (hf:(Builtin.firstCells i.size 0 x).run P w= .ok #[] w) (hn:n≤c):
  (Builtin.append_ #[t,u] ty #[.slice A n c,x]).run P w= .ok (.slice A n c) w:=by
 rcases hd with rfl|⟨E',rfl⟩<;>cases A<;>simp [Builtin.append_,run_underlying ht,run_underlying hu,Go.sizeOf,typeInfo,hi,hx,hf,hn,storeCells]

theorem KD {x y:Operand} {t u E:TypeId} {i:TypeInfo} {z:Value} {d:TypeDesc} {sz m:Nat} {cs:List AV} (ho:o.op= .call { callee:=.builtin .append,args:= #[x,y],argTypes:= #[t,u]})
  (hd:d= .string∨∃ E',d= .slice E') (ht:P.underlying t=some (.slice E)) (hu:P.underlying u=some d) (hi:P.info? E=some i) (hz:i.zero=some z) (hsz:i.size=sz) (hzs:z.cells.size=sz) (hpos:sz ≠ 0)
  (hx:opv e x= .nils∨opv e x= .sl true sz []) (hy:YI σ (opv e y)=some (cs,m)) (hys:szv (opv e y) sz) (h1:Zf cs=true) (hby:m * i.bytes≤140737488355328) (h63:m≤9223372036854775807) (hlen:cs.length=m * sz):
  AOp P σ e o (.arr σ.length 0 sz 0 m) (σ++[.arr sz 0 cs]):=by
 intro s a hs g hv K Q hk _
 subst hs
 subst hsz
 obtain ⟨A,hA⟩:∃ A,a.eval x= .slice A 0 0:=by
  have hxv:=hv x (by simp [ho,Op.operands,Call.operands])
  rcases hx with h|h
  ·exact ⟨none,(h ▸ hxv).inv_nils⟩
  ·rcases (h ▸ hxv).inv_sl with ⟨ad,h2,_⟩|⟨b,off,cap,vs,h2,_,_,_,_,_,hf⟩
   ·exact ⟨ad,h2⟩
   ·exact ⟨some ⟨b,off,none⟩,by rw [h2,hf rfl];rfl⟩
 obtain ⟨news,hp,hl,hf⟩:=(hv y (by simp [ho,Op.operands,Call.operands])).src g hy hys
 by_cases hm:m=0
 ·subst hm
  have hcs:cs=[]:=List.eq_nil_of_length_eq_zero (by simpa using hlen)
  subst hcs
  have hn:=hp.inv_nil
  subst hn
  obtain ⟨s',e1,e2,g',x'⟩:=g.ghost i.size
  refine Zn (cv:=.slice A 0 0) (w':=s'.w) ?_ (hk _ _ s' ⟨rfl,e1⟩ g' x' ?_)
  ·rw [e2]
   simp only [execOp,ho,resolve,invoke,builtin,Sem.run_bind,Sem.run_pure,Result.andThen_ok,List.map_toArray,List.map_cons,List.map_nil,hA]
   rw [J6 hd ht hu hi hl (hf _ rfl) (Nat.le_refl _)]
   rfl
  ·exact .arr _ _ _ _ _ _ rfl (.mk (cs:=[]) (by rw [e1];simp) ⟨rfl,.inl ⟨A,rfl,rfl⟩⟩)
 ·obtain ⟨rest,cap,hc1,hc2,hrun⟩:=KQ (ty:=o.type) (A:=A) (sLen:=0) (sCap:=0) (olds:=[]) (news:=news) (x:=a.eval y) hd ht hu hi hz hl (hf _ rfl) (V2 A _) (by omega) (by omega) (by simpa using hby)
  obtain ⟨s',e1,e2,g',x',hμ⟩:=g.newArr (sz:=i.size) (cs:=cs) (vs:=[]++news++rest) (by
    simp only [List.nil_append,←hp.1,List.take_left];exact hp) (by simp [hp.1]) E (w:=s.w.drew) (Below.refl _ _).drew rfl
  refine Zn (cv:=.slice (some ⟨s.w.heap.size,0,none⟩) m cap) (w':=s'.w) ?_ (hk _ _ s' ⟨rfl,e1⟩ g' x' ?_)
  ·rw [e2]
   simp only [execOp,ho,resolve,invoke,builtin,Sem.run_bind,Sem.run_pure,Result.andThen_ok,List.map_toArray,List.map_cons,List.map_nil,hA]
   rw [hrun,Nat.zero_add]
   rfl
  ·refine V.newArr (cs:=cs) (by rw [e1];simp) hμ (by omega) ?_
   simp only [List.nil_append,List.length_append,hp.1,hlen,hc2,Nat.zero_add,hzs]
   rw [← Nat.add_mul]
   exact Nat.mul_le_mul_right _ (by omega)

theorem KC {x y:Operand} {t u E:TypeId} {i:TypeInfo} {z:Value} {d:TypeDesc} {sz m p gg off len:Nat} {cs cs0:List AV} (ho:o.op= .call { callee:=.builtin .append,args:= #[x,y],argTypes:= #[t,u]})
  (hd:d= .string∨∃ E',d= .slice E') (ht:P.underlying t=some (.slice E)) (hu:P.underlying u=some d) (hi:P.info? E=some i) (hz:i.zero=some z) (hsz:i.size=sz) (hzs:z.cells.size=sz) (hpos:sz ≠ 0)
  (hx:opv e x= .arr p gg sz off len) (hσ:σ[p]? =some (.arr sz gg cs0)) (hend:(off+len) * sz=cs0.length) (hy:YI σ (opv e y)=some (cs,m)) (hys:szv (opv e y) sz) (h1:Zf cs=true)
  (hby:(len+m) * i.bytes≤140737488355328) (h63:len+m≤9223372036854775807) (hlen:cs.length=m * sz):
  AOp P σ e o (.arr p (gg+1) sz 0 (len+m)) (σ.set p (.arr sz (gg+1) (cs0.drop (off * sz)++cs))):=by
 intro s a hs g hv K Q hk _
 subst hs
 subst hsz
 have hplt:p < s.σ.length:=(List.getElem?_eq_some_iff.1 hσ).1
 obtain ⟨news,hp,hl,hf⟩:=(hv y (by simp [ho,Op.operands,Call.operands])).src g hy hys
 have hexec:∀ {v v':Value} {w':World},a.eval x=v→(Builtin.append_ #[t,u] o.type #[v,a.eval y]).run P s.w= .ok v' w'→(execOp a.eval o).run P s.w= .ok (.value v') w':=fun {v v' w'} h2 h3=>by
  simp only [execOp,ho,resolve,invoke,builtin,Sem.run_bind,Sem.run_pure,Result.andThen_ok,List.map_toArray,List.map_cons,List.map_nil,h2]
  rw [h3];rfl
 have hV:∀ {s':CS} {v:Value},s'.σ=s.σ.set p (.arr i.size (gg+1) (cs0.drop (off * i.size)++cs))→v.oneCell'=true→((∃ ad,v= .slice ad 0 0∧len+m=0)∨
    ∃ cap,v= .slice (some ⟨(s'.μ p).b,(s'.μ p).base+0 * i.size,none⟩) (len+m) cap∧len+m≤cap∧(s'.μ p).base+(0+cap) * i.size≤(s'.μ p).tot)→V s' (.arr p (gg+1) i.size 0 (len+m)) v:=fun {s' v} h1 h2 h3=>
  .arr _ _ _ _ _ _ h2 (.mk (cs:=cs0.drop (off * i.size)++cs) (by rw [h1];simp [hplt]) ⟨rfl,h3⟩)
 have hnewblock:∀ {A:Option Addr} {cap0:Nat} {olds:List Value},a.eval x= .slice A len cap0→cap0 < len+m→PW s (cs0.drop (off * i.size)) olds→(Builtin.firstCells i.size len (.slice A len cap0)).run P s.w.drew= .ok olds.toArray s.w.drew→o.wp P a s.w K Q:=fun {A cap0 olds} hA hroom hpo hfo=>by
  obtain ⟨rest,cap,hc1,hc2,hrun⟩:=KQ (ty:=o.type) (A:=A) (sLen:=len) (sCap:=cap0) (olds:=olds) (news:=news) (x:=a.eval y) hd ht hu hi hz hl (hf _ rfl) hfo hroom h63 hby
  have holen:olds.length=len * i.size:=by
   rw [hpo.1,List.length_drop,←hend,Nat.add_mul];omega
  have htot:(olds++news++rest).length=cap * i.size:=by
   simp only [List.length_append,holen,hp.1,hlen,hc2,hzs]
   rw [← Nat.add_mul,←Nat.add_mul];congr 1;omega
  have hcap:cap * i.size ≠ 0:=Nat.mul_ne_zero (by omega) hpos
  obtain ⟨s',e1,e2,g',x',hμ⟩:=g.renew hσ (g':=gg+1) (by omega) (cs':=cs0.drop (off * i.size)++cs) ⟨s.w.heap.size,0,(olds++news++rest).length⟩ (w':=s.w.drew.alloc (.cells (olds++news++rest).toArray E (0,0)))
   (by rw [Yd];exact Nat.le_succ _) rfl rfl rfl (fun b hb _=>by rw [ZI,if_neg (by rw [Q5k];omega)];rfl)
   (.inr ⟨.inr ⟨Nat.le_refl _,by rw [Yd];exact Nat.lt_succ_self _⟩,_,E,by rw [ZI];exact if_pos rfl,by rw [htot];exact hcap,rfl,by
    simp only [Nat.zero_add,List.length_append,hp.1,hpo.1];omega,by
    simp only [List.drop_zero]
    have h5:(olds++news).length=(cs0.drop (off * i.size)++cs).length:=by simp only [List.length_append,hpo.1,hp.1]
    rw [← h5,List.take_left];exact hpo.append hp⟩)
  refine Zn (w':=s'.w) (by rw [e2];exact hexec hA hrun) (hk _ _ s' ⟨rfl,e1⟩ g' x' (hV e1 rfl (.inr ⟨cap,?_,hc1,?_⟩)))
  ·rw [hμ];simp
  ·rw [hμ,htot];simp
 obtain ⟨_,⟨A,hA,h0⟩|⟨cap,hA,hlc,hfit⟩⟩:=(hx ▸ hv x (by simp [ho,Op.operands,Call.operands])).inv_arr hσ
 ·subst h0
  have hd0:cs0.drop (off * i.size)=[]:=List.drop_eq_nil_of_le (by rw [← hend];simp)
  by_cases hm:m=0
  ·subst hm
   have hcs:cs=[]:=List.eq_nil_of_length_eq_zero (by simpa using hlen)
   subst hcs
   have hn:=hp.inv_nil
   subst hn
   obtain ⟨s',e1,e2,g',x',hμ⟩:=g.renew hσ (g':=gg+1) (by omega) (cs':=cs0.drop (off * i.size)++[]) ⟨0,0,0⟩ (w':=s.w) (Nat.le_refl _) rfl rfl rfl (fun b _ _=>rfl) (.inl ⟨rfl,by rw [hd0];rfl⟩)
   exact Zn (w':=s'.w) (by rw [e2];exact hexec hA (J6 hd ht hu hi hl (hf _ rfl) (Nat.le_refl _))) (hk _ _ s' ⟨rfl,e1⟩ g' x' (hV e1 rfl (.inl ⟨A,rfl,rfl⟩)))
  ·exact hnewblock (olds:=[]) hA (by omega) (by rw [hd0];exact .nil) (V2 A _)
 ·by_cases hroom:len+m≤cap
  ·by_cases hct:cap=0
   ·have hl0:len=0:=by omega
    have hm0:m=0:=by omega
    subst hl0;subst hm0;subst hct
    have hcs:cs=[]:=List.eq_nil_of_length_eq_zero (by simpa using hlen)
    subst hcs
    have hn:=hp.inv_nil
    subst hn
    have hd0:cs0.drop (off * i.size)=[]:=List.drop_eq_nil_of_le (by rw [← hend];simp)
    obtain ⟨s',e1,e2,g',x',hμ⟩:=g.renew hσ (g':=gg+1) (by omega) (cs':=cs0.drop (off * i.size)++[]) ⟨0,0,0⟩ (w':=s.w) (Nat.le_refl _) rfl rfl rfl (fun b _ _=>rfl) (.inl ⟨rfl,by rw [hd0];rfl⟩)
    exact Zn (w':=s'.w) (by rw [e2];exact hexec hA (J6 hd ht hu hi hl (hf _ rfl) (Nat.le_refl _))) (hk _ _ s' ⟨rfl,e1⟩ g' x' (hV e1 rfl (.inl ⟨_,rfl,rfl⟩)))
   ·have hcs1:0 < cap * i.size:=Nat.pos_of_ne_zero (Nat.mul_ne_zero hct hpos)
    have hfit':(s.μ p).base+off * i.size+cap * i.size≤(s.μ p).tot:=by rw [Nat.add_mul] at hfit;omega
    have hlive:s.live p:=by unfold CS.live;rw [hσ];show (s.μ p).tot ≠ 0;omega
    obtain ⟨_,vs,T,hb,ht0,h7,h8,hpv⟩:=g.rep hσ hlive
    have hmle:len * i.size+m * i.size≤cap * i.size:=by rw [← Nat.add_mul];exact Nat.mul_le_mul_right _ hroom
    have hnl:news.length=m * i.size:=by rw [hp.1,hlen]
    have hcl0:cs0.length=off * i.size+len * i.size:=by rw [← hend,Nat.add_mul]
    have hrun:=Kf (ty:=o.type) (b:=(s.μ p).b) (off:=(s.μ p).base+off * i.size) (sLen:=len) (sCap:=cap) (x:=a.eval y) (news:=news) (cur:=vs) (T:=T) hd ht hu hi hl (hf _ rfl) hroom hb (by omega) (UF hp h1)
    obtain ⟨s',e1,e2,g',x',hμ⟩:=g.renew hσ (g':=gg+1) (by omega) (cs':=cs0.drop (off * i.size)++cs) ⟨(s.μ p).b,(s.μ p).base+off * i.size,(s.μ p).tot⟩
     (w':=s.w.setRow (s.μ p).b (vs.take ((s.μ p).base+off * i.size+len * i.size)++news++vs.drop ((s.μ p).base+off * i.size+len * i.size+news.length)).toArray)
     (by simp) rfl rfl rfl (fun b _ hne=>setRow_other _ _ _ _ (hne hlive))
     (.inr ⟨.inl ⟨rfl,hlive⟩,_,T,setRow_heap _ _ _ _ _ _ hb,ht0,by simp;omega,by simp [hlen,hcl0];omega,by
      have h9:=(hpv.drop (off * i.size)).append hp
      have h10:((vs.take ((s.μ p).base+off * i.size+len * i.size)++news++vs.drop ((s.μ p).base+off * i.size+len * i.size+news.length)).drop ((s.μ p).base+off * i.size)).take (cs0.drop (off * i.size)++cs).length=
        ((vs.drop (s.μ p).base).take cs0.length).drop (off * i.size)++news:=by
       apply List.ext_getElem?
       intro j
       simp only [List.getElem?_take,List.getElem?_drop,List.getElem?_append,List.length_append,List.length_take,List.length_drop,hlen,hcl0,hnl]
       by_cases c1:j < len * i.size
       ·simp only [show j < off * i.size+len * i.size - off * i.size+m * i.size by omega,if_true,show (s.μ p).base+off * i.size+j < min ((s.μ p).base+off * i.size+len * i.size) vs.length+m * i.size by omega,
         show (s.μ p).base+off * i.size+j < min ((s.μ p).base+off * i.size+len * i.size) vs.length by omega,show (s.μ p).base+off * i.size+j < (s.μ p).base+off * i.size+len * i.size by omega,
         show j < min (off * i.size+len * i.size) (vs.length - (s.μ p).base) - off * i.size by omega,show off * i.size+j < off * i.size+len * i.size by omega]
        congr 1;omega
       ·by_cases c2:j < len * i.size+m * i.size
        ·simp only [show j < off * i.size+len * i.size - off * i.size+m * i.size by omega,if_true,show (s.μ p).base+off * i.size+j < min ((s.μ p).base+off * i.size+len * i.size) vs.length+m * i.size by omega,
          show ¬(s.μ p).base+off * i.size+j < min ((s.μ p).base+off * i.size+len * i.size) vs.length by omega,if_false,show ¬j < min (off * i.size+len * i.size) (vs.length - (s.μ p).base) - off * i.size by omega]
         congr 1;omega
        ·simp only [show ¬j < off * i.size+len * i.size - off * i.size+m * i.size by omega,if_false,show ¬j < min (off * i.size+len * i.size) (vs.length - (s.μ p).base) - off * i.size by omega]
         rw [List.getElem?_eq_none (by rw [hnl];omega)]
      show PW s _ (List.take _ (List.drop ((s.μ p).base+off * i.size) _))
      rw [h10];exact h9⟩)
    refine Zn (w':=s'.w) (by rw [e2];exact hexec hA hrun) (hk _ _ s' ⟨rfl,e1⟩ g' x' (hV e1 rfl (.inr ⟨cap,?_,hroom,?_⟩)))
    ·rw [hμ];simp
    ·rw [hμ];simp;omega
  ·have hct:(s.μ p).tot ≠ 0∨len * i.size=0:=by
    rcases Nat.eq_zero_or_pos (s.μ p).tot with h|h
    ·right
     have:(off+cap) * i.size=0:=by omega
     have h6:len * i.size≤(off+cap) * i.size:=Nat.mul_le_mul_right _ (by omega)
     omega
    ·left;omega
   rcases hct with hct|hl0
   ·have hlive:s.live p:=by unfold CS.live;rw [hσ];exact hct
    obtain ⟨_,vs,T,hb,ht0,h7,h8,hpv⟩:=g.rep hσ hlive
    have hcl0:cs0.length=off * i.size+len * i.size:=by rw [← hend,Nat.add_mul]
    have hpo:=hpv.drop (off * i.size)
    refine hnewblock hA (by omega) hpo (run_firstCells_some s.w.drew i.size len _ len cap _ (by simp;omega) fun j v hj=>?_)
    rw [X3]
    rw [List.getElem?_drop,List.getElem?_take] at hj
    split at hj
    ·rw [List.getElem?_drop] at hj
     show s.w.cell? _=_
     rw [YD hb,Nat.add_assoc];exact hj
    ·cases hj
   ·have hd0:cs0.drop (off * i.size)=[]:=List.drop_eq_nil_of_le (by rw [← hend,Nat.add_mul];omega)
    have hl1:len=0:=by
     rcases Nat.mul_eq_zero.1 hl0 with h|h
     ·exact h
     ·exact absurd h hpos
    subst hl1
    refine hnewblock (olds:=[]) hA (by omega) (by rw [hd0];exact .nil) ?_
    simp [Builtin.firstCells,loadCells,loadCellsFrom]
end Lg
