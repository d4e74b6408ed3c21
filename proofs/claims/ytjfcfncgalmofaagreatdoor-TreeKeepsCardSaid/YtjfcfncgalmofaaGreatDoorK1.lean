/- A part of the proof of Apply keeps what the document says of a tree's nodes.. -/
import Derived.Test.YtjfcfncgalmofaaGreatDoorT1
import Derived.Test.YtjfcfncgalmofaaGreatDoorT2
import Derived.Test.YtjfcfncgalmofaaGreatDoorT3
import Derived.Test.YtjfcfncgalmofaaGreatDoorT4
import Derived.Test.YtjfcfncgalmofaaGreatDoorT5
import Derived.Test.YtjfcfncgalmofaaGreatDoorT6
import Derived.Test.YtjfcfncgalmofaaGreatDoorT7
import Derived.Test.YtjfcfncgalmofaaGreatDoorT8
import Derived.Test.YtjfcfncgalmofaaGreatDoorT9
import Derived.Test.YtjfcfncgalmofaaGreatDoorT10
import Derived.SizedLaws
import Derived.LaidHandle
import Derived.Test.YtjfcfncgalmofaaGreatDoorTie
import Derived.Test.YtjfcfncgalmofaaGreatDoorCards
import Derived.SevenTiedAt
set_option linter.unusedVariables false
set_option linter.unusedSimpArgs false
set_option linter.unusedSectionVars false
namespace Lg
open Go Go.RowKit
variable [GLay]
variable {P:Program} {σ:List AO} {e:Env} {o:Oper}
theorem zd20 {G R:Prop} (k:R) (h:Hid R→G:=by
 intro kk
 iterate 20 (first|refine yS rfl rfl rfl ?_|refine yAG rfl rfl rfl (fun _=>zoa) ?_|refine yA rfl rfl (fun _=>zoa) ?_)
 exact kk.h):G:=h ⟨k⟩
theorem zd30 {G R:Prop} (k:R) (h:Hid R→G:=by
 intro kk
 iterate 30 (first|refine yS rfl rfl rfl ?_|refine yAG rfl rfl rfl (fun _=>zoa) ?_|refine yA rfl rfl (fun _=>zoa) ?_)
 exact kk.h):G:=h ⟨k⟩
end Lg
namespace Lg
open Go
def Kept (nm:BL) (t t':JT):Prop:=t'.k=t.k∧∀ (i:Nat) key x,t.ks[i]? =some key→t.ch[i]? =some x→¬key=ba nm→∃ j:Nat,t'.ks[j]? =some key∧t'.ch[j]? =some x
theorem kept_set {nm:BL} {t:JT} {id:Int} {y:JT} (hf:J9 t.ks (ba nm)=true):Kept nm t (tup t id t.ks (t.ch.set (YA t.ks (ba nm)) y)):=
 ⟨rfl,fun i key x h1 h2 h3=>⟨i,h1,by
  show (t.ch.set _ _)[i]? =_
  rw [List.getElem?_set,if_neg (fun e=>?_)]
  ·exact h2
  ·subst e;rw [K2 hf] at h1;cases h1;exact h3 rfl⟩⟩
theorem get_ins {α:Type} {l:List α} {p i:Nat} {a x:α} (hp:p≤l.length) (h:l[i]? =some x):(l.take p++a :: l.drop p)[if i < p then i else i+1]? =some x:=by
 have hl:(l.take p).length=p:=by rw [List.length_take];omega
 by_cases hi:i < p
 ·rw [if_pos hi,List.getElem?_append_left (by omega),List.getElem?_take,if_pos hi];exact h
 ·rw [if_neg hi,List.getElem?_append_right (by omega),hl,show i+1 - p=(i - p)+1 by omega,List.getElem?_cons_succ,List.getElem?_drop,show p+(i - p)=i by omega];exact h
theorem get_del {α:Type} {l:List α} {p i:Nat} {x:α} (hp:p < l.length) (hne:¬i=p) (h:l[i]? =some x):(l.take p++l.drop (p+1))[if i < p then i else i - 1]? =some x:=by
 have hl:(l.take p).length=p:=by rw [List.length_take];omega
 by_cases hi:i < p
 ·rw [if_pos hi,List.getElem?_append_left (by omega),List.getElem?_take,if_pos hi];exact h
 ·rw [if_neg hi,List.getElem?_append_right (by omega),hl,List.getElem?_drop,show p+1+(i - 1 - p)=i by omega];exact h
section
variable {t:JT} {nx:Int} (h5:t.k=5) (hw:TW t)
include h5
theorem kept_twi {g:JT→Int→TR} {nm:BL} {r:List BL} (hk:(twi g (nm :: r) t nx).2.2=true):Kept nm t (twi g (nm :: r) t nx).1:=by
 by_cases h:tfo t nm false=true
 ·cases hx:t.ch[tfk t nm false]? with
  |none=>rw [twi,if_pos h,hx] at hk;cases hk
  |some x=>
   cases hb:(twi g r x nx).2.2 with
   |false=>rw [Ue h hx hb] at hk;cases hk
   |true=>
    rw [Fd h hx hb,VV h5]
    exact kept_set (by rw [← Vm h5 (e:=false)];exact h)
 ·rw [Ga (by simpa using h)] at hk;cases hk
include hw
theorem kept_add {nm:BL} {x:JT} (hk:(YB nm x t nx).2.2=true):Kept nm t (YB nm x t nx).1:=by
 unfold YB at hk ⊢
 rw [if_neg (by omega),if_pos h5]
 by_cases hf:J9 t.ks (ba nm)=true
 ·rw [if_pos hf];exact kept_set hf
 ·rw [if_neg hf]
  have hp:=Q4c t.ks (ba nm)
  have hl:=Vr hw h5
  exact ⟨rfl,fun i key y h1 h2 h3=>⟨_,get_ins hp h1,get_ins (by omega) h2⟩⟩
theorem kept_rem {nm:BL} (hk:(XJ nm t nx).2.2=true):Kept nm t (XJ nm t nx).1:=by
 unfold XJ at hk ⊢
 by_cases h:tfo t nm false=true
 ·rw [if_pos h,if_pos h5,VV h5]
  have hf:J9 t.ks (ba nm)=true:=by rw [← Vm h5 (e:=false)];exact h
  have hp:=(List.getElem?_eq_some_iff.1 (K2 hf)).1
  have hl:=Vr hw h5
  refine ⟨rfl,fun i key y h1 h2 h3=>?_⟩
  have hne:¬i=YA t.ks (ba nm):=fun e=>by subst e;rw [K2 hf] at h1;cases h1;exact h3 rfl
  exact ⟨_,get_del hp hne h1,get_del (by omega) hne h2⟩
 ·rw [if_neg h] at hk;cases hk
theorem kept_addL {nm:BL} {r:List BL} {x:JT} (hk:(ZR (nm :: r) x t nx).2.2=true):Kept nm t (ZR (nm :: r) x t nx).1:=by
 unfold ZR at hk ⊢
 rw [if_neg (by simp)] at hk ⊢
 cases r with
 |nil=>exact kept_add h5 hw hk
 |cons a r=>exact kept_twi h5 hk
theorem kept_remL {nm:BL} {r:List BL} (hk:(Z8 (nm :: r) t nx).2.2=0):Kept nm t (Z8 (nm :: r) t nx).1:=by
 unfold Z8 at hk ⊢
 rw [if_neg (by simp)] at hk ⊢
 cases r with
 |nil=>exact kept_rem h5 hw (Q6X hk)
 |cons a r=>exact kept_twi h5 (Q6X hk)
theorem tdo_keeps [GLay] {o:JOp} (hob:OPB o) {nm:BL} {r:List BL} (hpa:o.pa=nm :: r) (hk:(tdo t o nx).2.2=0) {i:Nat} {key:ByteArray} {x:JT} (h1:t.ks[i]? =some key) (h2:t.ch[i]? =some x) (h3:¬key=ba nm)
  (h4:∀ nf rf,o.op=4→o.fr=nf :: rf→¬key=ba nf):∃ j:Nat,(tdo t o nx).1.ks[j]? =some key∧(tdo t o nx).1.ch[j]? =some x:=by
 unfold tdo at hk ⊢
 rw [hpa] at hk ⊢
 by_cases e1:o.op=1
 ·rw [if_pos e1] at hk ⊢;exact (kept_addL h5 hw (Q6X hk)).2 i key x h1 h2 h3
 rw [if_neg e1] at hk ⊢
 by_cases e2:o.op=2
 ·rw [if_pos e2] at hk ⊢;exact (kept_remL h5 hw hk).2 i key x h1 h2 h3
 rw [if_neg e2] at hk ⊢
 by_cases e3:o.op=3
 ·rw [if_pos e3] at hk ⊢;exact (kept_twi h5 (Q6X hk)).2 i key x h1 h2 h3
 rw [if_neg e3] at hk ⊢
 by_cases e4:o.op=4
 ·rw [if_pos e4] at hk ⊢
  unfold tmv at hk ⊢
  by_cases ha:o.fr.length < o.pa.length∧o.pa.take o.fr.length=o.fr
  ·rw [if_pos ha] at hk;exact absurd hk (show ¬(9:Int)=0 by decide)
  ·rw [if_neg ha] at hk ⊢
   cases e:Xi o.fr t with
   |none=>rw [e] at hk;exact absurd hk (show ¬(6:Int)=0 by decide)
   |some y=>
    rw [e] at hk;simp only at hk ⊢
    by_cases hp:o.pa=o.fr
    ·rw [if_pos hp];exact ⟨i,h1,h2⟩
    ·rw [if_neg hp] at hk ⊢
     by_cases hr:(Z8 o.fr t nx).2.2=0
     ·rw [if_neg (fun z=>z hr)] at hk ⊢
      cases ef:o.fr with
      |nil=>rw [ef] at hr;unfold Z8 at hr;rw [if_pos rfl] at hr;exact absurd hr (show ¬(7:Int)=0 by decide)
      |cons nf rf=>
       rw [ef] at hr hk
       obtain ⟨k1,k2⟩:=kept_remL h5 hw hr
       obtain ⟨j,j1,j2⟩:=k2 i key x h1 h2 (h4 nf rf e4 ef)
       have hw1:=((G7 (nf :: rf) nx hw).2 hr).2
       rw [hpa] at hk ⊢
       exact (kept_addL (by rw [k1];exact h5) hw1 (Q6X hk)).2 j key x j1 j2 h3
     ·rw [if_pos hr] at hk;exact absurd hk hr
 rw [if_neg e4] at hk ⊢
 cases e:Xi (if o.op=6 then nm :: r else o.fr) t with
 |none=>rw [e] at hk;exact absurd hk (show ¬(6:Int)=0 by decide)
 |some y=>
  rw [e] at hk;simp only at hk ⊢
  by_cases e5:o.op=5
  ·rw [if_pos e5] at hk ⊢;exact (kept_addL h5 hw (Q6X hk)).2 i key x h1 h2 h3
  ·rw [if_neg e5] at hk ⊢
   split
   ·exact ⟨i,h1,h2⟩
   ·rename_i hs;rw [if_neg hs] at hk;exact absurd hk (show ¬(8:Int)=0 by decide)
end
end Lg
set_option maxRecDepth 20000
set_option maxHeartbeats 4000000
namespace Lg
open Go Go.Proofs Go.RowKit
variable [GLay]
theorem op_neErr {P:Program} {σ:List AO} {e:Env} {o:Oper} {T T':TypeId} {x:Operand} {ms:Array (String×TypeId)} {z:Option (Int×Int)} (ho:o.op= .binOp .neq T x (.const .nilIface) T') (hu:P.underlying T=some (.interface ms)) (hx:opO e x=some (Q9t z)):AOp P σ e o (.bool z.isSome) σ:=by
 cases z with
 |none=>exact UL ho hu hx
 |some z=>exact Q0Q ho hu hx
end Lg
namespace Lg
open Go
variable [GLay]
end Lg
namespace Lg
open Go
variable [GLay]
theorem tap_one {o:JOp} {u:JT} {nx:Int} (h:(tap [o] u nx 0).2.2.1=0):(tdo u o nx).2.2=0∧(tap [o] u nx 0).1=(tdo u o nx).1:=by
 by_cases hc:Xm (tv (tdo u o nx).1,(tdo u o nx).2.2)=0
 ·rw [Q3I hc,tap];exact ⟨(Q0z hc).1,rfl⟩
 ·rw [Q1j hc] at h;exact absurd h hc
theorem RI.tp {u:JT} {nx:Int} {S:LS} {r:Nat} (h:RI u nx S r) (hr:r < 2) {L:List JOp} (hl:L.length≤100) (hob:∀ o∈L,OPB o) (hc:(tap L u nx 0).2.2.1=0) (frm:Int) (hn0:0≤S.2.1) (hnb:S.2.1≤900000) (p q:Nat) (τ:List AO) (hp:τ[p]? =some (tbx q frm S)) (hq:τ[q]? =some (.map (Za S.1))):
  TW (tap L u nx 0).1∧Q6 (tv (tap L u nx 0).1)≤3000∧∃ G,TP G (tap L u nx 0).2.1 (tap L u nx 0).1 0 frm S p q τ:=by
 obtain ⟨G,hG,hS⟩:=h.con
 obtain ⟨j1,j2⟩:=Q1k L nx 0 hob h.w
 have hj:(jap L (tv u) 0).2.1=0:=by rw [← j1];exact hc
 obtain ⟨hv,hw⟩:=j2 hc
 obtain ⟨⟨G2,a2,c2⟩,n1,n2⟩:=Q8O L 0 hob h.w h.n0 hG hc
 obtain ⟨w1,w2,w3⟩:=Q34 L (tv u) 0 hob h.jb (Jx u h.w) h.sz
 have hd:=Q46 L (tv u) 0 h.dp hj
 have hm:=HA hob
 have h1:=h.nb
 have hlen:=h.len
 have h0:=h.n0
 refine ⟨hw,by rw [hv];exact w3,G2,hp,hq,hw,by rw [hv];exact w1,c2,hS.mono n1 a2,by rw [hv];omega,Int.le_refl _,by rw [hv];omega,by omega,hn0,by rw [hv];omega⟩
end Lg
set_option maxRecDepth 20000
set_option maxHeartbeats 4000000
namespace Lg
open Go Go.Proofs Go.RowKit
variable [GLay] [ET]
theorem treeKeeps_c (s pt:ByteArray) (σ:List AO):ACalls Tryz.prog 4 [.str s,.str pt] σ (Ret (.bool true) σ):=by
 refine Qc Tryz.func4 rfl Tryz.ntmps4 (XE Tryz.results4) (Nat.le_of_ble_eq_true rfl) (fun hcl hal=>?_)
 have hva:=US s
 have hvd:=Q3B s
 have hol:=Q7L pt
 refine zw1 ?_
 refine zsr ?_
 refine zt rfl (zc rfl (Qdg _)) ?_
 refine zv1 ?_
 refine zu1 ?_
 refine zt rfl (zc rfl (Q1r s _)) ?_
 generalize (QW s).1=v at hva hvd ⊢
 generalize (QW s).2=ok at hva hvd ⊢
 rw [Q3 v]
 refine zv6 ?_
 refine zu1 ?_
 refine zt rfl (zc rfl (Q84 pt _)) ?_
 generalize (opQ pt).1=l at hol ⊢
 generalize (opQ pt).2=ok2
 have hrl:=K9 l
 refine zv5 ?_
 refine Q0 ?_
 refine zu3 ?_
 refine zsp 32 rfl (fun h1=>?_) fun h1=>?_
 ·rw [h1];replace h1:=zcl h1
  refine J7 ?_
  refine zg3 ?_
  refine zon ?_
  refine Qj rfl ?_
  refine zw2 ?_
  refine zrt ?_
  exact Z5 rfl hcl trivial (Q8 rfl)
 ·rw [h1];replace h1:=zcl h1
  refine zg4 ?_
  refine zsp 36 rfl (fun h2=>?_) fun h2=>?_
  ·rw [h2];replace h2:=zcl h2
   refine zv9 ?_
   refine Qj rfl ?_
   refine zw2 ?_
   refine zrt ?_
   exact Z5 rfl hcl trivial (Q8 rfl)
  ·rw [h2];replace h2:=zcl h2
   refine zg5 ?_
   refine zsp 41 rfl (fun h3=>?_) fun h3=>?_
   ·rw [h3];replace h3:=zcl h3
    refine zv4 ?_
    refine Qj rfl ?_
    refine zw2 ?_
    refine zrt ?_
    exact Z5 rfl hcl trivial (Q8 rfl)
   ·rw [h3];replace h3:=zcl h3
    refine zv4 ?_
    refine Q2 rfl (fun h4=>?_) (fun h4=>?_)
    ·(try rw [h4]);replace h4:=zcl h4
     refine zw2 ?_
     refine zrt ?_
     exact Z5 rfl hcl trivial (Q8 rfl)
    ·(try rw [h4]);replace h4:=zcl h4
     obtain ⟨hmy,hjv,hsv⟩:Ye v∧jb v∧Q6 v≤2002:=by
      rcases hva with ⟨h,_⟩|⟨_,h⟩
      ·exfalso;omega
      ·exact h
     have hst:=Q7B hmy
     have hdv:=hvd h1
     have hvt:tv (tj v 0)=v:=Q0b v 0 hst
     obtain ⟨o,rfl⟩:∃ o,l=[o]:=by
      match l,hrl,h3 with
      |[],hrl,h3=>exact absurd h3 (by rw [hrl];decide)
      |[o],_,_=>exact ⟨o,rfl⟩
      |_ :: _ :: _,hrl,h3=>exact absurd h3 (by rw [hrl];simp;omega)
     have hk5:v.kind=5:=h4
     have hLo:=hol.2
     have hoo:=hLo o (List.mem_singleton.2 rfl)
     refine Q1 ?_
     refine zu1 ?_
     refine zt rfl (zc rfl (Q3 v ▸ Q6f v _ hjv (by omega))) ?_
     refine zv5 ?_
     refine zsr ?_
     refine zt rfl (Q26 1 rfl rfl) ?_
     refine zv3 ?_
     refine Q0 ?_
     refine Q0 ?_
     obtain ⟨⟨G,hT⟩,hI0⟩:=RI.start (p:=σ.length+2) (q:=σ.length+1) (σ:=σ++[.box [.int .i64 v.kind,.bool v.b,.bool v.n.neg,.str v.n.digits,.int .i64 v.n.exp,.str v.s,.sl false 8 (Q7 v.l),.sl false 9 (Q5 v.m)],.map [],.box [.mapv (σ.length+1),.int .i64 0,.int .i64 0,.int .i64 0]]) hjv hst (by omega) hdv 0 (Zz 2) (Zz 1)
     have hSb:=hT.all.nb
     rw [hvt] at hSb
     have hSb:0≤(lk 0 (tj v 0) ([],0,0)).2.1∧(lk 0 (tj v 0) ([],0,0)).2.1≤900000:=by simp only at hSb;omega
     refine Q4 ?_
     refine zg2 ?_
     refine zt rfl (zc rfl (Q6M 2 1 (Q0a 3000 G (Q6 v) (tj v 0) 0 0 ([],0,0) (σ.length+2) (σ.length+1) _ (by rw [hvt];omega) hT))) ?_
     simp only [tbx]
     generalize lk 0 (tj v 0) ([],0,0)=S at hI0 hSb ⊢
     generalize tj v 0=u at hI0 hvt ⊢
     generalize Q6 v=nx at hI0 ⊢
     have hI:=hI0
     have hu5:u.k=5:=by rw [← XK,hvt];exact hk5
     refine zt rfl (Xx rfl rfl rfl (by decide)) ?_
     refine zon ?_
     refine Qd rfl ?_
     refine Q1 ?_
     refine Q0 ?_
     have hml:=HA hLo
     have hnb:=hI.nb
     have hbnd:nx+Xf [o]≤400000000000:=by simp only [List.length_singleton] at hml;omega
     refine Q4 ?_
     refine zg3 ?_
     refine zt rfl (zc rfl (QcZ [o] false (by show 1≤1000;decide) hLo u nx _ hI.w hI.jb hI.sz hI.n0 hbnd)) ?_
     refine zv7 ?_
     refine Q0 ?_
     refine zu1 ?_
     refine zt rfl (op_neErr rfl Tryz.underlying43 rfl) ?_
     refine zg1 ?_
     refine zsp 69 rfl (fun h5=>?_) fun h5=>?_
     ·rw [h5];replace h5:=zcl h5
      refine zv7 ?_
      refine Qj rfl ?_
      refine zw2 ?_
      refine zrt ?_
      exact Z5 rfl hcl trivial (Q8 rfl)
     ·rw [h5];replace h5:=zcl h5
      have hc0:(tap [o] u nx 0).2.2.1=0:=by
       cases Classical.em ((tap [o] u nx 0).2.2.1=0) with
       |inl h=>exact h
       |inr h=>rw [Qdx h] at h5;cases h5
      rw [(Q8Y hc0).1]
      obtain ⟨hXw,hXz,G2,hT2⟩:=RI.tp (p:=σ.length+2) (q:=σ.length+1) (τ:=σ++[.box [.int .i64 v.kind,.bool v.b,.bool v.n.neg,.str v.n.digits,.int .i64 v.n.exp,.str v.s,.sl false 8 (Q7 v.l),.sl false 9 (Q5 v.m)],.map (Za S.1),.box [.mapv (σ.length+1),.int .i64 0,.int .i64 S.2.1,.int .i64 S.2.2]]) hI (by decide) (by show 1≤100;decide) hLo hc0 0 hSb.1 hSb.2 (Zz 2) (Zz 1)
      obtain ⟨hto,hX1⟩:=tap_one hc0
      generalize hXe:(tap [o] u nx 0).1=X at hXw hXz hT2 hX1 ⊢
      refine zg1 ?_
      refine ztG rfl rfl (Qe rfl Tryz.underlying31 Tryz.sizeOf53 rfl rfl (by omega) (rfl)) ?_
      rw [QP o]
      refine zv5 ?_
      refine Q2 rfl (fun h6=>?_) (fun h6=>?_)
      ·(try rw [h6]);replace h6:=zcl h6
       refine zw2 ?_
       refine zrt ?_
       exact Z5 rfl hcl trivial (Q8 rfl)
      ·(try rw [h6]);replace h6:=zcl h6
       obtain ⟨nm,rp,hpa⟩:∃ nm rp,o.pa=nm :: rp:=by
        match he:o.pa with
        |[]=>rw [he] at h6;exact absurd rfl h6
        |a :: r=>exact ⟨a,r,rfl⟩
       have hps:(Qy o.pa)[0]? =some [.str (ba nm)]:=by rw [hpa];rfl
       have hXl:X.ks.length ≠ 0→X.ks.length=X.ch.length:=fun h=>by
        by_cases h5:X.k=5
        ·exact Vr hXw h5
        ·rw [Uc hXw h5] at h;exact absurd rfl h
       have hul:=Vr hI.w hu5
       refine Q1 ?_
       refine Q0 ?_
       refine zu2 ?_
       refine zt rfl (zc rfl (Q6M 2 1 (Q0a 3000 G2 (tap [o] u nx 0).2.1 X 0 0 S (σ.length+2) (σ.length+1) _ hXz hT2))) ?_
       simp only [tbx]
       have hS2:∀ k,∀ a∈(lk 0 X S).1,a.2.lt k:=fun k=>hT2.ltA k
       generalize lk 0 X S=S2 at hS2 ⊢
       refine zt rfl (Xx rfl rfl rfl (by decide)) ?_
       refine zon ?_
       refine Qd rfl ?_
       refine Q1 ?_
       refine Q0 ?_
       refine Q0 ?_
       rw [G0 u,G0 X]
       have hus:=Ud hI.w hI.sz
       have hxs:=Ud hXw hXz
       refine Q4 ?_
       refine zv1 ?_
       refine Qa ?_
       refine Qs (ι:=Nat) (fun i=>i≤u.ks.length) (fun i=>⟨[],[(5,.bool true),(8,.sl false 11 (ZP [o])),(10,.pp [.int .i64 u.id,.int .i64 u.k,.bool u.b,.bool u.n.neg,.str u.n.digits,.int .i64 u.n.exp,.str u.s,.nils,.nils,.sl false 1 (ZC u.ks),.sl false 1 (tcs u.ch)]),(13,.pp [.int .i64 X.id,.int .i64 X.k,.bool X.b,.bool X.n.neg,.str X.n.digits,.int .i64 X.n.exp,.str X.s,.nils,.nils,.sl false 1 (ZC X.ks),.sl false 1 (tcs X.ch)]),(16,.int .i64 (i:Int))]⟩) (fun i=>σ++[.box [.int .i64 v.kind,.bool v.b,.bool v.n.neg,.str v.n.digits,.int .i64 v.n.exp,.str v.s,.sl false 8 (Q7 v.l),.sl false 9 (Q5 v.m)],.map (Za S2.1),.box [.mapv (σ.length+1),.int .i64 0,.int .i64 S2.2.1,.int .i64 S2.2.2]]) (fun i=>u.ks.length - i) (0) (Nat.zero_le _) ?_ rfl (fun i hi=>?_)
       ·exact ⟨rfl,rfl,rfl,rfl,rfl,rfl,trivial⟩
       have hub:=ZD u.ks
       have hxb:=ZD X.ks
       refine Q0 ?_
       refine zw7 ?_
       refine Q2 rfl (fun h7=>?_) (fun h7=>?_)
       ·(try rw [h7]);replace h7:=zcl h7
        obtain ⟨key,hkey⟩:∃ x,u.ks[i]? =some x:=⟨_,List.getElem?_eq_getElem (show i < u.ks.length by omega)⟩
        obtain ⟨xk,hxkk⟩:∃ x,u.ch[i]? =some x:=⟨_,List.getElem?_eq_getElem (show i < u.ch.length by omega)⟩
        have hkr:=Wm hkey
        have hcr:(tcs u.ch)[i]? =some [.pp [.int .i64 xk.id,.int .i64 xk.k,.bool xk.b,.bool xk.n.neg,.str xk.n.digits,.int .i64 xk.n.exp,.str xk.s,.nils,.nils,.sl false 1 (ZC xk.ks),.sl false 1 (tcs xk.ch)]]:=by rw [KK hxkk,G0 xk]
        refine Q1 ?_
        refine Q0 ?_
        refine Qa ?_
        refine Q0 ?_
        refine Q0 ?_
        refine Qb #[0,1,3,7,0,31,63,0,128,384,896,1920,3968,8191] Tryz.mixed (by decide +kernel) (by decide +kernel) ?_
        refine zd3 ?_
        refine zp1 ?_
        refine zd1 ?_
        refine yA rfl rfl (fun _=>Qe rfl Tryz.underlying51 Tryz.sizeOf9 rfl rfl (by omega) (hkr)) ?_
        refine zp1 ?_
        refine zd1 ?_
        refine yA rfl rfl (fun _=>Qe rfl Tryz.underlying31 Tryz.sizeOf53 rfl rfl (by omega) (rfl)) ?_
        rw [QP o]
        refine zd1 ?_
        refine zp1 ?_
        refine yA rfl rfl (fun _=>Qe rfl Tryz.underlying51 Tryz.sizeOf9 rfl rfl (by omega) (hps)) ?_
        refine zp1 ?_
        refine zd1 ?_
        refine RP.nil rfl ?_
        refine Q2 rfl (fun h8=>?_) (fun h8=>?_)
        ·(try rw [h8]);replace h8:=zcl h8
         refine Qg ?_
         refine Q4 ?_
         refine zv3 ?_
         refine ⟨i+1,σ.length+3,by omega,by omega,by simp,⟨rfl,rfl,rfl,rfl,rfl,rfl,trivial⟩,Qh 3 hcl ?_,?_,Qo 3⟩
         ·simp [ownLt,AO.cells,AV.ltL,AV.lt]<;>exact Wy _ _ (hS2 _)
         ·simp [ltE,AV.lt,AV.ltL]
        ·(try rw [h8]);replace h8:=zcl h8
         have hkp:(∀ nf rf,o.op=4→o.fr=nf :: rf→¬key=ba nf)→∃ j:Nat,X.ks[j]? =some key∧X.ch[j]? =some xk:=fun h=>by rw [hX1];exact tdo_keeps hu5 hI.w hoo hpa hto hkey hxkk h8 h
         refine Q1 ?_
         refine Q0 ?_
         refine zu1 ?_
         refine zt rfl (Qe rfl Tryz.underlying31 Tryz.sizeOf53 rfl rfl (by omega) (rfl)) ?_
         rw [QP o]
         refine zg4 ?_
         refine zsp 110 rfl (fun h9=>?_) fun h9=>?_
         ·rw [h9];replace h9:=zcl h9
          refine zg1 ?_
          refine ztG rfl rfl (Qe rfl Tryz.underlying31 Tryz.sizeOf53 rfl rfl (by omega) (rfl)) ?_
          (try rw [QP o])
          refine zv5 ?_
          refine Q2 rfl (fun h10=>?_) (fun h10=>?_)
          ·(try rw [h10]);replace h10:=zcl h10
           obtain ⟨nf0,rf0,hfs⟩:∃ nm rp,o.fr=nm :: rp:=by
            match he:o.fr with
            |[]=>rw [he] at h10;exact absurd h10 (by decide)
            |a :: r=>exact ⟨a,r,rfl⟩
           have hfr:(Qy o.fr)[0]? =some [.str (ba nf0)]:=by rw [hfs];rfl
           refine Q0 ?_
           refine Qb #[0,1,3,7,0,31,63,0,128,384,896,1920,3968,8191] Tryz.mixed (by decide +kernel) (by decide +kernel) ?_
           refine zd3 ?_
           refine zp1 ?_
           refine zd1 ?_
           refine yA rfl rfl (fun _=>Qe rfl Tryz.underlying51 Tryz.sizeOf9 rfl rfl (by omega) (hkr)) ?_
           refine zp1 ?_
           refine zd1 ?_
           refine yA rfl rfl (fun _=>Qe rfl Tryz.underlying31 Tryz.sizeOf53 rfl rfl (by omega) (rfl)) ?_
           rw [QP o]
           refine zd1 ?_
           refine zp1 ?_
           refine yA rfl rfl (fun _=>Qe rfl Tryz.underlying51 Tryz.sizeOf9 rfl rfl (by omega) (hfr)) ?_
           refine zp1 ?_
           refine zd1 ?_
           refine RP.nil rfl ?_
           refine Q2 rfl (fun h11=>?_) (fun h11=>?_)
           ·(try rw [h11]);replace h11:=zcl h11
            refine Qg ?_
            refine Q4 ?_
            refine zv3 ?_
            refine ⟨i+1,σ.length+3,by omega,by omega,by simp,⟨rfl,rfl,rfl,rfl,rfl,rfl,trivial⟩,Qh 3 hcl ?_,?_,Qo 3⟩
            ·simp [ownLt,AO.cells,AV.ltL,AV.lt]<;>exact Wy _ _ (hS2 _)
            ·simp [ltE,AV.lt,AV.ltL]
           ·(try rw [h11]);replace h11:=zcl h11
            refine Q1 ?_
            refine zw1 ?_
            refine Q0 ?_
            refine zw1 ?_
            refine Qa ?_
            refine Qs (ι:=Nat×Bool) (fun z=>z.1≤X.ks.length∧((∃ j:Nat,j < z.1∧X.ks[j]? =some key∧X.ch[j]? =some xk)→z.2=true)) (fun z=>⟨[],[(5,.bool true),(8,.sl false 11 (ZP [o])),(10,.pp [.int .i64 u.id,.int .i64 u.k,.bool u.b,.bool u.n.neg,.str u.n.digits,.int .i64 u.n.exp,.str u.s,.nils,.nils,.sl false 1 (ZC u.ks),.sl false 1 (tcs u.ch)]),(13,.pp [.int .i64 X.id,.int .i64 X.k,.bool X.b,.bool X.n.neg,.str X.n.digits,.int .i64 X.n.exp,.str X.s,.nils,.nils,.sl false 1 (ZC X.ks),.sl false 1 (tcs X.ch)]),(16,.int .i64 (i:Int)),(17,.bool z.2),(18,.int .i64 (z.1:Int))]⟩) (fun z=>σ++[.box [.int .i64 v.kind,.bool v.b,.bool v.n.neg,.str v.n.digits,.int .i64 v.n.exp,.str v.s,.sl false 8 (Q7 v.l),.sl false 9 (Q5 v.m)],.map (Za S2.1),.box [.mapv (σ.length+1),.int .i64 0,.int .i64 S2.2.1,.int .i64 S2.2.2]]) (fun z=>X.ks.length - z.1) ((0,false)) (⟨Nat.zero_le _,fun ⟨j,h,_⟩=>absurd h (Nat.not_lt_zero j)⟩) ?_ rfl (fun z hz=>?_)
            ·exact ⟨rfl,rfl,rfl,rfl,rfl,rfl,rfl,rfl,trivial⟩
            obtain ⟨k,kb⟩:=z
            obtain ⟨hk1,hk2⟩:=hz
            simp only at hk1 hk2 ⊢
            refine Q0 ?_
            refine zw7 ?_
            refine Q2 rfl (fun h12=>?_) (fun h12=>?_)
            ·(try rw [h12]);replace h12:=zcl h12
             obtain ⟨xkey,hxk⟩:∃ x,X.ks[k]? =some x:=⟨_,List.getElem?_eq_getElem (show k < X.ks.length by omega)⟩
             obtain ⟨y,hyk⟩:∃ y,X.ch[k]? =some y:=⟨_,List.getElem?_eq_getElem (show k < X.ch.length by have:=hXl (by omega);omega)⟩
             have hxr:=Wm hxk
             have hyr:(tcs X.ch)[k]? =some [.pp [.int .i64 y.id,.int .i64 y.k,.bool y.b,.bool y.n.neg,.str y.n.digits,.int .i64 y.n.exp,.str y.s,.nils,.nils,.sl false 1 (ZC y.ks),.sl false 1 (tcs y.ch)]]:=by rw [KK hyk,G0 y]
             refine Q1 ?_
             refine Q0 ?_
             refine Qa ?_
             refine Qb #[0,1,3,7,15,31,3,127,255,3,515,1539,3587,3,15875,32259,65535,131071,262143,524287,1048575,2097151,262143,8388607,16777215,33554431,67108863,134217727,262143,268697599,805568511,1879310335,262143,8321761279,16911695871,34091565055,68451303423,137170780159,274877906943,549755813887,1099511627775,2199023255551] Tryz.mixed (by decide +kernel) (by decide +kernel) ?_
             refine zd2 ?_
             refine Q1u 142 rfl (fun h13=>?_) fun h13=>?_
             ·rw [h13];replace h13:=zcl h13
              refine zd30 ?_
              refine Uh ?_
              refine RP.nil rfl ?_
              refine Q4 ?_
              refine zv3 ?_
              refine ⟨(k+1,true),σ.length+3,⟨by simp only;omega,fun _=>rfl⟩,by simp only;omega,by simp,⟨rfl,rfl,rfl,rfl,rfl,rfl,?_,rfl,trivial⟩,Qh 3 hcl ?_,?_,Qo 3⟩
              ·first|rfl|(rw [h13];rfl)
              ·simp [ownLt,AO.cells,AV.ltL,AV.lt]<;>exact Wy _ _ (hS2 _)
              ·simp [ltE,AV.lt,AV.ltL]
             ·rw [h13];replace h13:=zcl h13
              refine zd3 ?_
              refine zp1 ?_
              refine zd1 ?_
              refine yAG rfl rfl rfl (fun _=>Qe rfl Tryz.underlying51 Tryz.sizeOf9 rfl rfl (by omega) (hxr)) ?_
              refine zp1 ?_
              refine zd3 ?_
              refine zp1 ?_
              refine zd1 ?_
              refine yAG rfl rfl rfl (fun _=>Qe rfl Tryz.underlying51 Tryz.sizeOf9 rfl rfl (by omega) (hkr)) ?_
              refine zp1 ?_
              refine zd2 ?_
              refine Q1u 158 rfl (fun h14=>?_) fun h14=>?_
              ·rw [h14];replace h14:=zcl h14
               refine zd3 ?_
               refine zp1 ?_
               refine zd1 ?_
               refine yAG rfl rfl rfl (fun _=>Qe rfl Tryz.underlying55 Tryz.sizeOf34 rfl rfl (by omega) (hyr)) ?_
               refine zp1 ?_
               refine zd2 ?_
               refine zp1 ?_
               refine zd3 ?_
               refine zp1 ?_
               refine zd1 ?_
               refine yAG rfl rfl rfl (fun _=>Qe rfl Tryz.underlying55 Tryz.sizeOf34 rfl rfl (by omega) (hcr)) ?_
               refine zp1 ?_
               refine zd2 ?_
               refine zp1 ?_
               refine zd4 ?_
               refine RP.nil rfl ?_
               refine Q4 ?_
               refine zv3 ?_
               refine ⟨(k+1,_),σ.length+3,⟨by simp only;omega,?_⟩,by simp only;omega,by simp,⟨rfl,rfl,rfl,rfl,rfl,rfl,rfl,rfl,trivial⟩,Qh 3 hcl ?_,?_,Qo 3⟩
               ·rintro ⟨j,hj,hj1,hj2⟩
                by_cases hjk:j=k
                ·subst hjk;rw [hyk] at hj2;rw [Option.some.inj hj2];exact decide_eq_true rfl
                ·have:=hk2 ⟨j,by simp only at hj;omega,hj1,hj2⟩;rw [h13] at this;cases this
               ·simp [ownLt,AO.cells,AV.ltL,AV.lt]<;>exact Wy _ _ (hS2 _)
               ·simp [ltE,AV.lt,AV.ltL]
              ·rw [h14];replace h14:=zcl h14
               refine zd20 ?_
               refine zd4 ?_
               refine RP.nil rfl ?_
               refine Q4 ?_
               refine zv3 ?_
               refine ⟨(k+1,false),σ.length+3,⟨by simp only;omega,?_⟩,by simp only;omega,by simp,⟨rfl,rfl,rfl,rfl,rfl,rfl,rfl,rfl,trivial⟩,Qh 3 hcl ?_,?_,Qo 3⟩
               ·rintro ⟨j,hj,hj1,hj2⟩
                by_cases hjk:j=k
                ·subst hjk;rw [hxk] at hj1;exact absurd (Option.some.inj hj1) h14
                ·have:=hk2 ⟨j,by simp only at hj;omega,hj1,hj2⟩;rw [h13] at this;cases this
               ·simp [ownLt,AO.cells,AV.ltL,AV.lt]<;>exact Wy _ _ (hS2 _)
               ·simp [ltE,AV.lt,AV.ltL]
            ·(try rw [h12]);replace h12:=zcl h12
             have hkt:kb=true:=by obtain ⟨j0,hj1,hj2⟩:=hkp (fun nf rf _ he=>by rw [he] at hfs;cases hfs;exact h11);exact hk2 ⟨j0,by have:=(List.getElem?_eq_some_iff.1 hj1).1;omega,hj1,hj2⟩
             refine Qg ?_
             refine zw2 ?_
             refine Q2 rfl (fun h15=>?_) (fun h15=>?_)
             ·(try rw [h15]);replace h15:=zcl h15
              rw [hkt] at h15;cases h15
             ·(try rw [h15]);replace h15:=zcl h15
              refine Q1 ?_
              refine Q4 ?_
              refine zv3 ?_
              refine ⟨i+1,σ.length+3,by omega,by omega,by simp,⟨rfl,rfl,rfl,rfl,rfl,rfl,trivial⟩,Qh 3 hcl ?_,?_,Qo 3⟩
              ·simp [ownLt,AO.cells,AV.ltL,AV.lt]<;>exact Wy _ _ (hS2 _)
              ·simp [ltE,AV.lt,AV.ltL]
          ·(try rw [h10]);replace h10:=zcl h10
           refine Q1 ?_
           refine zw1 ?_
           refine Q0 ?_
           refine zw1 ?_
           refine Qa ?_
           refine Qs (ι:=Nat×Bool) (fun z=>z.1≤X.ks.length∧((∃ j:Nat,j < z.1∧X.ks[j]? =some key∧X.ch[j]? =some xk)→z.2=true)) (fun z=>⟨[],[(5,.bool true),(8,.sl false 11 (ZP [o])),(10,.pp [.int .i64 u.id,.int .i64 u.k,.bool u.b,.bool u.n.neg,.str u.n.digits,.int .i64 u.n.exp,.str u.s,.nils,.nils,.sl false 1 (ZC u.ks),.sl false 1 (tcs u.ch)]),(13,.pp [.int .i64 X.id,.int .i64 X.k,.bool X.b,.bool X.n.neg,.str X.n.digits,.int .i64 X.n.exp,.str X.s,.nils,.nils,.sl false 1 (ZC X.ks),.sl false 1 (tcs X.ch)]),(16,.int .i64 (i:Int)),(17,.bool z.2),(18,.int .i64 (z.1:Int))]⟩) (fun z=>σ++[.box [.int .i64 v.kind,.bool v.b,.bool v.n.neg,.str v.n.digits,.int .i64 v.n.exp,.str v.s,.sl false 8 (Q7 v.l),.sl false 9 (Q5 v.m)],.map (Za S2.1),.box [.mapv (σ.length+1),.int .i64 0,.int .i64 S2.2.1,.int .i64 S2.2.2]]) (fun z=>X.ks.length - z.1) ((0,false)) (⟨Nat.zero_le _,fun ⟨j,h,_⟩=>absurd h (Nat.not_lt_zero j)⟩) ?_ rfl (fun z hz=>?_)
           ·exact ⟨rfl,rfl,rfl,rfl,rfl,rfl,rfl,rfl,trivial⟩
           obtain ⟨k,kb⟩:=z
           obtain ⟨hk1,hk2⟩:=hz
           simp only at hk1 hk2 ⊢
           refine Q0 ?_
           refine zw7 ?_
           refine Q2 rfl (fun h16=>?_) (fun h16=>?_)
           ·(try rw [h16]);replace h16:=zcl h16
            obtain ⟨xkey,hxk⟩:∃ x,X.ks[k]? =some x:=⟨_,List.getElem?_eq_getElem (show k < X.ks.length by omega)⟩
            obtain ⟨y,hyk⟩:∃ y,X.ch[k]? =some y:=⟨_,List.getElem?_eq_getElem (show k < X.ch.length by have:=hXl (by omega);omega)⟩
            have hxr:=Wm hxk
            have hyr:(tcs X.ch)[k]? =some [.pp [.int .i64 y.id,.int .i64 y.k,.bool y.b,.bool y.n.neg,.str y.n.digits,.int .i64 y.n.exp,.str y.s,.nils,.nils,.sl false 1 (ZC y.ks),.sl false 1 (tcs y.ch)]]:=by rw [KK hyk,G0 y]
            refine Q1 ?_
            refine Q0 ?_
            refine Qa ?_
            refine Qb #[0,1,3,7,15,31,3,127,255,3,515,1539,3587,3,15875,32259,65535,131071,262143,524287,1048575,2097151,262143,8388607,16777215,33554431,67108863,134217727,262143,268697599,805568511,1879310335,262143,8321761279,16911695871,34091565055,68451303423,137170780159,274877906943,549755813887,1099511627775,2199023255551] Tryz.mixed (by decide +kernel) (by decide +kernel) ?_
            refine zd2 ?_
            refine Q1u 142 rfl (fun h17=>?_) fun h17=>?_
            ·rw [h17];replace h17:=zcl h17
             refine zd30 ?_
             refine Uh ?_
             refine RP.nil rfl ?_
             refine Q4 ?_
             refine zv3 ?_
             refine ⟨(k+1,true),σ.length+3,⟨by simp only;omega,fun _=>rfl⟩,by simp only;omega,by simp,⟨rfl,rfl,rfl,rfl,rfl,rfl,?_,rfl,trivial⟩,Qh 3 hcl ?_,?_,Qo 3⟩
             ·first|rfl|(rw [h17];rfl)
             ·simp [ownLt,AO.cells,AV.ltL,AV.lt]<;>exact Wy _ _ (hS2 _)
             ·simp [ltE,AV.lt,AV.ltL]
            ·rw [h17];replace h17:=zcl h17
             refine zd3 ?_
             refine zp1 ?_
             refine zd1 ?_
             refine yAG rfl rfl rfl (fun _=>Qe rfl Tryz.underlying51 Tryz.sizeOf9 rfl rfl (by omega) (hxr)) ?_
             refine zp1 ?_
             refine zd3 ?_
             refine zp1 ?_
             refine zd1 ?_
             refine yAG rfl rfl rfl (fun _=>Qe rfl Tryz.underlying51 Tryz.sizeOf9 rfl rfl (by omega) (hkr)) ?_
             refine zp1 ?_
             refine zd2 ?_
             refine Q1u 158 rfl (fun h18=>?_) fun h18=>?_
             ·rw [h18];replace h18:=zcl h18
              refine zd3 ?_
              refine zp1 ?_
              refine zd1 ?_
              refine yAG rfl rfl rfl (fun _=>Qe rfl Tryz.underlying55 Tryz.sizeOf34 rfl rfl (by omega) (hyr)) ?_
              refine zp1 ?_
              refine zd2 ?_
              refine zp1 ?_
              refine zd3 ?_
              refine zp1 ?_
              refine zd1 ?_
              refine yAG rfl rfl rfl (fun _=>Qe rfl Tryz.underlying55 Tryz.sizeOf34 rfl rfl (by omega) (hcr)) ?_
              refine zp1 ?_
              refine zd2 ?_
              refine zp1 ?_
              refine zd4 ?_
              refine RP.nil rfl ?_
              refine Q4 ?_
              refine zv3 ?_
              refine ⟨(k+1,_),σ.length+3,⟨by simp only;omega,?_⟩,by simp only;omega,by simp,⟨rfl,rfl,rfl,rfl,rfl,rfl,rfl,rfl,trivial⟩,Qh 3 hcl ?_,?_,Qo 3⟩
              ·rintro ⟨j,hj,hj1,hj2⟩
               by_cases hjk:j=k
               ·subst hjk;rw [hyk] at hj2;rw [Option.some.inj hj2];exact decide_eq_true rfl
               ·have:=hk2 ⟨j,by simp only at hj;omega,hj1,hj2⟩;rw [h17] at this;cases this
              ·simp [ownLt,AO.cells,AV.ltL,AV.lt]<;>exact Wy _ _ (hS2 _)
              ·simp [ltE,AV.lt,AV.ltL]
             ·rw [h18];replace h18:=zcl h18
              refine zd20 ?_
              refine zd4 ?_
              refine RP.nil rfl ?_
              refine Q4 ?_
              refine zv3 ?_
              refine ⟨(k+1,false),σ.length+3,⟨by simp only;omega,?_⟩,by simp only;omega,by simp,⟨rfl,rfl,rfl,rfl,rfl,rfl,rfl,rfl,trivial⟩,Qh 3 hcl ?_,?_,Qo 3⟩
              ·rintro ⟨j,hj,hj1,hj2⟩
               by_cases hjk:j=k
               ·subst hjk;rw [hxk] at hj1;exact absurd (Option.some.inj hj1) h18
               ·have:=hk2 ⟨j,by simp only at hj;omega,hj1,hj2⟩;rw [h17] at this;cases this
              ·simp [ownLt,AO.cells,AV.ltL,AV.lt]<;>exact Wy _ _ (hS2 _)
              ·simp [ltE,AV.lt,AV.ltL]
           ·(try rw [h16]);replace h16:=zcl h16
            have hkt:kb=true:=by obtain ⟨j0,hj1,hj2⟩:=hkp (fun nf rf _ he=>absurd h10 (by rw [Zd,he,List.length_cons];omega));exact hk2 ⟨j0,by have:=(List.getElem?_eq_some_iff.1 hj1).1;omega,hj1,hj2⟩
            refine Qg ?_
            refine zw2 ?_
            refine Q2 rfl (fun h19=>?_) (fun h19=>?_)
            ·(try rw [h19]);replace h19:=zcl h19
             rw [hkt] at h19;cases h19
            ·(try rw [h19]);replace h19:=zcl h19
             refine Q1 ?_
             refine Q4 ?_
             refine zv3 ?_
             refine ⟨i+1,σ.length+3,by omega,by omega,by simp,⟨rfl,rfl,rfl,rfl,rfl,rfl,trivial⟩,Qh 3 hcl ?_,?_,Qo 3⟩
             ·simp [ownLt,AO.cells,AV.ltL,AV.lt]<;>exact Wy _ _ (hS2 _)
             ·simp [ltE,AV.lt,AV.ltL]
         ·rw [h9];replace h9:=zcl h9
          refine zg2 ?_
          (try rw [QP o])
          refine zv5 ?_
          refine Qd rfl ?_
          refine Q1 ?_
          refine zw1 ?_
          refine Q0 ?_
          refine zw1 ?_
          refine Qa ?_
          refine Qs (ι:=Nat×Bool) (fun z=>z.1≤X.ks.length∧((∃ j:Nat,j < z.1∧X.ks[j]? =some key∧X.ch[j]? =some xk)→z.2=true)) (fun z=>⟨[],[(5,.bool true),(8,.sl false 11 (ZP [o])),(10,.pp [.int .i64 u.id,.int .i64 u.k,.bool u.b,.bool u.n.neg,.str u.n.digits,.int .i64 u.n.exp,.str u.s,.nils,.nils,.sl false 1 (ZC u.ks),.sl false 1 (tcs u.ch)]),(13,.pp [.int .i64 X.id,.int .i64 X.k,.bool X.b,.bool X.n.neg,.str X.n.digits,.int .i64 X.n.exp,.str X.s,.nils,.nils,.sl false 1 (ZC X.ks),.sl false 1 (tcs X.ch)]),(16,.int .i64 (i:Int)),(17,.bool z.2),(18,.int .i64 (z.1:Int))]⟩) (fun z=>σ++[.box [.int .i64 v.kind,.bool v.b,.bool v.n.neg,.str v.n.digits,.int .i64 v.n.exp,.str v.s,.sl false 8 (Q7 v.l),.sl false 9 (Q5 v.m)],.map (Za S2.1),.box [.mapv (σ.length+1),.int .i64 0,.int .i64 S2.2.1,.int .i64 S2.2.2]]) (fun z=>X.ks.length - z.1) ((0,false)) (⟨Nat.zero_le _,fun ⟨j,h,_⟩=>absurd h (Nat.not_lt_zero j)⟩) ?_ rfl (fun z hz=>?_)
          ·exact ⟨rfl,rfl,rfl,rfl,rfl,rfl,rfl,rfl,trivial⟩
          obtain ⟨k,kb⟩:=z
          obtain ⟨hk1,hk2⟩:=hz
          simp only at hk1 hk2 ⊢
          refine Q0 ?_
          refine zw7 ?_
          refine Q2 rfl (fun h20=>?_) (fun h20=>?_)
          ·(try rw [h20]);replace h20:=zcl h20
           obtain ⟨xkey,hxk⟩:∃ x,X.ks[k]? =some x:=⟨_,List.getElem?_eq_getElem (show k < X.ks.length by omega)⟩
           obtain ⟨y,hyk⟩:∃ y,X.ch[k]? =some y:=⟨_,List.getElem?_eq_getElem (show k < X.ch.length by have:=hXl (by omega);omega)⟩
           have hxr:=Wm hxk
           have hyr:(tcs X.ch)[k]? =some [.pp [.int .i64 y.id,.int .i64 y.k,.bool y.b,.bool y.n.neg,.str y.n.digits,.int .i64 y.n.exp,.str y.s,.nils,.nils,.sl false 1 (ZC y.ks),.sl false 1 (tcs y.ch)]]:=by rw [KK hyk,G0 y]
           refine Q1 ?_
           refine Q0 ?_
           refine Qa ?_
           refine Qb #[0,1,3,7,15,31,3,127,255,3,515,1539,3587,3,15875,32259,65535,131071,262143,524287,1048575,2097151,262143,8388607,16777215,33554431,67108863,134217727,262143,268697599,805568511,1879310335,262143,8321761279,16911695871,34091565055,68451303423,137170780159,274877906943,549755813887,1099511627775,2199023255551] Tryz.mixed (by decide +kernel) (by decide +kernel) ?_
           refine zd2 ?_
           refine Q1u 142 rfl (fun h21=>?_) fun h21=>?_
           ·rw [h21];replace h21:=zcl h21
            refine zd30 ?_
            refine Uh ?_
            refine RP.nil rfl ?_
            refine Q4 ?_
            refine zv3 ?_
            refine ⟨(k+1,true),σ.length+3,⟨by simp only;omega,fun _=>rfl⟩,by simp only;omega,by simp,⟨rfl,rfl,rfl,rfl,rfl,rfl,?_,rfl,trivial⟩,Qh 3 hcl ?_,?_,Qo 3⟩
            ·first|rfl|(rw [h21];rfl)
            ·simp [ownLt,AO.cells,AV.ltL,AV.lt]<;>exact Wy _ _ (hS2 _)
            ·simp [ltE,AV.lt,AV.ltL]
           ·rw [h21];replace h21:=zcl h21
            refine zd3 ?_
            refine zp1 ?_
            refine zd1 ?_
            refine yAG rfl rfl rfl (fun _=>Qe rfl Tryz.underlying51 Tryz.sizeOf9 rfl rfl (by omega) (hxr)) ?_
            refine zp1 ?_
            refine zd3 ?_
            refine zp1 ?_
            refine zd1 ?_
            refine yAG rfl rfl rfl (fun _=>Qe rfl Tryz.underlying51 Tryz.sizeOf9 rfl rfl (by omega) (hkr)) ?_
            refine zp1 ?_
            refine zd2 ?_
            refine Q1u 158 rfl (fun h22=>?_) fun h22=>?_
            ·rw [h22];replace h22:=zcl h22
             refine zd3 ?_
             refine zp1 ?_
             refine zd1 ?_
             refine yAG rfl rfl rfl (fun _=>Qe rfl Tryz.underlying55 Tryz.sizeOf34 rfl rfl (by omega) (hyr)) ?_
             refine zp1 ?_
             refine zd2 ?_
             refine zp1 ?_
             refine zd3 ?_
             refine zp1 ?_
             refine zd1 ?_
             refine yAG rfl rfl rfl (fun _=>Qe rfl Tryz.underlying55 Tryz.sizeOf34 rfl rfl (by omega) (hcr)) ?_
             refine zp1 ?_
             refine zd2 ?_
             refine zp1 ?_
             refine zd4 ?_
             refine RP.nil rfl ?_
             refine Q4 ?_
             refine zv3 ?_
             refine ⟨(k+1,_),σ.length+3,⟨by simp only;omega,?_⟩,by simp only;omega,by simp,⟨rfl,rfl,rfl,rfl,rfl,rfl,rfl,rfl,trivial⟩,Qh 3 hcl ?_,?_,Qo 3⟩
             ·rintro ⟨j,hj,hj1,hj2⟩
              by_cases hjk:j=k
              ·subst hjk;rw [hyk] at hj2;rw [Option.some.inj hj2];exact decide_eq_true rfl
              ·have:=hk2 ⟨j,by simp only at hj;omega,hj1,hj2⟩;rw [h21] at this;cases this
             ·simp [ownLt,AO.cells,AV.ltL,AV.lt]<;>exact Wy _ _ (hS2 _)
             ·simp [ltE,AV.lt,AV.ltL]
            ·rw [h22];replace h22:=zcl h22
             refine zd20 ?_
             refine zd4 ?_
             refine RP.nil rfl ?_
             refine Q4 ?_
             refine zv3 ?_
             refine ⟨(k+1,false),σ.length+3,⟨by simp only;omega,?_⟩,by simp only;omega,by simp,⟨rfl,rfl,rfl,rfl,rfl,rfl,rfl,rfl,trivial⟩,Qh 3 hcl ?_,?_,Qo 3⟩
             ·rintro ⟨j,hj,hj1,hj2⟩
              by_cases hjk:j=k
              ·subst hjk;rw [hxk] at hj1;exact absurd (Option.some.inj hj1) h22
              ·have:=hk2 ⟨j,by simp only at hj;omega,hj1,hj2⟩;rw [h21] at this;cases this
             ·simp [ownLt,AO.cells,AV.ltL,AV.lt]<;>exact Wy _ _ (hS2 _)
             ·simp [ltE,AV.lt,AV.ltL]
          ·(try rw [h20]);replace h20:=zcl h20
           have hkt:kb=true:=by obtain ⟨j0,hj1,hj2⟩:=hkp (fun nf rf h4 _=>absurd h4 h9);exact hk2 ⟨j0,by have:=(List.getElem?_eq_some_iff.1 hj1).1;omega,hj1,hj2⟩
           refine Qg ?_
           refine zw2 ?_
           refine Q2 rfl (fun h23=>?_) (fun h23=>?_)
           ·(try rw [h23]);replace h23:=zcl h23
            rw [hkt] at h23;cases h23
           ·(try rw [h23]);replace h23:=zcl h23
            refine Q1 ?_
            refine Q4 ?_
            refine zv3 ?_
            refine ⟨i+1,σ.length+3,by omega,by omega,by simp,⟨rfl,rfl,rfl,rfl,rfl,rfl,trivial⟩,Qh 3 hcl ?_,?_,Qo 3⟩
            ·simp [ownLt,AO.cells,AV.ltL,AV.lt]<;>exact Wy _ _ (hS2 _)
            ·simp [ltE,AV.lt,AV.ltL]
       ·(try rw [h7]);replace h7:=zcl h7
        refine Qg ?_
        refine zw2 ?_
        refine zrt ?_
        exact Z5 rfl hcl trivial (Q8 rfl)
end Lg
set_option maxRecDepth 100000
set_option maxHeartbeats 4000000
namespace Go.Proofs.YtjfcfncgalmofaaGreatDoor
open Go Go.ChangeShapes Go.WideShapes Go.ChangeAt Go.RowKit Go.Lib
open Go.ChangeMaps (open_string shut_string)
noncomputable def treeKeeps_w0 (os:Os):World:=
 let w0:=World.holding Tryz.prog os ⟨#[],#[],[]⟩
 { w0 with heap:=w0.heap.modify 0 fun
   | .cells _ t frozen=>.cells #[.iface 201 (.agg #[.pointer (some ⟨9,43,none⟩)])] t frozen
   |o=>o}
noncomputable def treeKeeps_ln:List (String×DataW Unit):=Rows.treeKeepsRow.laid.filter fun x=>x.2.handleName?.isNone
noncomputable def treeKeeps_lw (os:Os):World:=(treeKeeps_w0 os).layVars Tryz.prog treeKeeps_ln
theorem treeKeeps_lw_os (os:Os):(treeKeeps_lw os).os=os:=by unfold treeKeeps_lw;rw [World.layVars_os];rfl
theorem treeKeeps_mh (os:Os) (args:Array Value):laidMetH Tryz.prog Rows.treeKeepsRow.laid ((treeKeeps_lw os).forCall (fun _ _=>0) ⟨#[],args,[]⟩).memory:=by
 have e1:(treeKeeps_ln.filter fun x=>(treeKeeps_ln.map (·.1)).contains x.1)=treeKeeps_ln:=List.filter_eq_self.2 fun x hx=>List.contains_iff_mem.2 (List.mem_map.2 ⟨x,hx,rfl⟩)
 have e2:(treeKeeps_ln.filter fun x=> !(treeKeeps_ln.map (·.1)).contains x.1)=[]:=List.filter_eq_nil_iff.2 fun x hx=>by rw [List.contains_iff_mem.2 (List.mem_map.2 ⟨x,hx,rfl⟩)];simp
 have h:laidMet Tryz.prog treeKeeps_ln (treeKeeps_lw os):=laidMet_layVars (w0:=treeKeeps_w0 os) (treeKeeps_ln.map (·.1)) [] (by rw [e1];rfl) (by rw [e1];kernel_rfl) (by rw [e1];kernel_rfl) (by rw [e2];exact LaidIn.none)
 refine laidMetH_of_parts (h.of_heap (by simp [World.memory,World.forCall,Input.heap])) (by kernel_rfl)
theorem treeKeeps_rt:(Tryz.prog.cutTypes.find? (·.1 == "internal/reflectlite.rtype")).map (·.2)=some 201:=by kernel_rfl
theorem treeKeeps_one:((List.range 388).filter fun t=>Tryz.prog.rowNamed t [101,114,114,111,114])=[43]:=by kernel_rfl
theorem treeKeeps_nt:Tryz.prog.types.size=388:=by kernel_rfl
theorem treeKeeps_gn:Tryz.prog.globalNamed "errors.errorType" =some 0:=by kernel_rfl
theorem treeKeeps_et {W:World} (h:laidMetH Tryz.prog Rows.treeKeepsRow.laid W):W.cell? ⟨0,0,none⟩=some (.iface 201 (.agg #[.pointer (some ⟨9,43,none⟩)])):=by
 have h':laidMet Tryz.prog (Rows.treeKeepsRow.laid.filter fun x=>x.2.handleName?.isNone) W∧handlesMet Tryz.prog (Rows.treeKeepsRow.laid.filter fun x=>x.2.handleName?.isSome) W:=h
 obtain ⟨name,u,ty,e1,e2,e3,e4,e5⟩:=h'.2 ("errors.errorType",Rows.laid_errors_errorType) (List.mem_filter.2 ⟨by simp [Rows.treeKeepsRow],rfl⟩)
 have en:name=[101,114,114,111,114]:=(Option.some.inj e1).symm
 subst en
 obtain rfl:=Option.some.inj (treeKeeps_rt.symm.trans e2)
 have hm:ty∈(List.range 388).filter fun t=>Tryz.prog.rowNamed t [101,114,114,111,114]:=List.mem_filter.2 ⟨List.mem_range.2 (by rw [← treeKeeps_nt];exact e3),e4⟩
 rw [treeKeeps_one] at hm
 obtain rfl:=List.mem_singleton.1 hm
 have hh:typeHandle Tryz.prog 43= .pointer (some ⟨9,43,none⟩):=by kernel_rfl
 rw [hh] at e5
 simpa using World.var?_cell treeKeeps_gn e5 0
theorem treeKeeps_lifted (os:Os) (started:os.Started) (H:Type) (enc:TypeId×Value→H):
  ReturnsInHanded {} Tryz.checked os 4 .any (fun w args=>(Rows.treeKeepsSpec.pre enc Tryz.prog Tryz.f4 [] false w args∧laidMetH Tryz.prog Rows.treeKeepsRow.laid w)∧sizedMet enc Tryz.prog Tryz.f4 (OpenSpec.ofChange Rows.treeKeepsSpec) false w args)
   (Rows.treeKeepsSpec.post enc Tryz.prog Tryz.f4 false true false false):=by
 refine returnsInHanded_of_change_and (C:=Tryz.checked) (X:=fun w _=>laidMetH Tryz.prog Rows.treeKeepsRow.laid w) (fun _ _ _ hh h=>h.of_heap hh) own started (by kernel_rfl) Tryz.func4
  (ChangeSpec.witness_shaped (enc:=enc) (C:=Tryz.checked) (os:=os) (X:=fun w _=>laidMetH Tryz.prog Rows.treeKeepsRow.laid w) false (treeKeeps_lw os) #[.string ⟨#[]⟩,.string ⟨#[]⟩] 8 (treeKeeps_lw_os os)
   (World.shaped_of_ZipB (by kernel_rfl) (by kernel_rfl)) (by kernel_rfl) (by kernel_rfl) (by kernel_rfl) (treeKeeps_mh os _)) ?_
 intro W base args ds gs before hval0 hW hz0 hz hL _
 have hval:∀ (j:Nat) t v,Tryz.f4.params[j]? =some t→args[j]? =some v→Value.okWide Tryz.prog W .any base t v:=hval0
 have hW':=hW
 obtain ⟨p,q,hA0,hV,rfl,hfz,hnd⟩:=hW
 have hA:DataW.TrodAll enc Tryz.prog W 0 (fun _=>true) true Tryz.f4.params.toList args.toList ds p:=hA0
 rw [Tryz.params4] at hA hval hz
 obtain ⟨v0,vs0,d0,ds0,p0,q0,hargs,rfl,rfl,h0,r0⟩:=trodAll_cons hA
 obtain ⟨v1,vs1,d1,ds1,p1,q1,rfl,rfl,rfl,h1,r1⟩:=trodAll_cons r0
 obtain ⟨rfl,rfl,rfl⟩:=trodAll_nil r1
 obtain rfl:args= #[v0,v1]:=by cases args;simp_all
 obtain ⟨rfl,rfl⟩:=trodVars_none hV
 obtain ⟨x0,rfl,rfl,rfl,w0⟩:=open_string Tryz.underlying9 (hval 0 9 v0 rfl rfl) h0
 obtain ⟨x1,rfl,rfl,rfl,w1⟩:=open_string Tryz.underlying9 (hval 1 9 v1 rfl rfl) h1
 clear hA0 hval0
 simp only [List.append_nil] at hW'
 have hcall:=Lg.calls_of (P:=Tryz.prog) (f:=4) (args:=[.str x0,.str x1]) (cargs:=[.string x0,.string x1]) (W:=W)
  (fun st=>(.cons (.str _) (.cons (.str _) .nil)))
  (fun hg=>by haveI:=Lg.ET.of (treeKeeps_et hL) hg;exact Lg.treeKeeps_c x0 x1 [])
 refine hcall.mono fun e W' ⟨he,hg⟩=>?_
 subst he
 refine ⟨_,rfl,_,_,_,[],[],[],hW',trodAll_mk1 (shut_bool Tryz.underlying4 _),?_,rfl,hg.frame _,fun h=>by cases h⟩
 exact (trodAll_cons_mk (shut_string Tryz.underlying9 w0) (trodAll_cons_mk (shut_string Tryz.underlying9 w1) trodAll_mk0))
theorem treeKeeps_j1:Tryz.prog.inPlace 4=Rows.treeKeepsRow.inPlace:=by kernel_rfl
theorem treeKeeps_j2:Tryz.prog.unfollowed 4=Rows.treeKeepsRow.unfollowed:=by kernel_rfl
theorem treeKeeps_j3:Tryz.prog.recurses 4=Rows.treeKeepsRow.recurses:=by kernel_rfl
theorem treeKeeps_j4:Tryz.prog.varsNamed 4=Rows.treeKeepsRow.named:=by kernel_rfl
theorem treeKeeps_j5:joinedFacts Tryz.prog 4 Tryz.f4 Rows.treeKeepsSpec Rows.treeKeepsRow=true:=by
 unfold joinedFacts
 rw [treeKeeps_j1,treeKeeps_j2,treeKeeps_j3,treeKeeps_j4]
 kernel_rfl
theorem treeKeeps_holds:Rows.TreeKeepsSaid:=
 OpenClaim.holds_of_wide 4 Tryz.f4 rfl rfl rfl rfl rfl rfl rfl ⟨rfl,rfl,rfl,rfl,rfl⟩ rfl rfl rfl rfl rfl (by kernel_rfl) Tryz.func4 treeKeeps_j5
  (of_decide_eq_true (by kernel_rfl)) (by unfold Func.isWrapper;first|(rw [if_pos (by decide +kernel)];kernel_rfl)|(rw [if_neg (by decide +kernel)];exact ⟨rfl,rfl⟩))
  (fun os started H enc _=>treeKeeps_lifted os started H enc)
end Go.Proofs.YtjfcfncgalmofaaGreatDoor
