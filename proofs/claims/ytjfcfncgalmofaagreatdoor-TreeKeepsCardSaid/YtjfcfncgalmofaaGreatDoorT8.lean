/- A part of the proof of The tree's Apply, and what the reference says of it: the same answer and the same tree.: A19 A20 T3 W11 W10 W12 W13 W14 W15 W3 W16 W18 W19 W9. -/
import Derived.Test.YtjfcfncgalmofaaGreatDoorT7
import Derived.Test.YtjfcfncgalmofaaGreatDoorT3
import Derived.Test.YtjfcfncgalmofaaGreatDoorT5
import Derived.Test.YtjfcfncgalmofaaGreatDoorT2
import Derived.Test.YtjfcfncgalmofaaGreatDoorT4
set_option linter.unusedVariables false
set_option linter.unusedSimpArgs false
set_option linter.unusedSectionVars false
set_option maxRecDepth 20000
set_option maxHeartbeats 4000000
namespace Lg
open Go Go.Proofs Go.RowKit
variable [GLay]
theorem Qd7 (n:Nat) (G:Int→JV) (N:Int) (ih:∀ (y:JT) (deep frm:Int) (S:LS) (p q:Nat) (τ:List AO),Q6 (tv y)≤n→TP G N y deep frm S p q τ→ACalls Tryz.prog 13 [.ptr p 0,.pp (tc y),.int .i64 deep] τ (Ret (.int .i64 1) (tst τ p q frm (lk frm y S)))) (t:JT) (v:JV) (hv:tv t=v) (deep frm:Int) (S:LS) (p q:Nat) (σ:List AO) (hn:Q6 v≤n+1) (hP:TP G N t deep frm S p q σ) (hk:v.kind=5):ACalls Tryz.prog 13 [.ptr p 0,.pp (tc t),.int .i64 deep] σ (Ret (.int .i64 1) (tst σ p q frm (lk frm t S))):=by
 have hw:=hP.w
 have hjb:=hP.jb
 have hlen:=hP.len
 have hd0:=hP.d0
 have hdd:=hP.dd
 have hnN:=hP.nN
 have hn0:=hP.n0
 have hnb:=hP.nb
 have hjs:=V8 hw
 have hjd:=Yl (tv t)
 have hpl:p < σ.length:=(List.getElem?_eq_some_iff.1 hP.hp).1
 have hql:q < σ.length:=(List.getElem?_eq_some_iff.1 hP.hq).1
 have hpq:=hP.ne
 have hps:=hP.hp
 have hqs:=hP.hq
 have hps1:σ[p]? =some (.box [.mapv q,.int .i64 frm,.int .i64 (S.2.1),.int .i64 (S.2.2)]):=hps
 have hbl:=ZD t.ks
 have htl:=X0 t.ch
 have him:(Za S.1).length=S.1.length:=List.length_map _
 rw [hv] at hjb hlen hdd hnb hjs hjd
 have hvl:=Xz t.ch
 have hlln:=Yu (tvs t.ch)
 have hvp:=Qi v
 obtain ⟨hb1,hb2,hb3,hb4,hb5,hb6⟩:=(Zy v).1 hjb
 have hll:=Q52 hw hv (by omega)
 have hl0:=Q92 hw hv (by omega)
 have hk0:t.ks.length=t.ch.length:=Vr hw (by rw [← XK,hv];exact hk)
 refine Qc Tryz.func13 rfl Tryz.ntmps13 (XE Tryz.results13) (Nat.le_of_ble_eq_true rfl) (fun hcl hal=>?_)
 rw [FB t,hv]
 refine zw1 ?_
 refine Q0 ?_
 refine zu4 ?_
 refine ztG rfl rfl (XH rfl rfl rfl (by omega)) ?_
 refine zg6 ?_
 refine ztG rfl rfl (UI rfl rfl Tryz.underlying38 rfl hqs) ?_
 refine ztG rfl rfl (XH rfl rfl rfl (by omega)) ?_
 refine zv1 ?_
 refine Qd rfl ?_
 refine Q1 ?_
 refine Q0 ?_
 refine Q0 ?_
 refine Qb #[0,1,3,7,15,31,63,127,255,511,1023,2047,127,4223,12415,28799,61567,131071,262143,524287,1048575,2097151,4194303,8388607,16777215,33554431,67108863,134217727,268435455,536870911,1073741823,2147483647,4294967295,8589934591,17179869183,34359738367,68719476735,137438953471,274877906943,549755813887,1099511627775,2199023255551,4398046511103,8796093022207,17592186044415,35184372088831,70368744177663,140737488355327,281474976710655,562949953421311,1125899906842623,2251799813685247,4503599627370495,9007199254740991,18014398509481983,36028797018963967,72057594037927935,144115188075855871,4503599627370495,292733975779082239,869194728082505727,2022116232689352703,4327959241903046655,8939645260330434559,18446744073709551615,36893488147419103231,73786976294838206463] Tryz.mixed (by decide +kernel) (by decide +kernel) ?_
 refine zd4 ?_
 refine zp1 ?_
 refine yA rfl rfl (fun _=>JI rfl rfl rfl (by omega)) ?_
 refine zd4 ?_
 refine zp1 ?_
 refine zd4 ?_
 refine zp1 ?_
 refine zd1 ?_
 refine yAG rfl rfl rfl (fun _=>Ja rfl rfl rfl (by omega)) ?_
 refine zd6 ?_
 refine zp1 ?_
 refine yAG rfl rfl rfl (fun _=>Ja rfl rfl rfl (by omega)) ?_
 refine Uh ?_
 refine zd4 ?_
 refine zp1 ?_
 refine yAG rfl rfl rfl (fun _=>Q0P rfl rfl rfl (by omega)) ?_
 refine Uh ?_
 refine zd4 ?_
 refine zp1 ?_
 refine zd5 ?_
 refine zp1 ?_
 refine zd2 ?_
 refine yAG rfl rfl rfl (fun _=>XH rfl rfl rfl (by decide)) ?_
 refine zd1 ?_
 refine RP.nil rfl ?_
 refine Qd rfl ?_
 refine Q1 ?_
 refine zw6 ?_
 refine Q0 ?_
 refine Q0 ?_
 refine Xv 0 7 9 1 rfl rfl rfl ?_
 refine Q4 ?_
 refine zv1 ?_
 refine Qa ?_
 refine Qs (ι:=Nat×List AO) (fun z=>z.1≤v.m.length∧z.2=tst σ p q frm (lks frm (t.ch.take z.1) S)) (fun z=>⟨[],[(0,.ptr p 0),(1,.pp [.int .i64 t.id,.int .i64 v.kind,.bool v.b,.bool v.n.neg,.str v.n.digits,.int .i64 v.n.exp,.str v.s,.nils,.nils,.sl false 1 (ZC t.ks),.sl false 1 (tcs t.ch)]),(2,.int .i64 deep),(7,.ptr (z.2.length+0) 0),(8,.int .i64 (z.1:Int))]⟩) (fun z=>z.2++[.box [.int .i64 v.kind,.bool v.b,.bool v.n.neg,.str v.n.digits,.int .i64 v.n.exp,.str v.s,.nils,.arr (z.2.length+1) z.1 9 0 z.1],.arr 9 z.1 (Q5 (v.m.take z.1)).flatten]) (fun z=>v.m.length - z.1) ((0,σ)) (⟨Nat.zero_le _,by simp only [List.take_zero,lks];exact (F9 hps hqs).symm⟩) ?_ rfl (fun z hz=>?_)
 ·exact ⟨rfl,rfl,rfl,rfl,rfl,rfl,trivial⟩
 obtain ⟨i,τ⟩:=z
 obtain ⟨hz1,hτ⟩:=hz
 simp only at hz1 hτ ⊢
 have hτl:τ.length=σ.length:=by rw [hτ];exact XI
 have hpt:p < τ.length:=by omega
 have hqt:q < τ.length:=by omega
 have hτp:τ[p]? =some (tbx q frm (lks frm (t.ch.take i) S)):=by rw [hτ];exact Q2z hpq hpl
 have hτq:τ[q]? =some (.map (Za (lks frm (t.ch.take i) S).1)):=by rw [hτ];exact Q2A hql
 have hτc:closed τ.length τ:=by rw [hτl,hτ];exact Zm hcl hql (hP.lt _ _)
 refine Q0 ?_
 refine zw7 ?_
 refine Q2 rfl (fun h1=>?_) (fun h1=>?_)
 ·(try rw [h1]);replace h1:=zcl h1
  obtain ⟨⟨key,x⟩,ha⟩:∃ a,v.m[i]? =some a:=⟨_,List.getElem?_eq_getElem (show i < v.m.length by omega)⟩
  obtain ⟨y,hy,hya,hyk⟩:=Q51 hv (by omega) ha
  simp only at hya hyk
  subst hya
  have hkrow:=Wm hyk
  have hrow:=KK hy
  have hkid:=hP.kid (l:=[.box [.int .i64 v.kind,.bool v.b,.bool v.n.neg,.str v.n.digits,.int .i64 v.n.exp,.str v.s,.nils,.arr (τ.length+1) i 9 0 i],.arr 9 i (Q5 (v.m.take i)).flatten]) hy hτp hτq
  have hkg:=(Q1U (frm:=frm) y (lks frm (t.ch.take i) S) hkid.w hkid.con hkid.sg).2
  have hkz:Q6 (tv y)≤n:=by have:=hkid.w;have h1:=ZG (YP hy);omega
  refine Q1 ?_
  refine Q0 ?_
  refine Qa ?_
  refine Q0 ?_
  refine zu6 ?_
  refine zt rfl (Qe rfl Tryz.underlying55 Tryz.sizeOf34 rfl rfl (by omega) (hrow)) ?_
  refine zg3 ?_
  refine zt rfl (zc rfl (Q6N hpt hqt (ih y (deep+1) frm (lks frm (t.ch.take i) S) p q _ hkz hkid))) ?_
  obtain ⟨τ2,ht2⟩:∃ tt,tt=tst τ p q frm (lk frm y (lks frm (t.ch.take i) S)):=⟨_,rfl⟩
  rw [← ht2]
  have hl2:τ2.length=τ.length:=by rw [ht2];exact XI
  rw [← hl2]
  have hp2:τ2[p]? =some (.box [.mapv q,.int .i64 frm,.int .i64 ((lk frm y (lks frm (t.ch.take i) S)).2.1),.int .i64 ((lk frm y (lks frm (t.ch.take i) S)).2.2)]):=by rw [ht2];exact Q2z hpq hpt
  have hq2:τ2[q]? =some (.map (Za (lk frm y (lks frm (t.ch.take i) S)).1)):=by rw [ht2];exact Q2A hqt
  have hc2:closed τ2.length τ2:=by rw [hl2,ht2];exact Zm hτc hqt (hkid.ltA _)
  refine zt rfl (Xx rfl rfl rfl (by decide)) ?_
  refine zon ?_
  refine Qd rfl ?_
  refine Q1 ?_
  refine Q0 ?_
  refine Qb #[0,1,3,7,0,16,48,112,0,496,1008,2032,4080,8176,16383,0,65535] Tryz.mixed (by decide +kernel) (by decide +kernel) ?_
  refine zd3 ?_
  refine zp1 ?_
  refine zd3 ?_
  refine zp1 ?_
  refine zd1 ?_
  refine yA rfl rfl (fun _=>Qe rfl Tryz.underlying55 Tryz.sizeOf34 rfl rfl (by omega) (hrow)) ?_
  refine zp1 ?_
  rw [FB y]
  refine zd2 ?_
  refine zp1 ?_
  refine yP rfl rfl (YW rfl Tryz.underlying38 Tryz.underlying3 Tryz.zeroValue28 rfl rfl (QD hq2) hkg) (trivial) ?_
  rw [Q3 (tv y)]
  refine yE rfl rfl (zoa) (⟨.inr (by rw [← Q3 (tv y)];exact YW rfl Tryz.underlying38 Tryz.underlying3 Tryz.zeroValue28 rfl rfl (QD hq2) hkg),⟨.inr zoa,⟨.inr zoa,⟨.inr zoa,⟨.inr zoa,trivial⟩⟩⟩⟩⟩) (trivial) ?_
  refine yEN rfl rfl rfl (zoa) (⟨.inl rfl,⟨.inl rfl,⟨.inl rfl,⟨.inl rfl,⟨.inl rfl,trivial⟩⟩⟩⟩⟩) (⟨rfl,trivial⟩) ?_
  refine RP.nil rfl ?_
  refine zu5 ?_
  refine zt rfl (Xx rfl rfl rfl (by omega)) ?_
  refine zon ?_
  refine Qd rfl ?_
  refine Qb #[0,1,0,4,12,28,0,124,252,0,1020,2044,4095,8191,16383] Tryz.mixed (by decide +kernel) (by decide +kernel) ?_
  refine zd1 ?_
  refine zp1 ?_
  refine zd3 ?_
  refine zp1 ?_
  refine zd1 ?_
  refine yA rfl rfl (fun _=>Qe rfl Tryz.underlying51 Tryz.sizeOf9 rfl rfl (by omega) (hkrow)) ?_
  refine zp2 ?_
  refine zd1 ?_
  refine yA rfl rfl (fun _=>Ql [[_,_,_,_,_,_,_,_,_]] rfl Tryz.underlying26 Tryz.sizeOf67 Tryz.zeroValue67 rfl (by decide) (by decide) rfl rfl rfl rfl rfl) ?_
  refine yE rfl rfl (Qv rfl 1 (sz:=9) (m:=1) (len:=i) (cs:=_) rfl (.inr ⟨_,rfl⟩) Tryz.underlying26 Tryz.underlying26 Tryz.type67 rfl rfl rfl (by decide) rfl rfl (by rw [Zx,List.length_take];omega) rfl rfl rfl (by show (i+1) * 128≤_;omega) (by omega) rfl) (⟨.inl rfl,⟨.inl rfl,⟨.inl rfl,⟨.inl rfl,trivial⟩⟩⟩⟩) (trivial) ?_
  refine zd1 ?_
  refine yEN rfl rfl rfl (QX (r:=[.int .i64 v.kind,.bool v.b,.bool v.n.neg,.str v.n.digits,.int .i64 v.n.exp,.str v.s,.nils,.arr (τ2.length+1) (i+1) 9 0 (i+1)]) rfl Tryz.sizeOf26 rfl rfl rfl rfl rfl (by decide)) (⟨.inl rfl,⟨.inl rfl,⟨.inl rfl,⟨.inl rfl,trivial⟩⟩⟩⟩) (⟨rfl,trivial⟩) ?_
  refine RP.nil rfl ?_
  refine Q4 ?_
  refine zv3 ?_
  refine ⟨(i+1,τ2),τ2.length+2,⟨by simp only;omega,?_⟩,by simp only;omega,by simp;omega,⟨rfl,rfl,rfl,rfl,rfl,rfl,trivial⟩,Qh 2 hc2 ?_,?_,?_⟩
  ·show τ2=_;rw [ht2,hτ,Q4X hpq,Q1V hy]
  ·simp [ownLt,AO.cells,AV.ltL,AV.lt,Z0,Y6,K4]
  ·simp [ltE,AV.lt,AV.ltL];omega
  ·refine (Qo 2).trans ?_
   rw [QV ha,Ym,UB,Q3 (tv y)];rfl
 ·(try rw [h1]);replace h1:=zcl h1
  refine Qg ?_
  refine Q0 ?_
  have hie:i=v.m.length:=by omega
  subst hie
  have htk:t.ch.take v.m.length=t.ch:=List.take_of_length_le (by omega)
  rw [htk] at hτ hτp hτq
  rw [List.take_length]
  refine Xa 0 7 1 v.m.length 9 v.m.length rfl rfl rfl (Q5 v.m) rfl (VB _) (QK _) (by decide) ?_
  refine QN 0 (bs':=[.int .i64 v.kind,.bool v.b,.bool v.n.neg,.str v.n.digits,.int .i64 v.n.exp,.str v.s,.sl false 8 (Q7 []),.sl false 9 (Q5 v.m)]) rfl ⟨AVle.refl _,AVle.refl _,AVle.refl _,AVle.refl _,AVle.refl _,AVle.refl _,XA,AVle.refl _,trivial⟩ ?_
  have hvc:Qf v=[.int .i64 v.kind,.bool v.b,.bool v.n.neg,.str v.n.digits,.int .i64 v.n.exp,.str v.s,.sl false 8 (Q7 []),.sl false 9 (Q5 v.m)]:=by rw [Q3 v,hl0]
  obtain ⟨Sn,hSn⟩:∃ s,lks frm t.ch S=s:=⟨_,rfl⟩
  have hSG:=(hP.take t.ch.length).sg
  rw [List.take_length,hSn] at hSG
  rw [hSn] at hτ hτp hτq
  have hSb:=(hP.take t.ch.length).nb
  rw [List.take_length,hSn] at hSb
  have hτp1:τ[p]? =some (.box [.mapv q,.int .i64 frm,.int .i64 (Sn.2.1),.int .i64 (Sn.2.2)]):=hτp
  obtain ⟨has,hhas⟩:∃ b,(Z9 Sn.1 t.id).isSome=b:=⟨_,rfl⟩
  obtain ⟨w,hw0,hw1,hjw,hzw⟩:=HS (id:=t.id) hSG (hP.own.1.trans hv) hjb (by omega) Q9e
  refine Qb #[0,1,3,7,0,16,48,112,255,511,1023,1023,0,6143,16383] Tryz.mixed (by decide +kernel) (by decide +kernel) ?_
  refine zd3 ?_
  refine zp1 ?_
  refine zd3 ?_
  refine zp1 ?_
  refine yP rfl rfl (XT rfl Tryz.underlying38 Tryz.underlying3 Tryz.zeroValue28 rfl rfl (QD hτq) hhas hw0) (trivial) ?_
  rw [Q3 w]
  refine zd3 ?_
  refine yE rfl rfl (zoa) (⟨.inr (by rw [← Q3 w];exact XT rfl Tryz.underlying38 Tryz.underlying3 Tryz.zeroValue28 rfl rfl (QD hτq) hhas hw0),⟨.inr zoa,⟨.inr zoa,trivial⟩⟩⟩) (trivial) ?_
  refine yEN rfl rfl rfl (zoa) (⟨.inl rfl,⟨.inl rfl,⟨.inl rfl,trivial⟩⟩⟩) (⟨rfl,trivial⟩) ?_
  refine zd1 ?_
  refine RP.nil rfl ?_
  refine zu2 ?_
  refine zt rfl (zc rfl (Hz w v _ _ _ (Q3 w) hvc hjw hjb hzw)) ?_
  refine zv1 ?_
  refine Q0 ?_
  refine zu2 ?_
  refine zsp 176 rfl (fun h2=>?_) fun h2=>?_
  ·rw [h2];replace h2:=zcl h2
   refine zv3 ?_
   refine Q2 rfl (fun h3=>?_) (fun h3=>?_)
   ·(try rw [h3]);replace h3:=zcl h3
    rw [hw1 (hhas.trans h2),UP rfl] at h3;cases h3
   ·(try rw [h3]);replace h3:=zcl h3
    have hhas2:(Z9 Sn.1 t.id).isSome=true:=by rw [hhas];exact h2
    obtain ⟨j,hgs⟩:∃ j,Z9 Sn.1 t.id=some (j,.agg (Qf v)):=by
     cases hg:Z9 Sn.1 t.id with
     |none=>rw [hg] at hhas2;cases hhas2
     |some z=>exact ⟨z.1,by have:=hSG.get hg;rw [hP.own.1,hv] at this;rw [← this]⟩
    have hLk:=Qcn hSn hgs
    have hnw:(lk frm t S).2.1=Sn.2.1:=by rw [hLk]
    have hM:(lk frm t S).1=Sn.1:=by rw [hLk]
    have hls:(lk frm t S).2.2=max Sn.2.2 t.id:=by rw [hLk]
    refine Q1 ?_
    refine Q0 ?_
    refine Q0 ?_
    refine Qb #[0,1,3,7,15,31,63,7,135,391,903,2047,4095] Tryz.mixed (by decide +kernel) (by decide +kernel) ?_
    refine Uh ?_
    refine zd3 ?_
    refine RP.nil rfl ?_
    refine Qd rfl ?_
    refine Q1 ?_
    refine Q0 ?_
    refine Qn (σ':=τ.set p (.box [.mapv q,.int .i64 frm,.int .i64 ((lk frm t S).2.1),.int .i64 (Sn.2.2)])++[.box [.int .i64 v.kind,.bool v.b,.bool v.n.neg,.str v.n.digits,.int .i64 v.n.exp,.str v.s,.sl false 8 (Q7 []),.sl false 9 (Q5 v.m)],.dead,.box [.int .i64 w.kind,.bool w.b,.bool w.n.neg,.str w.n.digits,.int .i64 w.n.exp,.str w.s,.sl false 8 (Q7 w.l),.sl false 9 (Q5 w.m)]]) (by first|(rw [hnw,Z1 hpt];rfl)|(rw [hnw,QO hτp1];rfl)) ?_
    obtain ⟨τ3,ht3⟩:∃ tt,tt=τ.set p (.box [.mapv q,.int .i64 frm,.int .i64 ((lk frm t S).2.1),.int .i64 (Sn.2.2)]):=⟨_,rfl⟩
    rw [← ht3]
    have hl3:τ3.length=τ.length:=by rw [ht3];simp
    rw [← hl3]
    have h3p:τ3[p]? =some (.box [.mapv q,.int .i64 frm,.int .i64 ((lk frm t S).2.1),.int .i64 (Sn.2.2)]):=by rw [ht3];exact Qk hpt
    have h3q:τ3[q]? =some (.map (Za Sn.1)):=by rw [ht3,List.getElem?_set,if_neg hpq];exact hτq
    refine Qb #[0,1,3,7,0,16,48,112,0,511] Tryz.mixed (by decide +kernel) (by decide +kernel) ?_
    refine zd3 ?_
    refine zp1 ?_
    refine zd3 ?_
    refine zp2 ?_
    refine yEN rfl rfl rfl ((show AOp _ _ _ _ .any ((τ3++([.box [.int .i64 v.kind,.bool v.b,.bool v.n.neg,.str v.n.digits,.int .i64 v.n.exp,.str v.s,.sl false 8 (Q7 []),.sl false 9 (Q5 v.m)],.dead,.box [.int .i64 w.kind,.bool w.b,.bool w.n.neg,.str w.n.digits,.int .i64 w.n.exp,.str w.s,.sl false 8 (Q7 w.l),.sl false 9 (Q5 w.m)]]:List AO)).set q (.map (Za (lk frm t S).1))) from by rw [hM];first|exact X5 rfl Tryz.underlying38 Tryz.underlying3 rfl rfl rfl (QD h3q) (hvc ▸ hgs)|(rw [hvc];exact Xy rfl Tryz.underlying38 Tryz.underlying3 rfl rfl rfl (QD h3q) hgn))) (⟨.inl rfl,⟨.inl rfl,⟨.inl rfl,trivial⟩⟩⟩) (trivial) ?_
    obtain ⟨τ4,ht4⟩:∃ tt,tt=τ3.set q (.map (Za (lk frm t S).1)):=⟨_,rfl⟩
    rw [Z1 (by omega),←ht4]
    have hl4:τ4.length=τ3.length:=by rw [ht4];simp
    have h4p:τ4[p]? =some (.box [.mapv q,.int .i64 frm,.int .i64 ((lk frm t S).2.1),.int .i64 (Sn.2.2)]):=by rw [ht4,List.getElem?_set,if_neg (Ne.symm hpq)];exact h3p
    refine RP.nil rfl ?_
    refine Q0 ?_
    refine Qb #[0,0,2,6,14,0,32,96,224,510,1023,2047,4095] Tryz.mixed (by decide +kernel) (by decide +kernel) ?_
    refine zd4 ?_
    refine zp1 ?_
    refine zd3 ?_
    refine zp1 ?_
    refine zd3 ?_
    refine yEN rfl rfl rfl (Zo (r:=[.mapv q,.int .i64 frm,.int .i64 (lk frm t S).2.1,.int .i64 (max Sn.2.2 t.id)]) rfl Tryz.sizeOf3 rfl rfl rfl (QD h4p) rfl (by decide)) (⟨.inl rfl,⟨.inl rfl,trivial⟩⟩) (trivial) ?_
    rw [Z1 (by omega)]
    refine RP.nil rfl ?_
    refine zw1 ?_
    refine zrt ?_
    have hfin:τ4.set p (.box [.mapv q,.int .i64 frm,.int .i64 ((lk frm t S).2.1),.int .i64 (max Sn.2.2 t.id)])=tst σ p q frm (lk frm t S):=by rw [ht4,ht3,hτ,←hls];unfold tst tbx;exact Yx hpq
    rw [hfin]
    have hfl:(tst σ p q frm (lk frm t S)).length=σ.length:=XI
    refine Yc (v:=.int .i64 1) σ.length (Nat.le_refl _) rfl ?_ trivial ?_
    ·have hcc:closed (tst σ p q frm (lk frm t S)).length (tst σ p q frm (lk frm t S)):=by rw [hfl];exact Zm hcl hql (hP.ltA _)
     rw [← hfl]
     exact Zw hcc
    ·rw [List.take_left' hfl];exact ⟨rfl,rfl⟩
  ·rw [h2];replace h2:=zcl h2
   refine zv3 ?_
   refine Qd rfl ?_
   refine Q1 ?_
   refine Q0 ?_
   refine Q0 ?_
   refine Qb #[0,1,3,7,15,31,63,7,135,391,903,2047,4095] Tryz.mixed (by decide +kernel) (by decide +kernel) ?_
   refine zd6 ?_
   refine zp1 ?_
   refine zd3 ?_
   refine zp1 ?_
   refine zd2 ?_
   refine RP.nil rfl ?_
   refine Q2 rfl (fun h4=>?_) (fun h4=>?_)
   ·(try rw [h4]);replace h4:=zcl h4
    have hgn:Z9 Sn.1 t.id=none:=by
     cases hg:Z9 Sn.1 t.id with
     |none=>rfl
     |some z=>rw [hg] at hhas;simp only [Option.isSome_some] at hhas;rw [← hhas] at h2;cases h2
    have hLk:=Q5C hSn hgn
    have hM:(lk frm t S).1=Sn.1++[(t.id,.agg (Qf v))]:=by rw [hLk,hv]
    have hls:(lk frm t S).2.2=max Sn.2.2 t.id:=by rw [hLk]
    have hnw:(lk frm t S).2.1=Sn.2.1+1:=by rw [hLk];simp only;rw [if_pos h4]
    refine Q4 ?_
    refine zg7 ?_
    refine ztN rfl rfl (Zo (r:=[.mapv q,.int .i64 frm,.int .i64 (Sn.2.1+1),.int .i64 Sn.2.2]) rfl Tryz.sizeOf3 rfl rfl rfl (QD hτp1) rfl (by decide)) ?_
    refine zon ?_
    refine Q0 ?_
    refine Qn (σ':=τ.set p (.box [.mapv q,.int .i64 frm,.int .i64 ((lk frm t S).2.1),.int .i64 (Sn.2.2)])++[.box [.int .i64 v.kind,.bool v.b,.bool v.n.neg,.str v.n.digits,.int .i64 v.n.exp,.str v.s,.sl false 8 (Q7 []),.sl false 9 (Q5 v.m)],.dead,.box [.int .i64 w.kind,.bool w.b,.bool w.n.neg,.str w.n.digits,.int .i64 w.n.exp,.str w.s,.sl false 8 (Q7 w.l),.sl false 9 (Q5 w.m)]]) (by first|(rw [hnw,Z1 hpt];rfl)|(rw [hnw,QO hτp1];rfl)) ?_
    obtain ⟨τ3,ht3⟩:∃ tt,tt=τ.set p (.box [.mapv q,.int .i64 frm,.int .i64 ((lk frm t S).2.1),.int .i64 (Sn.2.2)]):=⟨_,rfl⟩
    rw [← ht3]
    have hl3:τ3.length=τ.length:=by rw [ht3];simp
    rw [← hl3]
    have h3p:τ3[p]? =some (.box [.mapv q,.int .i64 frm,.int .i64 ((lk frm t S).2.1),.int .i64 (Sn.2.2)]):=by rw [ht3];exact Qk hpt
    have h3q:τ3[q]? =some (.map (Za Sn.1)):=by rw [ht3,List.getElem?_set,if_neg hpq];exact hτq
    refine Qb #[0,1,3,7,0,16,48,112,0,511] Tryz.mixed (by decide +kernel) (by decide +kernel) ?_
    refine zd3 ?_
    refine zp1 ?_
    refine zd3 ?_
    refine zp2 ?_
    refine yEN rfl rfl rfl ((show AOp _ _ _ _ .any ((τ3++([.box [.int .i64 v.kind,.bool v.b,.bool v.n.neg,.str v.n.digits,.int .i64 v.n.exp,.str v.s,.sl false 8 (Q7 []),.sl false 9 (Q5 v.m)],.dead,.box [.int .i64 w.kind,.bool w.b,.bool w.n.neg,.str w.n.digits,.int .i64 w.n.exp,.str w.s,.sl false 8 (Q7 w.l),.sl false 9 (Q5 w.m)]]:List AO)).set q (.map (Za (lk frm t S).1))) from by rw [hM];first|exact X5 rfl Tryz.underlying38 Tryz.underlying3 rfl rfl rfl (QD h3q) (hvc ▸ hgs)|(rw [hvc];exact Xy rfl Tryz.underlying38 Tryz.underlying3 rfl rfl rfl (QD h3q) hgn))) (⟨.inl rfl,⟨.inl rfl,⟨.inl rfl,trivial⟩⟩⟩) (trivial) ?_
    obtain ⟨τ4,ht4⟩:∃ tt,tt=τ3.set q (.map (Za (lk frm t S).1)):=⟨_,rfl⟩
    rw [Z1 (by omega),←ht4]
    have hl4:τ4.length=τ3.length:=by rw [ht4];simp
    have h4p:τ4[p]? =some (.box [.mapv q,.int .i64 frm,.int .i64 ((lk frm t S).2.1),.int .i64 (Sn.2.2)]):=by rw [ht4,List.getElem?_set,if_neg (Ne.symm hpq)];exact h3p
    refine RP.nil rfl ?_
    refine Q0 ?_
    refine Qb #[0,0,2,6,14,0,32,96,224,510,1023,2047,4095] Tryz.mixed (by decide +kernel) (by decide +kernel) ?_
    refine zd4 ?_
    refine zp1 ?_
    refine zd3 ?_
    refine zp1 ?_
    refine zd3 ?_
    refine yEN rfl rfl rfl (Zo (r:=[.mapv q,.int .i64 frm,.int .i64 (lk frm t S).2.1,.int .i64 (max Sn.2.2 t.id)]) rfl Tryz.sizeOf3 rfl rfl rfl (QD h4p) rfl (by decide)) (⟨.inl rfl,⟨.inl rfl,trivial⟩⟩) (trivial) ?_
    rw [Z1 (by omega)]
    refine RP.nil rfl ?_
    refine zw1 ?_
    refine zrt ?_
    have hfin:τ4.set p (.box [.mapv q,.int .i64 frm,.int .i64 ((lk frm t S).2.1),.int .i64 (max Sn.2.2 t.id)])=tst σ p q frm (lk frm t S):=by rw [ht4,ht3,hτ,←hls];unfold tst tbx;exact Yx hpq
    rw [hfin]
    have hfl:(tst σ p q frm (lk frm t S)).length=σ.length:=XI
    refine Yc (v:=.int .i64 1) σ.length (Nat.le_refl _) rfl ?_ trivial ?_
    ·have hcc:closed (tst σ p q frm (lk frm t S)).length (tst σ p q frm (lk frm t S)):=by rw [hfl];exact Zm hcl hql (hP.ltA _)
     rw [← hfl]
     exact Zw hcc
    ·rw [List.take_left' hfl];exact ⟨rfl,rfl⟩
   ·(try rw [h4]);replace h4:=zcl h4
    have hgn:Z9 Sn.1 t.id=none:=by
     cases hg:Z9 Sn.1 t.id with
     |none=>rfl
     |some z=>rw [hg] at hhas;simp only [Option.isSome_some] at hhas;rw [← hhas] at h2;cases h2
    have hLk:=Q5C hSn hgn
    have hM:(lk frm t S).1=Sn.1++[(t.id,.agg (Qf v))]:=by rw [hLk,hv]
    have hls:(lk frm t S).2.2=max Sn.2.2 t.id:=by rw [hLk]
    have hnw:(lk frm t S).2.1=Sn.2.1:=by rw [hLk];simp only;rw [if_neg (by omega),Int.add_zero]
    refine Q1 ?_
    refine Q0 ?_
    refine Qn (σ':=τ.set p (.box [.mapv q,.int .i64 frm,.int .i64 ((lk frm t S).2.1),.int .i64 (Sn.2.2)])++[.box [.int .i64 v.kind,.bool v.b,.bool v.n.neg,.str v.n.digits,.int .i64 v.n.exp,.str v.s,.sl false 8 (Q7 []),.sl false 9 (Q5 v.m)],.dead,.box [.int .i64 w.kind,.bool w.b,.bool w.n.neg,.str w.n.digits,.int .i64 w.n.exp,.str w.s,.sl false 8 (Q7 w.l),.sl false 9 (Q5 w.m)]]) (by first|(rw [hnw,Z1 hpt];rfl)|(rw [hnw,QO hτp1];rfl)) ?_
    obtain ⟨τ3,ht3⟩:∃ tt,tt=τ.set p (.box [.mapv q,.int .i64 frm,.int .i64 ((lk frm t S).2.1),.int .i64 (Sn.2.2)]):=⟨_,rfl⟩
    rw [← ht3]
    have hl3:τ3.length=τ.length:=by rw [ht3];simp
    rw [← hl3]
    have h3p:τ3[p]? =some (.box [.mapv q,.int .i64 frm,.int .i64 ((lk frm t S).2.1),.int .i64 (Sn.2.2)]):=by rw [ht3];exact Qk hpt
    have h3q:τ3[q]? =some (.map (Za Sn.1)):=by rw [ht3,List.getElem?_set,if_neg hpq];exact hτq
    refine Qb #[0,1,3,7,0,16,48,112,0,511] Tryz.mixed (by decide +kernel) (by decide +kernel) ?_
    refine zd3 ?_
    refine zp1 ?_
    refine zd3 ?_
    refine zp2 ?_
    refine yEN rfl rfl rfl ((show AOp _ _ _ _ .any ((τ3++([.box [.int .i64 v.kind,.bool v.b,.bool v.n.neg,.str v.n.digits,.int .i64 v.n.exp,.str v.s,.sl false 8 (Q7 []),.sl false 9 (Q5 v.m)],.dead,.box [.int .i64 w.kind,.bool w.b,.bool w.n.neg,.str w.n.digits,.int .i64 w.n.exp,.str w.s,.sl false 8 (Q7 w.l),.sl false 9 (Q5 w.m)]]:List AO)).set q (.map (Za (lk frm t S).1))) from by rw [hM];first|exact X5 rfl Tryz.underlying38 Tryz.underlying3 rfl rfl rfl (QD h3q) (hvc ▸ hgs)|(rw [hvc];exact Xy rfl Tryz.underlying38 Tryz.underlying3 rfl rfl rfl (QD h3q) hgn))) (⟨.inl rfl,⟨.inl rfl,⟨.inl rfl,trivial⟩⟩⟩) (trivial) ?_
    obtain ⟨τ4,ht4⟩:∃ tt,tt=τ3.set q (.map (Za (lk frm t S).1)):=⟨_,rfl⟩
    rw [Z1 (by omega),←ht4]
    have hl4:τ4.length=τ3.length:=by rw [ht4];simp
    have h4p:τ4[p]? =some (.box [.mapv q,.int .i64 frm,.int .i64 ((lk frm t S).2.1),.int .i64 (Sn.2.2)]):=by rw [ht4,List.getElem?_set,if_neg (Ne.symm hpq)];exact h3p
    refine RP.nil rfl ?_
    refine Q0 ?_
    refine Qb #[0,0,2,6,14,0,32,96,224,510,1023,2047,4095] Tryz.mixed (by decide +kernel) (by decide +kernel) ?_
    refine zd4 ?_
    refine zp1 ?_
    refine zd3 ?_
    refine zp1 ?_
    refine zd3 ?_
    refine yEN rfl rfl rfl (Zo (r:=[.mapv q,.int .i64 frm,.int .i64 (lk frm t S).2.1,.int .i64 (max Sn.2.2 t.id)]) rfl Tryz.sizeOf3 rfl rfl rfl (QD h4p) rfl (by decide)) (⟨.inl rfl,⟨.inl rfl,trivial⟩⟩) (trivial) ?_
    rw [Z1 (by omega)]
    refine RP.nil rfl ?_
    refine zw1 ?_
    refine zrt ?_
    have hfin:τ4.set p (.box [.mapv q,.int .i64 frm,.int .i64 ((lk frm t S).2.1),.int .i64 (max Sn.2.2 t.id)])=tst σ p q frm (lk frm t S):=by rw [ht4,ht3,hτ,←hls];unfold tst tbx;exact Yx hpq
    rw [hfin]
    have hfl:(tst σ p q frm (lk frm t S)).length=σ.length:=XI
    refine Yc (v:=.int .i64 1) σ.length (Nat.le_refl _) rfl ?_ trivial ?_
    ·have hcc:closed (tst σ p q frm (lk frm t S)).length (tst σ p q frm (lk frm t S)):=by rw [hfl];exact Zm hcl hql (hP.ltA _)
     rw [← hfl]
     exact Zw hcc
    ·rw [List.take_left' hfl];exact ⟨rfl,rfl⟩
end Lg
set_option maxRecDepth 20000
set_option maxHeartbeats 4000000
namespace Lg
open Go Go.Proofs Go.RowKit
variable [GLay]
theorem Qd5 (n:Nat) (G:Int→JV) (N:Int) (ih:∀ (y:JT) (deep frm:Int) (S:LS) (p q:Nat) (τ:List AO),Q6 (tv y)≤n→TP G N y deep frm S p q τ→ACalls Tryz.prog 13 [.ptr p 0,.pp (tc y),.int .i64 deep] τ (Ret (.int .i64 1) (tst τ p q frm (lk frm y S)))) (t:JT) (v:JV) (hv:tv t=v) (deep frm:Int) (S:LS) (p q:Nat) (σ:List AO) (hn:Q6 v≤n+1) (hP:TP G N t deep frm S p q σ) (hk:¬v.kind=4∧¬v.kind=5):ACalls Tryz.prog 13 [.ptr p 0,.pp (tc t),.int .i64 deep] σ (Ret (.int .i64 1) (tst σ p q frm (lk frm t S))):=by
 have hw:=hP.w
 have hjb:=hP.jb
 have hlen:=hP.len
 have hd0:=hP.d0
 have hdd:=hP.dd
 have hnN:=hP.nN
 have hn0:=hP.n0
 have hnb:=hP.nb
 have hjs:=V8 hw
 have hjd:=Yl (tv t)
 have hpl:p < σ.length:=(List.getElem?_eq_some_iff.1 hP.hp).1
 have hql:q < σ.length:=(List.getElem?_eq_some_iff.1 hP.hq).1
 have hpq:=hP.ne
 have hps:=hP.hp
 have hqs:=hP.hq
 have hps1:σ[p]? =some (.box [.mapv q,.int .i64 frm,.int .i64 (S.2.1),.int .i64 (S.2.2)]):=hps
 have hbl:=ZD t.ks
 have htl:=X0 t.ch
 have him:(Za S.1).length=S.1.length:=List.length_map _
 rw [hv] at hjb hlen hdd hnb hjs hjd
 have hvl:=Xz t.ch
 have hlln:=Yu (tvs t.ch)
 have hvp:=Qi v
 obtain ⟨hb1,hb2,hb3,hb4,hb5,hb6⟩:=(Zy v).1 hjb
 have hc0:t.ch.length=0:=by rw [Q0c hw (by rw [← XK,hv];exact hk.1) (by rw [← XK,hv];exact hk.2)];rfl
 have hk0:t.ks.length=0:=by rw [Uc hw (by rw [← XK,hv];exact hk.2)];rfl
 have hm0:=Q93 hw hv hk.2
 have hl0:=Q92 hw hv hk.1
 have hll:v.l.length=t.ch.length:=by rw [hl0,hc0];rfl
 obtain ⟨hk4,hk5⟩:=hk
 refine Qc Tryz.func13 rfl Tryz.ntmps13 (XE Tryz.results13) (Nat.le_of_ble_eq_true rfl) (fun hcl hal=>?_)
 rw [FB t,hv]
 refine zw1 ?_
 refine Q0 ?_
 refine zu4 ?_
 refine ztG rfl rfl (XH rfl rfl rfl (by omega)) ?_
 refine zg6 ?_
 refine ztG rfl rfl (UI rfl rfl Tryz.underlying38 rfl hqs) ?_
 refine ztG rfl rfl (XH rfl rfl rfl (by omega)) ?_
 refine zv1 ?_
 refine Qd rfl ?_
 refine Q1 ?_
 refine Q0 ?_
 refine QE (ι:=Unit) (fun b=>True) (fun b=>⟨[],[(0,.ptr p 0),(1,.pp [.int .i64 t.id,.int .i64 v.kind,.bool v.b,.bool v.n.neg,.str v.n.digits,.int .i64 v.n.exp,.str v.s,.nils,.nils,.sl false 1 (ZC t.ks),.sl false 1 (tcs t.ch)]),(2,.int .i64 deep),(93,.bool false)]⟩) (fun b=>σ) ?_ (fun b hj=>?_)
 ·skip
  refine Qb #[0,1,3,7,15,31,63,127,255,511,1023,2047,127,4223,12415,28799,61567,131071,262143,524287,1048575,2097151,4194303,8388607,16777215,33554431,67108863,134217727,268435455,536870911,1073741823,2147483647,4294967295,8589934591,17179869183,34359738367,68719476735,137438953471,274877906943,549755813887,1099511627775,2199023255551,4398046511103,8796093022207,17592186044415,35184372088831,70368744177663,140737488355327,281474976710655,562949953421311,1125899906842623,2251799813685247,4503599627370495,9007199254740991,18014398509481983,36028797018963967,72057594037927935,144115188075855871,4503599627370495,292733975779082239,869194728082505727,2022116232689352703,4327959241903046655,8939645260330434559,18446744073709551615,36893488147419103231,73786976294838206463] Tryz.mixed (by decide +kernel) (by decide +kernel) ?_
  refine zd4 ?_
  refine zp1 ?_
  refine yA rfl rfl (fun _=>Xx rfl rfl rfl (by omega)) ?_
  refine Uh ?_
  refine zd8 ?_
  refine zp1 ?_
  refine yAG rfl rfl rfl (fun _=>Q4u rfl rfl rfl (by omega)) ?_
  refine zd4 ?_
  refine zp1 ?_
  refine zd1 ?_
  refine yAG rfl rfl rfl (fun _=>XH rfl rfl rfl (by omega)) ?_
  refine zd7 ?_
  refine zp1 ?_
  refine zd2 ?_
  refine Q1u 69 rfl (fun h1=>?_) fun h1=>?_
  ·rw [h1];replace h1:=zcl h1
   refine zd3 ?_
   refine zp1 ?_
   refine zd1 ?_
   refine yAG rfl rfl rfl (fun _=>XH rfl rfl rfl (by omega)) ?_
   refine zd7 ?_
   refine zp1 ?_
   refine zd5 ?_
   refine zp1 ?_
   refine zd2 ?_
   refine yAG rfl rfl rfl (fun _=>XH rfl rfl rfl (by decide)) ?_
   refine zd1 ?_
   refine RP.nil rfl ?_
   exact ⟨(),trivial,⟨rfl,rfl,rfl,rfl,rfl,trivial⟩,rfl⟩
  ·rw [h1];replace h1:=zcl h1
   refine Uh ?_
   refine zd3 ?_
   refine zp1 ?_
   refine zd5 ?_
   refine zp1 ?_
   refine zd2 ?_
   refine yAG rfl rfl rfl (fun _=>XH rfl rfl rfl (by decide)) ?_
   refine zd1 ?_
   refine RP.nil rfl ?_
   exact ⟨(),trivial,⟨rfl,rfl,rfl,rfl,rfl,trivial⟩,rfl⟩
 ·skip
  refine Qd rfl ?_
  refine Q1 ?_
  refine zw6 ?_
  refine Q0 ?_
  refine Q0 ?_
  refine Xv 0 6 8 1 rfl rfl rfl ?_
  refine Q4 ?_
  refine zv1 ?_
  refine Qa ?_
  refine Qs (ι:=Nat×List AO) (fun z=>z.1≤v.l.length∧z.2=tst σ p q frm (lks frm (t.ch.take z.1) S)) (fun z=>⟨[],[(0,.ptr p 0),(1,.pp [.int .i64 t.id,.int .i64 v.kind,.bool v.b,.bool v.n.neg,.str v.n.digits,.int .i64 v.n.exp,.str v.s,.nils,.nils,.sl false 1 (ZC t.ks),.sl false 1 (tcs t.ch)]),(2,.int .i64 deep),(7,.ptr (z.2.length+0) 0),(8,.int .i64 (z.1:Int))]⟩) (fun z=>z.2++[.box [.int .i64 v.kind,.bool v.b,.bool v.n.neg,.str v.n.digits,.int .i64 v.n.exp,.str v.s,.arr (z.2.length+1) z.1 8 0 z.1,.nils],.arr 8 z.1 (Q7 (v.l.take z.1)).flatten]) (fun z=>v.l.length - z.1) ((0,σ)) (⟨Nat.zero_le _,by simp only [List.take_zero,lks];exact (F9 hps hqs).symm⟩) ?_ rfl (fun z hz=>?_)
  ·exact ⟨rfl,rfl,rfl,rfl,rfl,rfl,trivial⟩
  obtain ⟨i,τ⟩:=z
  obtain ⟨hz1,hτ⟩:=hz
  simp only at hz1 hτ ⊢
  have hτl:τ.length=σ.length:=by rw [hτ];exact XI
  have hpt:p < τ.length:=by omega
  have hqt:q < τ.length:=by omega
  have hτp:τ[p]? =some (tbx q frm (lks frm (t.ch.take i) S)):=by rw [hτ];exact Q2z hpq hpl
  have hτq:τ[q]? =some (.map (Za (lks frm (t.ch.take i) S).1)):=by rw [hτ];exact Q2A hql
  have hτc:closed τ.length τ:=by rw [hτl,hτ];exact Zm hcl hql (hP.lt _ _)
  refine Q0 ?_
  refine zw7 ?_
  refine Q2 rfl (fun h2=>?_) (fun h2=>?_)
  ·(try rw [h2]);replace h2:=zcl h2
   exfalso;omega
  ·(try rw [h2]);replace h2:=zcl h2
   refine Qg ?_
   refine Q0 ?_
   have hie:i=v.l.length:=by omega
   subst hie
   have htk:t.ch.take v.l.length=t.ch:=List.take_of_length_le (by omega)
   rw [htk] at hτ hτp hτq
   rw [List.take_length]
   refine Xa 0 6 1 v.l.length 8 v.l.length rfl rfl rfl (Q7 v.l) rfl (Vb _) (QG _) (by decide) ?_
   refine QN 0 (bs':=[.int .i64 v.kind,.bool v.b,.bool v.n.neg,.str v.n.digits,.int .i64 v.n.exp,.str v.s,.sl false 8 (Q7 v.l),.sl false 9 (Q5 [])]) rfl ⟨AVle.refl _,AVle.refl _,AVle.refl _,AVle.refl _,AVle.refl _,AVle.refl _,AVle.refl _,Xt,trivial⟩ ?_
   have hvc:Qf v=[.int .i64 v.kind,.bool v.b,.bool v.n.neg,.str v.n.digits,.int .i64 v.n.exp,.str v.s,.sl false 8 (Q7 v.l),.sl false 9 (Q5 [])]:=by rw [Q3 v,hm0]
   obtain ⟨Sn,hSn⟩:∃ s,lks frm t.ch S=s:=⟨_,rfl⟩
   have hSG:=(hP.take t.ch.length).sg
   rw [List.take_length,hSn] at hSG
   rw [hSn] at hτ hτp hτq
   have hSb:=(hP.take t.ch.length).nb
   rw [List.take_length,hSn] at hSb
   have hτp1:τ[p]? =some (.box [.mapv q,.int .i64 frm,.int .i64 (Sn.2.1),.int .i64 (Sn.2.2)]):=hτp
   obtain ⟨has,hhas⟩:∃ b,(Z9 Sn.1 t.id).isSome=b:=⟨_,rfl⟩
   obtain ⟨w,hw0,hw1,hjw,hzw⟩:=HS (id:=t.id) hSG (hP.own.1.trans hv) hjb (by omega) Q9e
   refine Qb #[0,1,3,7,0,16,48,112,255,511,1023,1023,0,6143,16383] Tryz.mixed (by decide +kernel) (by decide +kernel) ?_
   refine zd3 ?_
   refine zp1 ?_
   refine zd3 ?_
   refine zp1 ?_
   refine yP rfl rfl (XT rfl Tryz.underlying38 Tryz.underlying3 Tryz.zeroValue28 rfl rfl (QD hτq) hhas hw0) (trivial) ?_
   rw [Q3 w]
   refine zd3 ?_
   refine yE rfl rfl (zoa) (⟨.inr (by rw [← Q3 w];exact XT rfl Tryz.underlying38 Tryz.underlying3 Tryz.zeroValue28 rfl rfl (QD hτq) hhas hw0),⟨.inr zoa,⟨.inr zoa,trivial⟩⟩⟩) (trivial) ?_
   refine yEN rfl rfl rfl (zoa) (⟨.inl rfl,⟨.inl rfl,⟨.inl rfl,trivial⟩⟩⟩) (⟨rfl,trivial⟩) ?_
   refine zd1 ?_
   refine RP.nil rfl ?_
   refine zu2 ?_
   refine zt rfl (zc rfl (Hz w v _ _ _ (Q3 w) hvc hjw hjb hzw)) ?_
   refine zv1 ?_
   refine Q0 ?_
   refine zu2 ?_
   refine zsp 176 rfl (fun h3=>?_) fun h3=>?_
   ·rw [h3];replace h3:=zcl h3
    refine zv3 ?_
    refine Q2 rfl (fun h4=>?_) (fun h4=>?_)
    ·(try rw [h4]);replace h4:=zcl h4
     rw [hw1 (hhas.trans h3),UP rfl] at h4;cases h4
    ·(try rw [h4]);replace h4:=zcl h4
     have hhas2:(Z9 Sn.1 t.id).isSome=true:=by rw [hhas];exact h3
     obtain ⟨j,hgs⟩:∃ j,Z9 Sn.1 t.id=some (j,.agg (Qf v)):=by
      cases hg:Z9 Sn.1 t.id with
      |none=>rw [hg] at hhas2;cases hhas2
      |some z=>exact ⟨z.1,by have:=hSG.get hg;rw [hP.own.1,hv] at this;rw [← this]⟩
     have hLk:=Qcn hSn hgs
     have hnw:(lk frm t S).2.1=Sn.2.1:=by rw [hLk]
     have hM:(lk frm t S).1=Sn.1:=by rw [hLk]
     have hls:(lk frm t S).2.2=max Sn.2.2 t.id:=by rw [hLk]
     refine Q1 ?_
     refine Q0 ?_
     refine Q0 ?_
     refine Qb #[0,1,3,7,15,31,63,7,135,391,903,2047,4095] Tryz.mixed (by decide +kernel) (by decide +kernel) ?_
     refine Uh ?_
     refine zd3 ?_
     refine RP.nil rfl ?_
     refine Qd rfl ?_
     refine Q1 ?_
     refine Q0 ?_
     refine Qn (σ':=τ.set p (.box [.mapv q,.int .i64 frm,.int .i64 ((lk frm t S).2.1),.int .i64 (Sn.2.2)])++[.box [.int .i64 v.kind,.bool v.b,.bool v.n.neg,.str v.n.digits,.int .i64 v.n.exp,.str v.s,.sl false 8 (Q7 v.l),.sl false 9 (Q5 [])],.dead,.box [.int .i64 w.kind,.bool w.b,.bool w.n.neg,.str w.n.digits,.int .i64 w.n.exp,.str w.s,.sl false 8 (Q7 w.l),.sl false 9 (Q5 w.m)]]) (by first|(rw [hnw,Z1 hpt];rfl)|(rw [hnw,QO hτp1];rfl)) ?_
     obtain ⟨τ3,ht3⟩:∃ tt,tt=τ.set p (.box [.mapv q,.int .i64 frm,.int .i64 ((lk frm t S).2.1),.int .i64 (Sn.2.2)]):=⟨_,rfl⟩
     rw [← ht3]
     have hl3:τ3.length=τ.length:=by rw [ht3];simp
     rw [← hl3]
     have h3p:τ3[p]? =some (.box [.mapv q,.int .i64 frm,.int .i64 ((lk frm t S).2.1),.int .i64 (Sn.2.2)]):=by rw [ht3];exact Qk hpt
     have h3q:τ3[q]? =some (.map (Za Sn.1)):=by rw [ht3,List.getElem?_set,if_neg hpq];exact hτq
     refine Qb #[0,1,3,7,0,16,48,112,0,511] Tryz.mixed (by decide +kernel) (by decide +kernel) ?_
     refine zd3 ?_
     refine zp1 ?_
     refine zd3 ?_
     refine zp2 ?_
     refine yEN rfl rfl rfl ((show AOp _ _ _ _ .any ((τ3++([.box [.int .i64 v.kind,.bool v.b,.bool v.n.neg,.str v.n.digits,.int .i64 v.n.exp,.str v.s,.sl false 8 (Q7 v.l),.sl false 9 (Q5 [])],.dead,.box [.int .i64 w.kind,.bool w.b,.bool w.n.neg,.str w.n.digits,.int .i64 w.n.exp,.str w.s,.sl false 8 (Q7 w.l),.sl false 9 (Q5 w.m)]]:List AO)).set q (.map (Za (lk frm t S).1))) from by rw [hM];first|exact X5 rfl Tryz.underlying38 Tryz.underlying3 rfl rfl rfl (QD h3q) (hvc ▸ hgs)|(rw [hvc];exact Xy rfl Tryz.underlying38 Tryz.underlying3 rfl rfl rfl (QD h3q) hgn))) (⟨.inl rfl,⟨.inl rfl,⟨.inl rfl,trivial⟩⟩⟩) (trivial) ?_
     obtain ⟨τ4,ht4⟩:∃ tt,tt=τ3.set q (.map (Za (lk frm t S).1)):=⟨_,rfl⟩
     rw [Z1 (by omega),←ht4]
     have hl4:τ4.length=τ3.length:=by rw [ht4];simp
     have h4p:τ4[p]? =some (.box [.mapv q,.int .i64 frm,.int .i64 ((lk frm t S).2.1),.int .i64 (Sn.2.2)]):=by rw [ht4,List.getElem?_set,if_neg (Ne.symm hpq)];exact h3p
     refine RP.nil rfl ?_
     refine Q0 ?_
     refine Qb #[0,0,2,6,14,0,32,96,224,510,1023,2047,4095] Tryz.mixed (by decide +kernel) (by decide +kernel) ?_
     refine zd4 ?_
     refine zp1 ?_
     refine zd3 ?_
     refine zp1 ?_
     refine zd3 ?_
     refine yEN rfl rfl rfl (Zo (r:=[.mapv q,.int .i64 frm,.int .i64 (lk frm t S).2.1,.int .i64 (max Sn.2.2 t.id)]) rfl Tryz.sizeOf3 rfl rfl rfl (QD h4p) rfl (by decide)) (⟨.inl rfl,⟨.inl rfl,trivial⟩⟩) (trivial) ?_
     rw [Z1 (by omega)]
     refine RP.nil rfl ?_
     refine zw1 ?_
     refine zrt ?_
     have hfin:τ4.set p (.box [.mapv q,.int .i64 frm,.int .i64 ((lk frm t S).2.1),.int .i64 (max Sn.2.2 t.id)])=tst σ p q frm (lk frm t S):=by rw [ht4,ht3,hτ,←hls];unfold tst tbx;exact Yx hpq
     rw [hfin]
     have hfl:(tst σ p q frm (lk frm t S)).length=σ.length:=XI
     refine Yc (v:=.int .i64 1) σ.length (Nat.le_refl _) rfl ?_ trivial ?_
     ·have hcc:closed (tst σ p q frm (lk frm t S)).length (tst σ p q frm (lk frm t S)):=by rw [hfl];exact Zm hcl hql (hP.ltA _)
      rw [← hfl]
      exact Zw hcc
     ·rw [List.take_left' hfl];exact ⟨rfl,rfl⟩
   ·rw [h3];replace h3:=zcl h3
    refine zv3 ?_
    refine Qd rfl ?_
    refine Q1 ?_
    refine Q0 ?_
    refine Q0 ?_
    refine Qb #[0,1,3,7,15,31,63,7,135,391,903,2047,4095] Tryz.mixed (by decide +kernel) (by decide +kernel) ?_
    refine zd6 ?_
    refine zp1 ?_
    refine zd3 ?_
    refine zp1 ?_
    refine zd2 ?_
    refine RP.nil rfl ?_
    refine Q2 rfl (fun h5=>?_) (fun h5=>?_)
    ·(try rw [h5]);replace h5:=zcl h5
     have hgn:Z9 Sn.1 t.id=none:=by
      cases hg:Z9 Sn.1 t.id with
      |none=>rfl
      |some z=>rw [hg] at hhas;simp only [Option.isSome_some] at hhas;rw [← hhas] at h3;cases h3
     have hLk:=Q5C hSn hgn
     have hM:(lk frm t S).1=Sn.1++[(t.id,.agg (Qf v))]:=by rw [hLk,hv]
     have hls:(lk frm t S).2.2=max Sn.2.2 t.id:=by rw [hLk]
     have hnw:(lk frm t S).2.1=Sn.2.1+1:=by rw [hLk];simp only;rw [if_pos h5]
     refine Q4 ?_
     refine zg7 ?_
     refine ztN rfl rfl (Zo (r:=[.mapv q,.int .i64 frm,.int .i64 (Sn.2.1+1),.int .i64 Sn.2.2]) rfl Tryz.sizeOf3 rfl rfl rfl (QD hτp1) rfl (by decide)) ?_
     refine zon ?_
     refine Q0 ?_
     refine Qn (σ':=τ.set p (.box [.mapv q,.int .i64 frm,.int .i64 ((lk frm t S).2.1),.int .i64 (Sn.2.2)])++[.box [.int .i64 v.kind,.bool v.b,.bool v.n.neg,.str v.n.digits,.int .i64 v.n.exp,.str v.s,.sl false 8 (Q7 v.l),.sl false 9 (Q5 [])],.dead,.box [.int .i64 w.kind,.bool w.b,.bool w.n.neg,.str w.n.digits,.int .i64 w.n.exp,.str w.s,.sl false 8 (Q7 w.l),.sl false 9 (Q5 w.m)]]) (by first|(rw [hnw,Z1 hpt];rfl)|(rw [hnw,QO hτp1];rfl)) ?_
     obtain ⟨τ3,ht3⟩:∃ tt,tt=τ.set p (.box [.mapv q,.int .i64 frm,.int .i64 ((lk frm t S).2.1),.int .i64 (Sn.2.2)]):=⟨_,rfl⟩
     rw [← ht3]
     have hl3:τ3.length=τ.length:=by rw [ht3];simp
     rw [← hl3]
     have h3p:τ3[p]? =some (.box [.mapv q,.int .i64 frm,.int .i64 ((lk frm t S).2.1),.int .i64 (Sn.2.2)]):=by rw [ht3];exact Qk hpt
     have h3q:τ3[q]? =some (.map (Za Sn.1)):=by rw [ht3,List.getElem?_set,if_neg hpq];exact hτq
     refine Qb #[0,1,3,7,0,16,48,112,0,511] Tryz.mixed (by decide +kernel) (by decide +kernel) ?_
     refine zd3 ?_
     refine zp1 ?_
     refine zd3 ?_
     refine zp2 ?_
     refine yEN rfl rfl rfl ((show AOp _ _ _ _ .any ((τ3++([.box [.int .i64 v.kind,.bool v.b,.bool v.n.neg,.str v.n.digits,.int .i64 v.n.exp,.str v.s,.sl false 8 (Q7 v.l),.sl false 9 (Q5 [])],.dead,.box [.int .i64 w.kind,.bool w.b,.bool w.n.neg,.str w.n.digits,.int .i64 w.n.exp,.str w.s,.sl false 8 (Q7 w.l),.sl false 9 (Q5 w.m)]]:List AO)).set q (.map (Za (lk frm t S).1))) from by rw [hM];first|exact X5 rfl Tryz.underlying38 Tryz.underlying3 rfl rfl rfl (QD h3q) (hvc ▸ hgs)|(rw [hvc];exact Xy rfl Tryz.underlying38 Tryz.underlying3 rfl rfl rfl (QD h3q) hgn))) (⟨.inl rfl,⟨.inl rfl,⟨.inl rfl,trivial⟩⟩⟩) (trivial) ?_
     obtain ⟨τ4,ht4⟩:∃ tt,tt=τ3.set q (.map (Za (lk frm t S).1)):=⟨_,rfl⟩
     rw [Z1 (by omega),←ht4]
     have hl4:τ4.length=τ3.length:=by rw [ht4];simp
     have h4p:τ4[p]? =some (.box [.mapv q,.int .i64 frm,.int .i64 ((lk frm t S).2.1),.int .i64 (Sn.2.2)]):=by rw [ht4,List.getElem?_set,if_neg (Ne.symm hpq)];exact h3p
     refine RP.nil rfl ?_
     refine Q0 ?_
     refine Qb #[0,0,2,6,14,0,32,96,224,510,1023,2047,4095] Tryz.mixed (by decide +kernel) (by decide +kernel) ?_
     refine zd4 ?_
     refine zp1 ?_
     refine zd3 ?_
     refine zp1 ?_
     refine zd3 ?_
     refine yEN rfl rfl rfl (Zo (r:=[.mapv q,.int .i64 frm,.int .i64 (lk frm t S).2.1,.int .i64 (max Sn.2.2 t.id)]) rfl Tryz.sizeOf3 rfl rfl rfl (QD h4p) rfl (by decide)) (⟨.inl rfl,⟨.inl rfl,trivial⟩⟩) (trivial) ?_
     rw [Z1 (by omega)]
     refine RP.nil rfl ?_
     refine zw1 ?_
     refine zrt ?_
     have hfin:τ4.set p (.box [.mapv q,.int .i64 frm,.int .i64 ((lk frm t S).2.1),.int .i64 (max Sn.2.2 t.id)])=tst σ p q frm (lk frm t S):=by rw [ht4,ht3,hτ,←hls];unfold tst tbx;exact Yx hpq
     rw [hfin]
     have hfl:(tst σ p q frm (lk frm t S)).length=σ.length:=XI
     refine Yc (v:=.int .i64 1) σ.length (Nat.le_refl _) rfl ?_ trivial ?_
     ·have hcc:closed (tst σ p q frm (lk frm t S)).length (tst σ p q frm (lk frm t S)):=by rw [hfl];exact Zm hcl hql (hP.ltA _)
      rw [← hfl]
      exact Zw hcc
     ·rw [List.take_left' hfl];exact ⟨rfl,rfl⟩
    ·(try rw [h5]);replace h5:=zcl h5
     have hgn:Z9 Sn.1 t.id=none:=by
      cases hg:Z9 Sn.1 t.id with
      |none=>rfl
      |some z=>rw [hg] at hhas;simp only [Option.isSome_some] at hhas;rw [← hhas] at h3;cases h3
     have hLk:=Q5C hSn hgn
     have hM:(lk frm t S).1=Sn.1++[(t.id,.agg (Qf v))]:=by rw [hLk,hv]
     have hls:(lk frm t S).2.2=max Sn.2.2 t.id:=by rw [hLk]
     have hnw:(lk frm t S).2.1=Sn.2.1:=by rw [hLk];simp only;rw [if_neg (by omega),Int.add_zero]
     refine Q1 ?_
     refine Q0 ?_
     refine Qn (σ':=τ.set p (.box [.mapv q,.int .i64 frm,.int .i64 ((lk frm t S).2.1),.int .i64 (Sn.2.2)])++[.box [.int .i64 v.kind,.bool v.b,.bool v.n.neg,.str v.n.digits,.int .i64 v.n.exp,.str v.s,.sl false 8 (Q7 v.l),.sl false 9 (Q5 [])],.dead,.box [.int .i64 w.kind,.bool w.b,.bool w.n.neg,.str w.n.digits,.int .i64 w.n.exp,.str w.s,.sl false 8 (Q7 w.l),.sl false 9 (Q5 w.m)]]) (by first|(rw [hnw,Z1 hpt];rfl)|(rw [hnw,QO hτp1];rfl)) ?_
     obtain ⟨τ3,ht3⟩:∃ tt,tt=τ.set p (.box [.mapv q,.int .i64 frm,.int .i64 ((lk frm t S).2.1),.int .i64 (Sn.2.2)]):=⟨_,rfl⟩
     rw [← ht3]
     have hl3:τ3.length=τ.length:=by rw [ht3];simp
     rw [← hl3]
     have h3p:τ3[p]? =some (.box [.mapv q,.int .i64 frm,.int .i64 ((lk frm t S).2.1),.int .i64 (Sn.2.2)]):=by rw [ht3];exact Qk hpt
     have h3q:τ3[q]? =some (.map (Za Sn.1)):=by rw [ht3,List.getElem?_set,if_neg hpq];exact hτq
     refine Qb #[0,1,3,7,0,16,48,112,0,511] Tryz.mixed (by decide +kernel) (by decide +kernel) ?_
     refine zd3 ?_
     refine zp1 ?_
     refine zd3 ?_
     refine zp2 ?_
     refine yEN rfl rfl rfl ((show AOp _ _ _ _ .any ((τ3++([.box [.int .i64 v.kind,.bool v.b,.bool v.n.neg,.str v.n.digits,.int .i64 v.n.exp,.str v.s,.sl false 8 (Q7 v.l),.sl false 9 (Q5 [])],.dead,.box [.int .i64 w.kind,.bool w.b,.bool w.n.neg,.str w.n.digits,.int .i64 w.n.exp,.str w.s,.sl false 8 (Q7 w.l),.sl false 9 (Q5 w.m)]]:List AO)).set q (.map (Za (lk frm t S).1))) from by rw [hM];first|exact X5 rfl Tryz.underlying38 Tryz.underlying3 rfl rfl rfl (QD h3q) (hvc ▸ hgs)|(rw [hvc];exact Xy rfl Tryz.underlying38 Tryz.underlying3 rfl rfl rfl (QD h3q) hgn))) (⟨.inl rfl,⟨.inl rfl,⟨.inl rfl,trivial⟩⟩⟩) (trivial) ?_
     obtain ⟨τ4,ht4⟩:∃ tt,tt=τ3.set q (.map (Za (lk frm t S).1)):=⟨_,rfl⟩
     rw [Z1 (by omega),←ht4]
     have hl4:τ4.length=τ3.length:=by rw [ht4];simp
     have h4p:τ4[p]? =some (.box [.mapv q,.int .i64 frm,.int .i64 ((lk frm t S).2.1),.int .i64 (Sn.2.2)]):=by rw [ht4,List.getElem?_set,if_neg (Ne.symm hpq)];exact h3p
     refine RP.nil rfl ?_
     refine Q0 ?_
     refine Qb #[0,0,2,6,14,0,32,96,224,510,1023,2047,4095] Tryz.mixed (by decide +kernel) (by decide +kernel) ?_
     refine zd4 ?_
     refine zp1 ?_
     refine zd3 ?_
     refine zp1 ?_
     refine zd3 ?_
     refine yEN rfl rfl rfl (Zo (r:=[.mapv q,.int .i64 frm,.int .i64 (lk frm t S).2.1,.int .i64 (max Sn.2.2 t.id)]) rfl Tryz.sizeOf3 rfl rfl rfl (QD h4p) rfl (by decide)) (⟨.inl rfl,⟨.inl rfl,trivial⟩⟩) (trivial) ?_
     rw [Z1 (by omega)]
     refine RP.nil rfl ?_
     refine zw1 ?_
     refine zrt ?_
     have hfin:τ4.set p (.box [.mapv q,.int .i64 frm,.int .i64 ((lk frm t S).2.1),.int .i64 (max Sn.2.2 t.id)])=tst σ p q frm (lk frm t S):=by rw [ht4,ht3,hτ,←hls];unfold tst tbx;exact Yx hpq
     rw [hfin]
     have hfl:(tst σ p q frm (lk frm t S)).length=σ.length:=XI
     refine Yc (v:=.int .i64 1) σ.length (Nat.le_refl _) rfl ?_ trivial ?_
     ·have hcc:closed (tst σ p q frm (lk frm t S)).length (tst σ p q frm (lk frm t S)):=by rw [hfl];exact Zm hcl hql (hP.ltA _)
      rw [← hfl]
      exact Zw hcc
     ·rw [List.take_left' hfl];exact ⟨rfl,rfl⟩
end Lg
set_option maxRecDepth 20000
set_option maxHeartbeats 4000000
namespace Lg
open Go Go.Proofs Go.RowKit
variable [GLay]
theorem Q2t (v:JV) (next:Int) (σ:List AO) (hjb:jb v) (h0:0≤next) (hb:next+Q6 v≤1000000000000):ACalls Tryz.prog 12 [.agg (Qf v),.int .i64 next] σ (Ret (.tup [.pp (Y3 v next),.int .i64 (next+Q6 v)]) σ):=by
 refine Qc Tryz.func12 rfl Tryz.ntmps12 (J5 Tryz.results12) (Nat.le_of_ble_eq_true rfl) (fun hcl hal=>?_)
 rw [Q3 v]
 refine zw3 ?_
 refine zw4 ?_
 refine zu2 ?_
 refine zt rfl (zc rfl (Q3 v ▸ Q3S 1 (FG (Q6 v).toNat v next _ _ (by have:=Qi v;omega) hjb (Zz 1) h0 hb))) ?_
 refine zv1 ?_
 refine Q0 ?_
 refine Qb #[0,0,2,6,14,1,63] Tryz.mixed (by decide +kernel) (by decide +kernel) ?_
 refine zd4 ?_
 refine zp1 ?_
 refine zd2 ?_
 refine RP.nil rfl ?_
 refine zrt ?_
 exact JN rfl rfl hcl (by simp [AV.lt,AV.ltL]) (Q8 rfl)

end Lg
set_option maxRecDepth 20000
set_option maxHeartbeats 4000000
namespace Lg
open Go Go.Proofs Go.RowKit
variable [GLay]
theorem HK (s:ByteArray) (at0 deep bad spot:Int) (p:Nat) (σ:List AO) (hσ:σ[p]? =some (.box [.str s,.int .i64 at0,.int .i64 deep,.int .i64 bad,.int .i64 spot])) (h0:0≤at0):ACalls Tryz.prog 75 [.ptr p 0] σ (Ret (.int .i64 (pkv s at0 bad)) σ):=by
 refine Qc Tryz.func75 rfl Tryz.ntmps75 (XE Tryz.results75) (Nat.le_of_ble_eq_true rfl) (fun hcl hal=>?_)
 have hbl:=J0 s at0.toNat
 refine zw1 ?_
 refine Q0 ?_
 refine Q0 ?_
 refine Qb #[0,1,3,7,15,31,63,127,255,511,63,1087,3135,7231,15423,32767,65535] Tryz.mixed (by decide +kernel) (by decide +kernel) ?_
 refine zd3 ?_
 refine zp1 ?_
 refine zd2 ?_
 refine Q1u 8 rfl (fun h1=>?_) fun h1=>?_
 ·rw [h1];replace h1:=zcl h1
  refine Uh ?_
  refine zd1 ?_
  refine RP.nil rfl ?_
  refine Qj rfl ?_
  refine zw1 ?_
  refine zrt ?_
  refine Qr rfl hcl trivial (Q8 ?_)
  congr 1;unfold pkv;first|(rw [if_pos (by omega)];done)|(rw [if_neg (by omega)];done)
 ·rw [h1];replace h1:=zcl h1
  refine zd3 ?_
  refine zp1 ?_
  refine zd3 ?_
  refine zp1 ?_
  refine zd3 ?_
  refine RP.nil rfl ?_
  refine Q2 rfl (fun h2=>?_) (fun h2=>?_)
  ·(try rw [h2]);replace h2:=zcl h2
   refine zw1 ?_
   refine zrt ?_
   refine Qr rfl hcl trivial (Q8 ?_)
   congr 1;unfold pkv;first|(rw [if_pos (by omega)];done)|(rw [if_neg (by omega)];done)
  ·(try rw [h2]);replace h2:=zcl h2
   refine Q1 ?_
   refine Q0 ?_
   refine Qb #[0,1,3,7,0,16,48,112,255,511,1023] Tryz.mixed (by decide +kernel) (by decide +kernel) ?_
   refine zd3 ?_
   refine zp1 ?_
   refine zd3 ?_
   refine zp1 ?_
   refine zd3 ?_
   refine RP.nil rfl ?_
   refine zrt ?_
   refine Qr rfl hcl trivial (Q8 ?_)
   congr 1;unfold pkv;first|(rw [if_pos (by omega)];done)|(rw [if_neg (by omega)];done)
end Lg
set_option maxRecDepth 20000
set_option maxHeartbeats 4000000
namespace Lg
open Go Go.Proofs Go.RowKit
variable [GLay]
theorem Q77 (s:ByteArray) (at0 deep bad spot:Int) (p:Nat) (σ:List AO) (hσ:σ[p]? =some (.box [.str s,.int .i64 at0,.int .i64 deep,.int .i64 bad,.int .i64 spot])) (a b:Int):ACalls Tryz.prog 44 [.ptr p 0,.int .i64 a,.int .i64 b] σ (Ret (.tup []) (σ.set p (.box [.str s,.int .i64 at0,.int .i64 deep,.int .i64 (if bad=0 then b else bad),.int .i64 (if bad=0 then a else spot)]))):=by
 have hp:p < σ.length:=(List.getElem?_eq_some_iff.1 hσ).1
 refine Qc Tryz.func44 rfl Tryz.ntmps44 (Qau Tryz.results44) (Nat.le_of_ble_eq_true rfl) (fun hcl hal=>?_)
 refine Qn (QO hσ) ?_
 refine zw5 ?_
 refine Q2 rfl (fun h1=>?_) (fun h1=>?_)
 ·(try rw [h1]);replace h1:=zcl h1
  refine zw5 ?_
  refine Q4 ?_
  refine zv5 ?_
  (try simp only [J1,U4])
  rw [if_pos h1,if_pos h1]
  exact Ks (x:=.box [.str s,.int .i64 at0,.int .i64 deep,.int .i64 b,.int .i64 a]) hcl (by simp [AO.cells,AV.ltL,AV.lt]) ⟨rfl,rfl⟩
 ·(try rw [h1]);replace h1:=zcl h1
  refine Q1 ?_
  (try simp only [J1,U4])
  rw [if_neg h1,if_neg h1]
  exact Ks hcl (by simp [AO.cells,AV.ltL,AV.lt]) ⟨rfl,rfl⟩
end Lg
set_option maxRecDepth 20000
set_option maxHeartbeats 4000000
namespace Lg
open Go Go.Proofs Go.RowKit
variable [GLay]
theorem Q0j (s:ByteArray) (a:Nat) (deep bad spot:Int) (p:Nat) (σ:List AO) (hσ:σ[p]? =some (.box [.str s,.int .i64 (a:Int),.int .i64 deep,.int .i64 bad,.int .i64 spot])) (hs:s.size≤1000000) (ha:a≤1000000):ACalls Tryz.prog 74 [.ptr p 0] σ (Ret (.tup []) (σ.set p (.box [.str s,.int .i64 ((if bad=0 then blk s a else a:Nat):Int),.int .i64 deep,.int .i64 bad,.int .i64 spot]))):=by
 have hp:p < σ.length:=(List.getElem?_eq_some_iff.1 hσ).1
 refine Qc Tryz.func74 rfl Tryz.ntmps74 (Qau Tryz.results74) (Nat.le_of_ble_eq_true rfl) (fun hcl hal=>?_)
 refine Qn (QO hσ) ?_
 refine Qa ?_
 refine Qs (ι:=Nat) (fun i=>(bad=0→blk s i=blk s a)∧(bad ≠ 0→i=a)∧i≤1000000) (fun i=>⟨[],[(0,.ptr p 0)]⟩) (fun i=>σ.set p (.box [.str s,.int .i64 (i:Int),.int .i64 deep,.int .i64 bad,.int .i64 spot])) (fun i=>s.size - i) (a) (⟨fun _=>rfl,fun _=>rfl,ha⟩) ?_ rfl (fun i hi=>?_)
 ·exact ⟨rfl,rfl,trivial⟩
 obtain ⟨hi1,hi2,hi3⟩:=hi
 refine Q0 ?_
 refine zu1 ?_
 refine zt rfl (zc rfl (HK s (i:Int) deep bad spot p _ (Qk hp) (by omega))) ?_
 refine zg2 ?_
 refine zsp 5 rfl (fun h1=>?_) fun h1=>?_
 ·rw [h1];replace h1:=zcl h1
  refine J7 ?_
  refine zg4 ?_
  refine zon ?_
  refine Qj rfl ?_
  refine Q1 ?_
  refine Qa ?_
  refine Q4 ?_
  refine zv8 ?_
  have hk:=Yv (s:=s) (a:=i) (bad:=bad) (by omega)
  have hbl:W1 (bat s i):=by simp only [W1];omega
  refine ⟨i+1,σ.length,⟨fun h=>by rw [← Wl hk.2.1 hbl];exact hi1 h,fun h=>absurd hk.1 h,by omega⟩,by omega,by simp,⟨rfl,rfl,trivial⟩,Xb (x:=.box [.str s,.int .i64 ((i:Int)+1),.int .i64 deep,.int .i64 bad,.int .i64 spot]) hcl (by simp [AO.cells,AV.ltL,AV.lt]),?_,Kj ?_⟩
  ·simp [ltE,AV.lt];omega
  ·rw [Int.natCast_add];rfl
 ·rw [h1];replace h1:=zcl h1
  refine zg1 ?_
  refine ztG rfl rfl (zc rfl (HK s (i:Int) deep bad spot p _ (Qk hp) (by omega))) ?_
  refine zg3 ?_
  refine zsp 10 rfl (fun h2=>?_) fun h2=>?_
  ·rw [h2];replace h2:=zcl h2
   refine zv9 ?_
   refine Qj rfl ?_
   refine Q1 ?_
   refine Qa ?_
   refine Q4 ?_
   refine zv8 ?_
   have hk:=Yv (s:=s) (a:=i) (bad:=bad) (by omega)
   have hbl:W1 (bat s i):=by simp only [W1];omega
   refine ⟨i+1,σ.length,⟨fun h=>by rw [← Wl hk.2.1 hbl];exact hi1 h,fun h=>absurd hk.1 h,by omega⟩,by omega,by simp,⟨rfl,rfl,trivial⟩,Xb (x:=.box [.str s,.int .i64 ((i:Int)+1),.int .i64 deep,.int .i64 bad,.int .i64 spot]) hcl (by simp [AO.cells,AV.ltL,AV.lt]),?_,Kj ?_⟩
   ·simp [ltE,AV.lt];omega
   ·rw [Int.natCast_add];rfl
  ·rw [h2];replace h2:=zcl h2
   refine zg1 ?_
   refine ztG rfl rfl (zc rfl (HK s (i:Int) deep bad spot p _ (Qk hp) (by omega))) ?_
   refine zg3 ?_
   refine zsp 15 rfl (fun h3=>?_) fun h3=>?_
   ·rw [h3];replace h3:=zcl h3
    refine zv4 ?_
    refine Qj rfl ?_
    refine Q1 ?_
    refine Qa ?_
    refine Q4 ?_
    refine zv8 ?_
    have hk:=Yv (s:=s) (a:=i) (bad:=bad) (by omega)
    have hbl:W1 (bat s i):=by simp only [W1];omega
    refine ⟨i+1,σ.length,⟨fun h=>by rw [← Wl hk.2.1 hbl];exact hi1 h,fun h=>absurd hk.1 h,by omega⟩,by omega,by simp,⟨rfl,rfl,trivial⟩,Xb (x:=.box [.str s,.int .i64 ((i:Int)+1),.int .i64 deep,.int .i64 bad,.int .i64 spot]) hcl (by simp [AO.cells,AV.ltL,AV.lt]),?_,Kj ?_⟩
    ·simp [ltE,AV.lt];omega
    ·rw [Int.natCast_add];rfl
   ·rw [h3];replace h3:=zcl h3
    refine zg1 ?_
    refine ztG rfl rfl (zc rfl (HK s (i:Int) deep bad spot p _ (Qk hp) (by omega))) ?_
    refine zv2 ?_
    refine Q2 rfl (fun h4=>?_) (fun h4=>?_)
    ·(try rw [h4]);replace h4:=zcl h4
     refine Q1 ?_
     refine Qa ?_
     refine Q4 ?_
     refine zv8 ?_
     have hk:=Yv (s:=s) (a:=i) (bad:=bad) (by omega)
     have hbl:W1 (bat s i):=by simp only [W1];omega
     refine ⟨i+1,σ.length,⟨fun h=>by rw [← Wl hk.2.1 hbl];exact hi1 h,fun h=>absurd hk.1 h,by omega⟩,by omega,by simp,⟨rfl,rfl,trivial⟩,Xb (x:=.box [.str s,.int .i64 ((i:Int)+1),.int .i64 deep,.int .i64 bad,.int .i64 spot]) hcl (by simp [AO.cells,AV.ltL,AV.lt]),?_,Kj ?_⟩
     ·simp [ltE,AV.lt];omega
     ·rw [Int.natCast_add];rfl
    ·(try rw [h4]);replace h4:=zcl h4
     refine Qg ?_
     (try simp only [J1,U4])
     have hfin:i=(if bad=0 then blk s a else a):=by
      by_cases hb:bad=0
      ·rw [if_pos hb,←hi1 hb,Q6E];intro hx;have:=QdT (s:=s) hb hx.1;have:=hx.2;simp only [W1] at this;omega
      ·rw [if_neg hb];exact hi2 hb
     rw [← hfin]
     exact Ks (x:=.box [.str s,.int .i64 (i:Int),.int .i64 deep,.int .i64 bad,.int .i64 spot]) hcl (by simp [AO.cells,AV.ltL,AV.lt]) ⟨rfl,rfl⟩
end Lg
set_option maxRecDepth 20000
set_option maxHeartbeats 4000000
namespace Lg
open Go Go.Proofs Go.RowKit
variable [GLay]
theorem QcE (s:ByteArray) (a:Nat) (deep bad spot:Int) (p:Nat) (σ:List AO) (hσ:σ[p]? =some (.box [.str s,.int .i64 (a:Int),.int .i64 deep,.int .i64 bad,.int .i64 spot])) (hs:s.size≤1000000) (ha:a < 1000000) (hd:0≤deep) (hd2:deep≤1000000):ACalls Tryz.prog 124 [.ptr p 0] σ (Ret (.tup []) (σ.set p (.box [.str s,.int .i64 ((if (if deep=32 then (if bad=0 then 3 else bad) else bad)=0 then blk s (a+1) else a+1:Nat):Int),.int .i64 (deep+1),.int .i64 (if deep=32 then (if bad=0 then 3 else bad) else bad),.int .i64 (if deep=32 then (if bad=0 then (a:Int) else spot) else spot)]))):=by
 have hp:p < σ.length:=(List.getElem?_eq_some_iff.1 hσ).1
 refine Qc Tryz.func124 rfl Tryz.ntmps124 (Qau Tryz.results124) (Nat.le_of_ble_eq_true rfl) (fun hcl hal=>?_)
 refine Qn (QO hσ) ?_
 refine Q0 ?_
 refine zw5 ?_
 refine Q2 rfl (fun h1=>?_) (fun h1=>?_)
 ·(try rw [h1]);replace h1:=zcl h1
  refine Q4 ?_
  refine zg5 ?_
  refine zt rfl (zc rfl (Ge (Q77 s (a:Int) deep bad spot p _ (Qk hp) (a:Int) 3))) ?_
  refine zon ?_
  refine zw8 ?_
  refine zw8 ?_
  refine Q4 ?_
  refine zg1 ?_
  refine zt rfl (zc rfl (Ge (Q0j s (a+1) (deep+1) _ _ p _ (Qk hp) hs (by omega)))) ?_
  refine zon ?_
  (try simp only [J1,U4])
  simp only [if_pos h1]
  exact Ks hcl (by simp [AO.cells,AV.ltL,AV.lt]) ⟨rfl,rfl⟩
 ·(try rw [h1]);replace h1:=zcl h1
  refine Q1 ?_
  refine zw8 ?_
  refine zw8 ?_
  refine Q4 ?_
  refine zg1 ?_
  refine zt rfl (zc rfl (Ge (Q0j s (a+1) (deep+1) _ _ p _ (Qk hp) hs (by omega)))) ?_
  refine zon ?_
  (try simp only [J1,U4])
  simp only [if_neg h1]
  exact Ks hcl (by simp [AO.cells,AV.ltL,AV.lt]) ⟨rfl,rfl⟩
end Lg
set_option maxRecDepth 20000
set_option maxHeartbeats 4000000
namespace Lg
open Go Go.Proofs Go.RowKit
variable [GLay]
theorem Q4J (s:ByteArray) (a:Nat) (σ:List AO) (hs:s.size≤1000000) (ha:a≤1000000):ACalls Tryz.prog 91 [.str s,.int .i64 (a:Int)] σ (Ret (.int .i64 (Xh s a:Int)) σ):=by
  have:=Q8y s (a:Int) σ (by omega) (by omega) (by omega)
  simpa using this
theorem Q71 (s:ByteArray) (a:Nat) (σ:List AO) (hs:s.size≤1000000) (ha:a≤s.size):ACalls Tryz.prog 80 [.str s,.int .i64 (a:Int)] σ (Ret (.tup [.int .i64 ((QY s a).1:Int),.bool (QY s a).2]) σ):=by
 refine Qc Tryz.func80 rfl Tryz.ntmps80 (J5 Tryz.results80) (Nat.le_of_ble_eq_true rfl) (fun hcl hal=>?_)
 have hi1:=Hj ha
 have hr1:=Yw s (X4 s a)
 refine zw2 ?_
 refine zw2 ?_
 refine QE (ι:=Unit) (fun b=>True) (fun b=>⟨[],[(0,.str s),(6,.int .i64 (X4 s a:Int))]⟩) (fun b=>σ) ?_ (fun b hj=>?_)
 ·skip
  refine zu5 ?_
  refine zsp 13 rfl (fun h1=>?_) fun h1=>?_
  ·rw [h1];(try simp only [tn1,tn2,tnn,zS] at h1)
   refine zv5 ?_
   refine Q2 rfl (fun h2=>?_) (fun h2=>?_)
   ·(try rw [h2]);(try simp only [tn1,tn2,tnn,zS] at h2)
    refine Q4 ?_
    refine zv3 ?_
    refine ⟨(),trivial,⟨rfl,rfl,?_,trivial⟩,rfl⟩
    unfold X4;first|(rw [if_pos (by omega)];rfl)|(rw [if_neg (by omega)];rfl)
   ·(try rw [h2]);(try simp only [tn1,tn2,tnn,zS] at h2)
    refine Q1 ?_
    refine ⟨(),trivial,⟨rfl,rfl,?_,trivial⟩,rfl⟩
    unfold X4;first|(rw [if_pos (by omega)];rfl)|(rw [if_neg (by omega)];rfl)
  ·rw [h1];(try simp only [tn1,tn2,tnn,zS] at h1)
   refine zv5 ?_
   refine Qd rfl ?_
   refine Q1 ?_
   refine ⟨(),trivial,⟨rfl,rfl,?_,trivial⟩,rfl⟩
   unfold X4;first|(rw [if_pos (by omega)];rfl)|(rw [if_neg (by omega)];rfl)
 ·skip
  refine zu2 ?_
  refine zt rfl (zc rfl (Q4J s (X4 s a) _ hs (by omega))) ?_
  refine zv1 ?_
  refine Q0 ?_
  refine zw2 ?_
  refine Q2 rfl (fun h3=>?_) (fun h3=>?_)
  ·(try rw [h3]);(try simp only [tn1,tn2,tnn,zS] at h3)
   refine zw3 ?_
   refine zrt ?_
   have hE:QY s a=(X4 s a,false):=by unfold QY;rw [if_pos (by omega)]
   rw [hE];exact QM rfl rfl hcl (by simp [AV.lt,AV.ltL]) (Q8 rfl)
  ·(try rw [h3]);(try simp only [tn1,tn2,tnn,zS] at h3)
   refine Q1 ?_
   refine QE (ι:=Unit) (fun b=>True) (fun b=>⟨[],[(0,.str s),(6,.int .i64 (X4 s a:Int)),(7,.int .i64 (GA s (X4 s a):Int))]⟩) (fun b=>σ) ?_ (fun b hj=>?_)
   ·skip
    refine zw4 ?_
    refine Q2 rfl (fun h4=>?_) (fun h4=>?_)
    ·(try rw [h4]);(try simp only [tn1,tn2,tnn,zS] at h4)
     refine Q4 ?_
     refine zv1 ?_
     refine ⟨(),trivial,⟨rfl,rfl,rfl,?_,trivial⟩,rfl⟩
     unfold GA;first|(rw [if_pos (by omega)];rfl)|(rw [if_neg (by omega)];rfl)
    ·(try rw [h4]);(try simp only [tn1,tn2,tnn,zS] at h4)
     refine Q1 ?_
     refine ⟨(),trivial,⟨rfl,rfl,rfl,?_,trivial⟩,rfl⟩
     unfold GA;first|(rw [if_pos (by omega)];rfl)|(rw [if_neg (by omega)];rfl)
   ·skip
    have hi2:=Q0r hi1.2 (by omega)
    have hE:QY s a=KZ s (X4 s a+GA s (X4 s a)):=by unfold QY;rw [if_neg (by omega)]
    generalize hk:(X4 s a+GA s (X4 s a))=k at hE
    have hr2:=Yw s (k+1)
    refine zu3 ?_
    rw [← Int.natCast_add,hk]
    refine zv1 ?_
    refine QE (ι:=Nat) (fun j=>QY s a=Ws s j∧j≤s.size) (fun j=>⟨[],[(0,.str s),(6,.int .i64 (j:Int))]⟩) (fun j=>σ) ?_ (fun j hj=>?_)
    ·skip
     refine zu5 ?_
     refine zsp 38 rfl (fun h5=>?_) fun h5=>?_
     ·rw [h5];(try simp only [tn1,tn2,tnn,zS] at h5)
      refine zv5 ?_
      refine Q2 rfl (fun h6=>?_) (fun h6=>?_)
      ·(try rw [h6]);(try simp only [tn1,tn2,tnn,zS] at h6)
       refine zu3 ?_
       refine zt rfl (zc rfl (Q4J s (k+1) _ hs (by omega))) ?_
       refine zv1 ?_
       refine zw5 ?_
       refine zw2 ?_
       refine Q2 rfl (fun h7=>?_) (fun h7=>?_)
       ·(try rw [h7]);(try simp only [tn1,tn2,tnn,zS] at h7)
        refine zw3 ?_
        refine zrt ?_
        have hE:QY s a=(k+1,false):=by rw [hE];unfold KZ;rw [if_pos (by omega),if_pos (by omega)]
        rw [hE];refine QM rfl rfl hcl (by simp [AV.lt,AV.ltL]) (Q8 ?_)
        congr 3;dsimp only;omega
       ·(try rw [h7]);(try simp only [tn1,tn2,tnn,zS] at h7)
        refine Q1 ?_
        refine ⟨k+1+Xh s (k+1),⟨by rw [hE];unfold KZ;rw [if_pos (by omega),if_neg (by omega)],by omega⟩,⟨rfl,rfl,rfl,trivial⟩,rfl⟩
      ·(try rw [h6]);(try simp only [tn1,tn2,tnn,zS] at h6)
       refine Q1 ?_
       refine ⟨k,⟨by rw [hE];unfold KZ;rw [if_neg (by omega)],by omega⟩,⟨rfl,rfl,rfl,trivial⟩,rfl⟩
     ·rw [h5];(try simp only [tn1,tn2,tnn,zS] at h5)
      refine zv5 ?_
      refine Qd rfl ?_
      refine Q1 ?_
      refine ⟨k,⟨by rw [hE];unfold KZ;rw [if_neg (by omega)],by omega⟩,⟨rfl,rfl,rfl,trivial⟩,rfl⟩
    ·skip
     obtain ⟨hE,hj⟩:=hj
     refine Q0 ?_
     refine zu5 ?_
     refine zsp 59 rfl (fun h8=>?_) fun h8=>?_
     ·rw [h8];(try simp only [tn1,tn2,tnn,zS] at h8)
      refine zg5 ?_
      refine zsp 64 rfl (fun h9=>?_) fun h9=>?_
      ·rw [h9];(try simp only [tn1,tn2,tnn,zS] at h9)
       refine zv6 ?_
       refine Qj rfl ?_
       refine zw3 ?_
       refine QE (ι:=Unit) (fun b=>True) (fun b=>⟨[],[(0,.str s),(6,.int .i64 (eSg s (j+1):Int))]⟩) (fun b=>σ) ?_ (fun b hj=>?_)
       ·skip
        refine zu5 ?_
        refine zsp 77 rfl (fun h10=>?_) fun h10=>?_
        ·rw [h10];(try simp only [tn1,tn2,tnn,zS] at h10)
         refine zg5 ?_
         refine zsp 82 rfl (fun h11=>?_) fun h11=>?_
         ·rw [h11];(try simp only [tn1,tn2,tnn,zS] at h11)
          refine zv6 ?_
          refine Qj rfl ?_
          refine Q4 ?_
          refine zv3 ?_
          refine ⟨(),trivial,⟨rfl,rfl,?_,trivial⟩,rfl⟩
          unfold eSg;first|(rw [if_pos (by omega)];rfl)|(rw [if_neg (by omega)];rfl)
         ·rw [h11];(try simp only [tn1,tn2,tnn,zS] at h11)
          refine zv6 ?_
          refine Q2 rfl (fun h12=>?_) (fun h12=>?_)
          ·(try rw [h12]);(try simp only [tn1,tn2,tnn,zS] at h12)
           refine Q4 ?_
           refine zv3 ?_
           refine ⟨(),trivial,⟨rfl,rfl,?_,trivial⟩,rfl⟩
           unfold eSg;first|(rw [if_pos (by omega)];rfl)|(rw [if_neg (by omega)];rfl)
          ·(try rw [h12]);(try simp only [tn1,tn2,tnn,zS] at h12)
           refine Q1 ?_
           refine ⟨(),trivial,⟨rfl,rfl,?_,trivial⟩,rfl⟩
           unfold eSg;first|(rw [if_pos (by omega)];rfl)|(rw [if_neg (by omega)];rfl)
        ·rw [h10];(try simp only [tn1,tn2,tnn,zS] at h10)
         refine J7 ?_
         refine zg1 ?_
         refine zon ?_
         refine Qd rfl ?_
         refine Q1 ?_
         refine ⟨(),trivial,⟨rfl,rfl,?_,trivial⟩,rfl⟩
         unfold eSg;first|(rw [if_pos (by omega)];rfl)|(rw [if_neg (by omega)];rfl)
       ·skip
        have hi3:=Q33 (s:=s) (a:=j+1) (by omega)
        have hr3:=Yw s (eSg s (j+1))
        refine zu2 ?_
        refine zt rfl (zc rfl (Q4J s (eSg s (j+1)) _ hs (by omega))) ?_
        refine zv1 ?_
        refine zw4 ?_
        refine zw2 ?_
        refine Q2 rfl (fun h13=>?_) (fun h13=>?_)
        ·(try rw [h13]);(try simp only [tn1,tn2,tnn,zS] at h13)
         refine zw3 ?_
         refine zrt ?_
         (have hE2:QY s a=(eSg s (j+1),false):=by rw [hE];unfold Ws;rw [if_pos (by omega),if_pos (by omega)]);rw [hE2];(refine QM rfl rfl hcl (by simp [AV.lt,AV.ltL]) (Q8 ?_));congr 3;dsimp only;omega
        ·(try rw [h13]);(try simp only [tn1,tn2,tnn,zS] at h13)
         refine Q1 ?_
         refine zw3 ?_
         refine zrt ?_
         (have hE2:QY s a=(eSg s (j+1)+Xh s (eSg s (j+1)),true):=by rw [hE];unfold Ws;rw [if_pos (by omega),if_neg (by omega)]);rw [hE2];exact QM rfl rfl hcl (by simp [AV.lt,AV.ltL]) (Q8 rfl)
      ·rw [h9];(try simp only [tn1,tn2,tnn,zS] at h9)
       refine zv6 ?_
       refine Q2 rfl (fun h14=>?_) (fun h14=>?_)
       ·(try rw [h14]);(try simp only [tn1,tn2,tnn,zS] at h14)
        refine zw3 ?_
        refine QE (ι:=Unit) (fun b=>True) (fun b=>⟨[],[(0,.str s),(6,.int .i64 (eSg s (j+1):Int))]⟩) (fun b=>σ) ?_ (fun b hj=>?_)
        ·skip
         refine zu5 ?_
         refine zsp 77 rfl (fun h15=>?_) fun h15=>?_
         ·rw [h15];(try simp only [tn1,tn2,tnn,zS] at h15)
          refine zg5 ?_
          refine zsp 82 rfl (fun h16=>?_) fun h16=>?_
          ·rw [h16];(try simp only [tn1,tn2,tnn,zS] at h16)
           refine zv6 ?_
           refine Qj rfl ?_
           refine Q4 ?_
           refine zv3 ?_
           refine ⟨(),trivial,⟨rfl,rfl,?_,trivial⟩,rfl⟩
           unfold eSg;first|(rw [if_pos (by omega)];rfl)|(rw [if_neg (by omega)];rfl)
          ·rw [h16];(try simp only [tn1,tn2,tnn,zS] at h16)
           refine zv6 ?_
           refine Q2 rfl (fun h17=>?_) (fun h17=>?_)
           ·(try rw [h17]);(try simp only [tn1,tn2,tnn,zS] at h17)
            refine Q4 ?_
            refine zv3 ?_
            refine ⟨(),trivial,⟨rfl,rfl,?_,trivial⟩,rfl⟩
            unfold eSg;first|(rw [if_pos (by omega)];rfl)|(rw [if_neg (by omega)];rfl)
           ·(try rw [h17]);(try simp only [tn1,tn2,tnn,zS] at h17)
            refine Q1 ?_
            refine ⟨(),trivial,⟨rfl,rfl,?_,trivial⟩,rfl⟩
            unfold eSg;first|(rw [if_pos (by omega)];rfl)|(rw [if_neg (by omega)];rfl)
         ·rw [h15];(try simp only [tn1,tn2,tnn,zS] at h15)
          refine J7 ?_
          refine zg1 ?_
          refine zon ?_
          refine Qd rfl ?_
          refine Q1 ?_
          refine ⟨(),trivial,⟨rfl,rfl,?_,trivial⟩,rfl⟩
          unfold eSg;first|(rw [if_pos (by omega)];rfl)|(rw [if_neg (by omega)];rfl)
        ·skip
         have hi3:=Q33 (s:=s) (a:=j+1) (by omega)
         have hr3:=Yw s (eSg s (j+1))
         refine zu2 ?_
         refine zt rfl (zc rfl (Q4J s (eSg s (j+1)) _ hs (by omega))) ?_
         refine zv1 ?_
         refine zw4 ?_
         refine zw2 ?_
         refine Q2 rfl (fun h18=>?_) (fun h18=>?_)
         ·(try rw [h18]);(try simp only [tn1,tn2,tnn,zS] at h18)
          refine zw3 ?_
          refine zrt ?_
          (have hE2:QY s a=(eSg s (j+1),false):=by rw [hE];unfold Ws;rw [if_pos (by omega),if_pos (by omega)]);rw [hE2];(refine QM rfl rfl hcl (by simp [AV.lt,AV.ltL]) (Q8 ?_));congr 3;dsimp only;omega
         ·(try rw [h18]);(try simp only [tn1,tn2,tnn,zS] at h18)
          refine Q1 ?_
          refine zw3 ?_
          refine zrt ?_
          (have hE2:QY s a=(eSg s (j+1)+Xh s (eSg s (j+1)),true):=by rw [hE];unfold Ws;rw [if_pos (by omega),if_neg (by omega)]);rw [hE2];exact QM rfl rfl hcl (by simp [AV.lt,AV.ltL]) (Q8 rfl)
       ·(try rw [h14]);(try simp only [tn1,tn2,tnn,zS] at h14)
        refine Q1 ?_
        refine zw3 ?_
        refine zrt ?_
        (have hE2:QY s a=(j,true):=by rw [hE];unfold Ws;rw [if_neg (by omega)]);rw [hE2];exact QM rfl rfl hcl (by simp [AV.lt,AV.ltL]) (Q8 rfl)
     ·rw [h8];(try simp only [tn1,tn2,tnn,zS] at h8)
      refine J7 ?_
      refine zg1 ?_
      refine zon ?_
      refine Qd rfl ?_
      refine Q1 ?_
      refine zw3 ?_
      refine zrt ?_
      (have hE2:QY s a=(j,true):=by rw [hE];unfold Ws;rw [if_neg (by omega)]);rw [hE2];exact QM rfl rfl hcl (by simp [AV.lt,AV.ltL]) (Q8 rfl)
end Lg
set_option maxRecDepth 20000
set_option maxHeartbeats 4000000
namespace Lg
open Go Go.Proofs Go.RowKit
variable [GLay]
theorem Qb9 (s:ByteArray) (a:Nat) (σ:List AO) (hs:s.size≤1000000) (ha:a≤2000000):ACalls Tryz.prog 169 [.str s,.int .i64 (a:Int)] σ (Ret (.tup [.int .i64 (Zl s a).1,.int .i64 (Zl s a).2]) σ):=by
 refine Qc Tryz.func169 rfl Tryz.ntmps169 (J5 Tryz.results169) (Nat.le_of_ble_eq_true rfl) (fun hcl hal=>?_)
 refine zw2 ?_
 refine zw1 ?_
 refine Q0 ?_
 refine zw2 ?_
 refine Qa ?_
 refine Qs (ι:=Nat×Int) (fun q=>hexF s q.1 (a+4) q.2=Zl s a∧a≤q.1∧0≤q.2∧((q.1=a∧q.2=0)∨(q.1=a+1∧q.2 < 16)∨(q.1=a+2∧q.2 < 256)∨(q.1=a+3∧q.2 < 4096)∨(q.1=a+4∧q.2 < 65536))) (fun q=>⟨[],[(0,.str s),(1,.int .i64 (a:Int)),(6,.int .i64 q.2),(7,.int .i64 (q.1:Int))]⟩) (fun q=>σ) (fun q=>a+4 - q.1) ((a,0)) (⟨rfl,Nat.le_refl _,Int.le_refl _,.inl ⟨rfl,rfl⟩⟩) ?_ rfl (fun q hq=>?_)
 ·exact ⟨rfl,rfl,rfl,rfl,rfl,trivial⟩
 obtain ⟨i,v⟩:=q
 obtain ⟨hq1,hq2,hq3,hq4⟩:=hq
 simp only at hq1 hq2 hq3 hq4 ⊢
 have hbl:=J0 s i
 refine Q0 ?_
 refine zw4 ?_
 refine Q2 rfl (fun h1=>?_) (fun h1=>?_)
 ·(try rw [h1]);(try simp only [tn1,tn2,tnn,zS] at h1)
  refine Q1 ?_
  refine Q0 ?_
  refine Qa ?_
  refine Q0 ?_
  refine zw4 ?_
  refine Q2 rfl (fun h2=>?_) (fun h2=>?_)
  ·(try rw [h2]);(try simp only [tn1,tn2,tnn,zS] at h2)
   refine zw3 ?_
   refine zrt ?_
   (have hE:Zl s a=(0,(i:Int)):=by rw [← hq1,hexF.eq_1 s i,if_pos (by omega)];first|(rw [if_pos (by omega)];done)|(rw [if_neg (by omega),if_pos (by omega)];done));rw [hE];exact QM rfl rfl hcl (by simp [AV.lt,AV.ltL]) (Q8 rfl)
  ·(try rw [h2]);(try simp only [tn1,tn2,tnn,zS] at h2)
   refine Q1 ?_
   refine zu3 ?_
   simp only [Int.toNat_natCast]
   refine zv2 ?_
   refine zw1 ?_
   refine QE (ι:=Unit) (fun b=>True) (fun b=>⟨[],[(0,.str s),(1,.int .i64 (a:Int)),(6,.int .i64 v),(7,.int .i64 (i:Int)),(8,.int .i64 ((bat s i).toNat:Int)),(9,.int .i64 (hd1 (bat s i).toNat))]⟩) (fun b=>σ) ?_ (fun b hj=>?_)
   ·skip
    refine zu3 ?_
    refine zsp 28 rfl (fun h3=>?_) fun h3=>?_
    ·rw [h3];(try simp only [tn1,tn2,tnn,zS] at h3)
     refine zv3 ?_
     refine Q2 rfl (fun h4=>?_) (fun h4=>?_)
     ·(try rw [h4]);(try simp only [tn1,tn2,tnn,zS] at h4)
      refine Q4 ?_
      refine zv3 ?_
      refine ⟨(),trivial,⟨rfl,rfl,rfl,rfl,rfl,rfl,?_,trivial⟩,rfl⟩
      unfold hd1;first|(rw [if_pos (by omega)];rfl)|(rw [if_neg (by omega)];rfl)
     ·(try rw [h4]);(try simp only [tn1,tn2,tnn,zS] at h4)
      refine Q1 ?_
      refine ⟨(),trivial,⟨rfl,rfl,rfl,rfl,rfl,rfl,?_,trivial⟩,rfl⟩
      unfold hd1;first|(rw [if_pos (by omega)];rfl)|(rw [if_neg (by omega)];rfl)
    ·rw [h3];(try simp only [tn1,tn2,tnn,zS] at h3)
     refine zv3 ?_
     refine Qd rfl ?_
     refine Q1 ?_
     refine ⟨(),trivial,⟨rfl,rfl,rfl,rfl,rfl,rfl,?_,trivial⟩,rfl⟩
     unfold hd1;first|(rw [if_pos (by omega)];rfl)|(rw [if_neg (by omega)];rfl)
   ·skip
    refine QE (ι:=Unit) (fun b=>True) (fun b=>⟨[],[(0,.str s),(1,.int .i64 (a:Int)),(6,.int .i64 v),(7,.int .i64 (i:Int)),(8,.int .i64 ((bat s i).toNat:Int)),(9,.int .i64 (hd2 (bat s i).toNat))]⟩) (fun b=>σ) ?_ (fun b hj=>?_)
    ·skip
     refine zu3 ?_
     refine zsp 36 rfl (fun h5=>?_) fun h5=>?_
     ·rw [h5];(try simp only [tn1,tn2,tnn,zS] at h5)
      refine zv3 ?_
      refine Q2 rfl (fun h6=>?_) (fun h6=>?_)
      ·(try rw [h6]);(try simp only [tn1,tn2,tnn,zS] at h6)
       refine Q4 ?_
       refine zv3 ?_
       refine ⟨(),trivial,⟨rfl,rfl,rfl,rfl,rfl,rfl,?_,trivial⟩,rfl⟩
       unfold hd2;first|(rw [if_pos (by omega)];rfl)|(rw [if_neg (by omega)];rfl)
      ·(try rw [h6]);(try simp only [tn1,tn2,tnn,zS] at h6)
       refine Q1 ?_
       refine ⟨(),trivial,⟨rfl,rfl,rfl,rfl,rfl,rfl,?_,trivial⟩,rfl⟩
       unfold hd2;first|(rw [if_pos (by omega)];rfl)|(rw [if_neg (by omega)];rfl)
     ·rw [h5];(try simp only [tn1,tn2,tnn,zS] at h5)
      refine zv3 ?_
      refine Qd rfl ?_
      refine Q1 ?_
      refine ⟨(),trivial,⟨rfl,rfl,rfl,rfl,rfl,rfl,?_,trivial⟩,rfl⟩
      unfold hd2;first|(rw [if_pos (by omega)];rfl)|(rw [if_neg (by omega)];rfl)
    ·skip
     refine QE (ι:=Unit) (fun b=>True) (fun b=>⟨[],[(0,.str s),(1,.int .i64 (a:Int)),(6,.int .i64 v),(7,.int .i64 (i:Int)),(8,.int .i64 ((bat s i).toNat:Int)),(9,.int .i64 (Hr (bat s i).toNat))]⟩) (fun b=>σ) ?_ (fun b hj=>?_)
     ·skip
      refine zu3 ?_
      refine zsp 44 rfl (fun h7=>?_) fun h7=>?_
      ·rw [h7];(try simp only [tn1,tn2,tnn,zS] at h7)
       refine zv3 ?_
       refine Q2 rfl (fun h8=>?_) (fun h8=>?_)
       ·(try rw [h8]);(try simp only [tn1,tn2,tnn,zS] at h8)
        refine Q4 ?_
        refine zv3 ?_
        refine ⟨(),trivial,⟨rfl,rfl,rfl,rfl,rfl,rfl,?_,trivial⟩,rfl⟩
        unfold Hr;first|(rw [if_pos (by omega)];rfl)|(rw [if_neg (by omega)];rfl)
       ·(try rw [h8]);(try simp only [tn1,tn2,tnn,zS] at h8)
        refine Q1 ?_
        refine ⟨(),trivial,⟨rfl,rfl,rfl,rfl,rfl,rfl,?_,trivial⟩,rfl⟩
        unfold Hr;first|(rw [if_pos (by omega)];rfl)|(rw [if_neg (by omega)];rfl)
      ·rw [h7];(try simp only [tn1,tn2,tnn,zS] at h7)
       refine zv3 ?_
       refine Qd rfl ?_
       refine Q1 ?_
       refine ⟨(),trivial,⟨rfl,rfl,rfl,rfl,rfl,rfl,?_,trivial⟩,rfl⟩
       unfold Hr;first|(rw [if_pos (by omega)];rfl)|(rw [if_neg (by omega)];rfl)
     ·skip
      have hdd:=Q44 (bat s i).toNat
      refine Q0 ?_
      refine zw2 ?_
      refine Q2 rfl (fun h9=>?_) (fun h9=>?_)
      ·(try rw [h9]);(try simp only [tn1,tn2,tnn,zS] at h9)
       refine zw3 ?_
       refine zrt ?_
       (have hE:Zl s a=(0,(i:Int)):=by rw [← hq1,hexF.eq_1 s i,if_pos (by omega)];first|(rw [if_pos (by omega)];done)|(rw [if_neg (by omega),if_pos (by omega)];done));rw [hE];exact QM rfl rfl hcl (by simp [AV.lt,AV.ltL]) (Q8 rfl)
      ·(try rw [h9]);(try simp only [tn1,tn2,tnn,zS] at h9)
       refine Q1 ?_
       refine Q4 ?_
       refine zv5 ?_
       refine Q4 ?_
       refine zv3 ?_
       refine ⟨(i+1,16 * v+Hr (bat s i).toNat),σ.length,⟨?_,?_,?_,?_⟩,?_,Nat.le_refl _,⟨rfl,rfl,rfl,rfl,rfl,trivial⟩,hcl,?_,List.take_length⟩
       ·rw [← hq1,hexF.eq_1 s i,if_pos (by omega),if_neg (by omega),if_neg (by omega)]
       ·simp only;omega
       ·simp only;omega
       ·simp only;omega
       ·simp only;omega
       ·simp [ltE,AV.lt]
 ·(try rw [h1]);(try simp only [tn1,tn2,tnn,zS] at h1)
  refine Qg ?_
  refine zw3 ?_
  refine zrt ?_
  (have hE:Zl s a=(v,-1):=by rw [← hq1,hexF.eq_1 s i,if_neg (by omega)]);rw [hE];exact QM rfl rfl hcl (by simp [AV.lt,AV.ltL]) (Q8 rfl)

theorem Qdy (s:ByteArray) (a:Nat) (σ:List AO) (hs:s.size≤1000000) (ha:a≤2000000):ACalls Tryz.prog 170 [.str s,.int .i64 (a:Int)] σ (Ret (.int .i64 (Jz s a)) σ):=by
 refine Qc Tryz.func170 rfl Tryz.ntmps170 (XE Tryz.results170) (Nat.le_of_ble_eq_true rfl) (fun hcl hal=>?_)
 have hh:=Q16 s (a+2)
 refine zw1 ?_
 refine Q0 ?_
 refine zw5 ?_
 refine Q2 rfl (fun h1=>?_) (fun h1=>?_)
 ·(try rw [h1]);(try simp only [tn1,tn2,tnn,zS] at h1)
  refine zw1 ?_
  refine zrt ?_
  refine Qr rfl hcl (by simp [AV.lt,AV.ltL]) (Q8 ?_)
  congr 1;unfold Jz;first|(rw [if_pos (by omega)];done)|(rw [if_neg (by omega),if_pos (by omega)];done)|(rw [if_neg (by omega),if_neg (by omega),if_pos (by omega)];done)|(rw [if_neg (by omega),if_neg (by omega),if_neg (by omega)];done)
 ·(try rw [h1]);(try simp only [tn1,tn2,tnn,zS] at h1)
  refine Q1 ?_
  refine Q0 ?_
  refine zu5 ?_
  refine zsp 16 rfl (fun h2=>?_) fun h2=>?_
  ·rw [h2];(try simp only [tn1,tn2,tnn,zS] at h2)
   refine zv6 ?_
   refine Qj rfl ?_
   refine zw1 ?_
   refine zrt ?_
   refine Qr rfl hcl (by simp [AV.lt,AV.ltL]) (Q8 ?_)
   congr 1;unfold Jz;first|(rw [if_pos (by omega)];done)|(rw [if_neg (by omega),if_pos (by omega)];done)|(rw [if_neg (by omega),if_neg (by omega),if_pos (by omega)];done)|(rw [if_neg (by omega),if_neg (by omega),if_neg (by omega)];done)
  ·rw [h2];(try simp only [tn1,tn2,tnn,zS] at h2)
   refine zv6 ?_
   refine Q2 rfl (fun h3=>?_) (fun h3=>?_)
   ·(try rw [h3]);(try simp only [tn1,tn2,tnn,zS] at h3)
    refine zw1 ?_
    refine zrt ?_
    refine Qr rfl hcl (by simp [AV.lt,AV.ltL]) (Q8 ?_)
    congr 1;unfold Jz;first|(rw [if_pos (by omega)];done)|(rw [if_neg (by omega),if_pos (by omega)];done)|(rw [if_neg (by omega),if_neg (by omega),if_pos (by omega)];done)|(rw [if_neg (by omega),if_neg (by omega),if_neg (by omega)];done)
   ·(try rw [h3]);(try simp only [tn1,tn2,tnn,zS] at h3)
    refine Q1 ?_
    refine zu3 ?_
    refine zt rfl (zc rfl (Qb9 s (a+2) _ hs (by omega))) ?_
    refine zv5 ?_
    refine Q0 ?_
    refine zu3 ?_
    refine zsp 32 rfl (fun h4=>?_) fun h4=>?_
    ·rw [h4];(try simp only [tn1,tn2,tnn,zS] at h4)
     refine zv7 ?_
     refine Qj rfl ?_
     refine zw1 ?_
     refine zrt ?_
     refine Qr rfl hcl (by simp [AV.lt,AV.ltL]) (Q8 ?_)
     congr 1;unfold Jz;first|(rw [if_pos (by omega)];done)|(rw [if_neg (by omega),if_pos (by omega)];done)|(rw [if_neg (by omega),if_neg (by omega),if_pos (by omega)];done)|(rw [if_neg (by omega),if_neg (by omega),if_neg (by omega)];done)
    ·rw [h4];(try simp only [tn1,tn2,tnn,zS] at h4)
     refine zg4 ?_
     refine zsp 36 rfl (fun h5=>?_) fun h5=>?_
     ·rw [h5];(try simp only [tn1,tn2,tnn,zS] at h5)
      refine zv3 ?_
      refine Qj rfl ?_
      refine zw1 ?_
      refine zrt ?_
      refine Qr rfl hcl (by simp [AV.lt,AV.ltL]) (Q8 ?_)
      congr 1;unfold Jz;first|(rw [if_pos (by omega)];done)|(rw [if_neg (by omega),if_pos (by omega)];done)|(rw [if_neg (by omega),if_neg (by omega),if_pos (by omega)];done)|(rw [if_neg (by omega),if_neg (by omega),if_neg (by omega)];done)
     ·rw [h5];(try simp only [tn1,tn2,tnn,zS] at h5)
      refine zv3 ?_
      refine Q2 rfl (fun h6=>?_) (fun h6=>?_)
      ·(try rw [h6]);(try simp only [tn1,tn2,tnn,zS] at h6)
       refine zw1 ?_
       refine zrt ?_
       refine Qr rfl hcl (by simp [AV.lt,AV.ltL]) (Q8 ?_)
       congr 1;unfold Jz;first|(rw [if_pos (by omega)];done)|(rw [if_neg (by omega),if_pos (by omega)];done)|(rw [if_neg (by omega),if_neg (by omega),if_pos (by omega)];done)|(rw [if_neg (by omega),if_neg (by omega),if_neg (by omega)];done)
      ·(try rw [h6]);(try simp only [tn1,tn2,tnn,zS] at h6)
       refine Q1 ?_
       refine zw2 ?_
       refine zrt ?_
       refine Qr rfl hcl (by simp [AV.lt,AV.ltL]) (Q8 ?_)
       congr 1;unfold Jz;first|(rw [if_pos (by omega)];done)|(rw [if_neg (by omega),if_pos (by omega)];done)|(rw [if_neg (by omega),if_neg (by omega),if_pos (by omega)];done)|(rw [if_neg (by omega),if_neg (by omega),if_neg (by omega)];done)

theorem W0 (v:Int) (σ:List AO) (h0:0≤v) (h1:v < 1114112):ACalls Tryz.prog 171 [.int .i64 v] σ (Ret (.str (Y9 v)) σ):=by
 refine Qc Tryz.func171 rfl Tryz.ntmps171 (XE Tryz.results171) (Nat.le_of_ble_eq_true rfl) (fun hcl hal=>?_)
 refine zw1 ?_
 refine Q0 ?_
 refine zw2 ?_
 refine Q2 rfl (fun h1=>?_) (fun h1=>?_)
 ·(try rw [h1]);replace h1:=zcl h1
  refine zu2 ?_
  refine zt rfl (Ql [[_]] rfl Tryz.underlying116 Tryz.sizeOf5 Tryz.zeroValue5 rfl (by decide) (by decide) rfl rfl rfl rfl rfl) ?_
  refine zt rfl (Z4 (b:=_) (m:=1) rfl Tryz.underlying116 Tryz.underlying5 Tryz.underlying9 (bs1 ⟨by omega,by omega⟩) rfl rfl) ?_
  refine zv1 ?_
  refine zrt ?_
  refine Qr rfl hcl (by simp [AV.lt,AV.ltL]) (Q8 ?_)
  congr 1;unfold Y9;first|(rw [if_pos (by omega)];done)|(rw [if_neg (by omega),if_pos (by omega)];done)|(rw [if_neg (by omega),if_neg (by omega),if_pos (by omega)];done)|(rw [if_neg (by omega),if_neg (by omega),if_neg (by omega)];done)
 ·(try rw [h1]);replace h1:=zcl h1
  refine Q1 ?_
  refine Q0 ?_
  refine zw2 ?_
  refine Q2 rfl (fun h2=>?_) (fun h2=>?_)
  ·(try rw [h2]);replace h2:=zcl h2
   refine zu1 ?_
   refine zt rfl (K7 rfl rfl rfl (by omega) (by omega) (by omega)) ?_
   refine zg3 ?_
   refine zt rfl (K8 rfl rfl rfl (by omega) (by omega)) ?_
   refine zg2 ?_
   refine zt rfl (Ql [[_],[_]] rfl Tryz.underlying116 Tryz.sizeOf5 Tryz.zeroValue5 rfl (by decide) (by decide) rfl rfl rfl rfl rfl) ?_
   refine zt rfl (Z4 (b:=_) (m:=2) rfl Tryz.underlying116 Tryz.underlying5 Tryz.underlying9 (bs2 ⟨by omega,by omega⟩ ⟨by omega,by omega⟩) rfl rfl) ?_
   refine zv1 ?_
   refine zrt ?_
   refine Qr rfl hcl (by simp [AV.lt,AV.ltL]) (Q8 ?_)
   congr 1;unfold Y9;first|(rw [if_pos (by omega)];done)|(rw [if_neg (by omega),if_pos (by omega)];done)|(rw [if_neg (by omega),if_neg (by omega),if_pos (by omega)];done)|(rw [if_neg (by omega),if_neg (by omega),if_neg (by omega)];done)
  ·(try rw [h2]);replace h2:=zcl h2
   refine Q1 ?_
   refine Q0 ?_
   refine zw2 ?_
   refine Q2 rfl (fun h3=>?_) (fun h3=>?_)
   ·(try rw [h3]);replace h3:=zcl h3
    refine zu1 ?_
    refine zt rfl (K7 rfl rfl rfl (by omega) (by omega) (by omega)) ?_
    refine zg3 ?_
    refine zt rfl (K7 rfl rfl rfl (by omega) (by omega) (by omega)) ?_
    refine zt rfl (K8 rfl rfl rfl (by omega) (by omega)) ?_
    refine zg3 ?_
    refine zt rfl (K8 rfl rfl rfl (by omega) (by omega)) ?_
    refine zg2 ?_
    refine zt rfl (Ql [[_],[_],[_]] rfl Tryz.underlying116 Tryz.sizeOf5 Tryz.zeroValue5 rfl (by decide) (by decide) rfl rfl rfl rfl rfl) ?_
    refine zt rfl (Z4 (b:=_) (m:=3) rfl Tryz.underlying116 Tryz.underlying5 Tryz.underlying9 (bs3 ⟨by omega,by omega⟩ ⟨by omega,by omega⟩ ⟨by omega,by omega⟩) rfl rfl) ?_
    refine zv1 ?_
    refine zrt ?_
    refine Qr rfl hcl (by simp [AV.lt,AV.ltL]) (Q8 ?_)
    congr 1;unfold Y9;first|(rw [if_pos (by omega)];done)|(rw [if_neg (by omega),if_pos (by omega)];done)|(rw [if_neg (by omega),if_neg (by omega),if_pos (by omega)];done)|(rw [if_neg (by omega),if_neg (by omega),if_neg (by omega)];done)
   ·(try rw [h3]);replace h3:=zcl h3
    refine Q1 ?_
    refine zu1 ?_
    refine zt rfl (K7 rfl rfl rfl (by omega) (by omega) (by omega)) ?_
    refine zg3 ?_
    refine zt rfl (K7 rfl rfl rfl (by omega) (by omega) (by omega)) ?_
    refine zt rfl (K8 rfl rfl rfl (by omega) (by omega)) ?_
    refine zg3 ?_
    refine zt rfl (K7 rfl rfl rfl (by omega) (by omega) (by omega)) ?_
    refine zt rfl (K8 rfl rfl rfl (by omega) (by omega)) ?_
    refine zg3 ?_
    refine zt rfl (K8 rfl rfl rfl (by omega) (by omega)) ?_
    refine zg2 ?_
    refine zt rfl (Ql [[_],[_],[_],[_]] rfl Tryz.underlying116 Tryz.sizeOf5 Tryz.zeroValue5 rfl (by decide) (by decide) rfl rfl rfl rfl rfl) ?_
    refine zt rfl (Z4 (b:=_) (m:=4) rfl Tryz.underlying116 Tryz.underlying5 Tryz.underlying9 (bs4 ⟨by omega,by omega⟩ ⟨by omega,by omega⟩ ⟨by omega,by omega⟩ ⟨by omega,by omega⟩) rfl rfl) ?_
    refine zv1 ?_
    refine zrt ?_
    refine Qr rfl hcl (by simp [AV.lt,AV.ltL]) (Q8 ?_)
    congr 1;unfold Y9;first|(rw [if_pos (by omega)];done)|(rw [if_neg (by omega),if_pos (by omega)];done)|(rw [if_neg (by omega),if_neg (by omega),if_pos (by omega)];done)|(rw [if_neg (by omega),if_neg (by omega),if_neg (by omega)];done)
end Lg
set_option maxRecDepth 20000
set_option maxHeartbeats 4000000
namespace Lg
open Go Go.Proofs Go.RowKit
variable [GLay]
theorem Qdh (s:ByteArray) (a:Int) (σ:List AO) (hs:s.size≤140737488355328) (h0:0≤a) (ha:a < s.size):ACalls Tryz.prog 90 [.str s,.int .i64 a] σ (Ret (.int .i64 (u8 s a.toNat:Int)) σ):=by
 refine Qc Tryz.func90 rfl Tryz.ntmps90 (XE Tryz.results90) (Nat.le_of_ble_eq_true rfl) (fun hcl hal=>?_)
 have c0:=J0 s a.toNat
 have c1:=J0 s (a.toNat+1)
 have c2:=J0 s (a.toNat+2)
 have c3:=J0 s (a.toNat+3)
 refine zw1 ?_
 refine zw5 ?_
 refine Q0 ?_
 refine zw2 ?_
 refine Q2 rfl (fun h1=>?_) (fun h1=>?_)
 ·(try rw [h1]);replace h1:=zcl h1
  refine zw1 ?_
  refine zrt ?_
  refine Qr rfl hcl trivial (Q8 ?_)
  congr 1
  unfold u8
  first|rw [X1 (by omega)]|rw [ZV (by omega) (by omega)]|rw [ZW (by omega) (by omega) rfl]|rw [ZX (by omega) (by omega) rfl]|rw [X8 (by omega) (by omega)]
  all_goals (try split)<;>omega
 ·(try rw [h1]);replace h1:=zcl h1
  refine Q1 ?_
  refine zw1 ?_
  refine zw1 ?_
  refine zw1 ?_
  refine Q0 ?_
  refine zu3 ?_
  refine zsp 19 rfl (fun h2=>?_) fun h2=>?_
  ·rw [h2];replace h2:=zcl h2
   refine zv3 ?_
   refine Q2 rfl (fun h3=>?_) (fun h3=>?_)
   ·(try rw [h3]);replace h3:=zcl h3
    refine zw1 ?_
    refine zw1 ?_
    refine Q4 ?_
    refine zv3 ?_
    refine Q0 ?_
    refine zw6 ?_
    refine Q2 rfl (fun h4=>?_) (fun h4=>?_)
    ·(try rw [h4]);replace h4:=zcl h4
     refine zw1 ?_
     refine zrt ?_
     refine Qr rfl hcl trivial (Q8 ?_)
     congr 1
     unfold u8
     first|rw [X1 (by omega)]|rw [ZV (by omega) (by omega)]|rw [ZW (by omega) (by omega) rfl]|rw [ZX (by omega) (by omega) rfl]|rw [X8 (by omega) (by omega)]
     all_goals (try split)<;>omega
    ·(try rw [h4]);replace h4:=zcl h4
     refine Q1 ?_
     refine Q0 ?_
     refine zw1 ?_
     refine Qa ?_
     refine Qs (ι:=Nat×Int) (fun p=>(p.1=1∧p.2=((bat s a.toNat).toNat:Int) - 192)∨(p.1=2∧128≤((bat s (a.toNat+1)).toNat:Int)∧((bat s (a.toNat+1)).toNat:Int) < 192∧p.2=(64 * (((bat s a.toNat).toNat:Int) - 192)+(((bat s (a.toNat+1)).toNat:Int) - 128)))) (fun p=>⟨[],[(0,.str s),(1,.int .i64 a),(6,.int .i64 2),(7,.int .i64 128),(8,.int .i64 p.2),(9,.int .i64 (p.1:Int))]⟩) (fun p=>σ) (fun p=>2 - p.1) ((1,((bat s a.toNat).toNat:Int) - 192)) (.inl ⟨rfl,rfl⟩) ?_ rfl (fun p hp=>?_)
     ·exact ⟨rfl,rfl,rfl,rfl,rfl,rfl,rfl,trivial⟩
     obtain ⟨i,v⟩:=p
     simp only at hp ⊢
     have ci:=J0 s (a+(i:Int)).toNat
     have k1:i=1→(bat s (a+(i:Int)).toNat).toNat=(bat s (a.toNat+1)).toNat:=fun h=>by rw [h];congr 2;omega
     have k2:i=2→(bat s (a+(i:Int)).toNat).toNat=(bat s (a.toNat+2)).toNat:=fun h=>by rw [h];congr 2;omega
     have k3:i=3→(bat s (a+(i:Int)).toNat).toNat=(bat s (a.toNat+3)).toNat:=fun h=>by rw [h];congr 2;omega
     refine Q0 ?_
     refine zw3 ?_
     refine Q2 rfl (fun h5=>?_) (fun h5=>?_)
     ·(try rw [h5]);replace h5:=zcl h5
      refine Q1 ?_
      refine Q0 ?_
      refine Qa ?_
      refine zw7 ?_
      refine Q0 ?_
      refine zu3 ?_
      refine zsp 60 rfl (fun h6=>?_) fun h6=>?_
      ·rw [h6];replace h6:=zcl h6
       refine zv3 ?_
       refine Qj rfl ?_
       refine zw1 ?_
       refine zrt ?_
       refine Qr rfl hcl trivial (Q8 ?_)
       congr 1
       unfold u8
       first|rw [X1 (by omega)]|rw [ZV (by omega) (by omega)]|rw [ZW (by omega) (by omega) rfl]|rw [ZX (by omega) (by omega) rfl]|rw [X8 (by omega) (by omega)]
       all_goals (try split)<;>omega
      ·rw [h6];replace h6:=zcl h6
       refine zv3 ?_
       refine Q2 rfl (fun h7=>?_) (fun h7=>?_)
       ·(try rw [h7]);replace h7:=zcl h7
        refine zw1 ?_
        refine zrt ?_
        refine Qr rfl hcl trivial (Q8 ?_)
        congr 1
        unfold u8
        first|rw [X1 (by omega)]|rw [ZV (by omega) (by omega)]|rw [ZW (by omega) (by omega) rfl]|rw [ZX (by omega) (by omega) rfl]|rw [X8 (by omega) (by omega)]
        all_goals (try split)<;>omega
       ·(try rw [h7]);replace h7:=zcl h7
        refine Q1 ?_
        refine Q4 ?_
        refine zv6 ?_
        refine Q4 ?_
        refine zv3 ?_
        refine ⟨(i+1,_),σ.length,?_,?_,Nat.le_refl _,⟨rfl,rfl,rfl,rfl,rfl,rfl,rfl,trivial⟩,hcl,?_,List.take_length⟩
        ·simp only;omega
        ·simp only;omega
        ·simp [ltE,AV.lt]
     ·(try rw [h5]);replace h5:=zcl h5
      refine Qg ?_
      refine Q0 ?_
      refine zu4 ?_
      refine zsp 72 rfl (fun h8=>?_) fun h8=>?_
      ·rw [h8];replace h8:=zcl h8
       refine J7 ?_
       refine zg1 ?_
       refine zon ?_
       refine Qj rfl ?_
       refine zw1 ?_
       refine zrt ?_
       refine Qr rfl hcl trivial (Q8 ?_)
       congr 1
       unfold u8
       first|rw [X1 (by omega)]|rw [ZV (by omega) (by omega)]|rw [ZW (by omega) (by omega) rfl]|rw [ZX (by omega) (by omega) rfl]|rw [X8 (by omega) (by omega)]
       all_goals (try split)<;>omega
      ·rw [h8];replace h8:=zcl h8
       refine zg4 ?_
       refine zsp 76 rfl (fun h9=>?_) fun h9=>?_
       ·rw [h9];replace h9:=zcl h9
        refine zv7 ?_
        refine Qj rfl ?_
        refine zw1 ?_
        refine zrt ?_
        refine Qr rfl hcl trivial (Q8 ?_)
        congr 1
        unfold u8
        first|rw [X1 (by omega)]|rw [ZV (by omega) (by omega)]|rw [ZW (by omega) (by omega) rfl]|rw [ZX (by omega) (by omega) rfl]|rw [X8 (by omega) (by omega)]
        all_goals (try split)<;>omega
       ·rw [h9];replace h9:=zcl h9
        refine zg3 ?_
        refine zsp 79 rfl (fun h10=>?_) fun h10=>?_
        ·rw [h10];replace h10:=zcl h10
         refine zv4 ?_
         refine Q2 rfl (fun h11=>?_) (fun h11=>?_)
         ·(try rw [h11]);replace h11:=zcl h11
          refine zw1 ?_
          refine zrt ?_
          refine Qr rfl hcl trivial (Q8 ?_)
          congr 1
          unfold u8
          first|rw [X1 (by omega)]|rw [ZV (by omega) (by omega)]|rw [ZW (by omega) (by omega) rfl]|rw [ZX (by omega) (by omega) rfl]|rw [X8 (by omega) (by omega)]
          all_goals (try split)<;>omega
         ·(try rw [h11]);replace h11:=zcl h11
          refine Q1 ?_
          refine zw2 ?_
          refine zrt ?_
          refine Qr rfl hcl trivial (Q8 ?_)
          congr 1
          unfold u8
          first|rw [X1 (by omega)]|rw [ZV (by omega) (by omega)]|rw [ZW (by omega) (by omega) rfl]|rw [ZX (by omega) (by omega) rfl]|rw [X8 (by omega) (by omega)]
          all_goals (try split)<;>omega
        ·rw [h10];replace h10:=zcl h10
         refine zv4 ?_
         refine Qd rfl ?_
         refine Q1 ?_
         refine zw2 ?_
         refine zrt ?_
         refine Qr rfl hcl trivial (Q8 ?_)
         congr 1
         unfold u8
         first|rw [X1 (by omega)]|rw [ZV (by omega) (by omega)]|rw [ZW (by omega) (by omega) rfl]|rw [ZX (by omega) (by omega) rfl]|rw [X8 (by omega) (by omega)]
         all_goals (try split)<;>omega
   ·(try rw [h3]);replace h3:=zcl h3
    refine zu3 ?_
    refine zsp 27 rfl (fun h12=>?_) fun h12=>?_
    ·rw [h12];replace h12:=zcl h12
     refine zv3 ?_
     refine Q2 rfl (fun h13=>?_) (fun h13=>?_)
     ·(try rw [h13]);replace h13:=zcl h13
      refine zw1 ?_
      refine zw1 ?_
      refine Q4 ?_
      refine zv3 ?_
      refine Q0 ?_
      refine zw6 ?_
      refine Q2 rfl (fun h14=>?_) (fun h14=>?_)
      ·(try rw [h14]);replace h14:=zcl h14
       refine zw1 ?_
       refine zrt ?_
       refine Qr rfl hcl trivial (Q8 ?_)
       congr 1
       unfold u8
       first|rw [X1 (by omega)]|rw [ZV (by omega) (by omega)]|rw [ZW (by omega) (by omega) rfl]|rw [ZX (by omega) (by omega) rfl]|rw [X8 (by omega) (by omega)]
       all_goals (try split)<;>omega
      ·(try rw [h14]);replace h14:=zcl h14
       refine Q1 ?_
       refine Q0 ?_
       refine zw1 ?_
       refine Qa ?_
       refine Qs (ι:=Nat×Int) (fun p=>(p.1=1∧p.2=((bat s a.toNat).toNat:Int) - 224)∨(p.1=2∧128≤((bat s (a.toNat+1)).toNat:Int)∧((bat s (a.toNat+1)).toNat:Int) < 192∧p.2=(64 * (((bat s a.toNat).toNat:Int) - 224)+(((bat s (a.toNat+1)).toNat:Int) - 128)))∨(p.1=3∧128≤((bat s (a.toNat+1)).toNat:Int)∧((bat s (a.toNat+1)).toNat:Int) < 192∧128≤((bat s (a.toNat+2)).toNat:Int)∧((bat s (a.toNat+2)).toNat:Int) < 192∧p.2=(64 * (64 * (((bat s a.toNat).toNat:Int) - 224)+(((bat s (a.toNat+1)).toNat:Int) - 128))+(((bat s (a.toNat+2)).toNat:Int) - 128)))) (fun p=>⟨[],[(0,.str s),(1,.int .i64 a),(6,.int .i64 3),(7,.int .i64 2048),(8,.int .i64 p.2),(9,.int .i64 (p.1:Int))]⟩) (fun p=>σ) (fun p=>3 - p.1) ((1,((bat s a.toNat).toNat:Int) - 224)) (.inl ⟨rfl,rfl⟩) ?_ rfl (fun p hp=>?_)
       ·exact ⟨rfl,rfl,rfl,rfl,rfl,rfl,rfl,trivial⟩
       obtain ⟨i,v⟩:=p
       simp only at hp ⊢
       have ci:=J0 s (a+(i:Int)).toNat
       have k1:i=1→(bat s (a+(i:Int)).toNat).toNat=(bat s (a.toNat+1)).toNat:=fun h=>by rw [h];congr 2;omega
       have k2:i=2→(bat s (a+(i:Int)).toNat).toNat=(bat s (a.toNat+2)).toNat:=fun h=>by rw [h];congr 2;omega
       have k3:i=3→(bat s (a+(i:Int)).toNat).toNat=(bat s (a.toNat+3)).toNat:=fun h=>by rw [h];congr 2;omega
       refine Q0 ?_
       refine zw3 ?_
       refine Q2 rfl (fun h15=>?_) (fun h15=>?_)
       ·(try rw [h15]);replace h15:=zcl h15
        refine Q1 ?_
        refine Q0 ?_
        refine Qa ?_
        refine zw7 ?_
        refine Q0 ?_
        refine zu3 ?_
        refine zsp 60 rfl (fun h16=>?_) fun h16=>?_
        ·rw [h16];replace h16:=zcl h16
         refine zv3 ?_
         refine Qj rfl ?_
         refine zw1 ?_
         refine zrt ?_
         refine Qr rfl hcl trivial (Q8 ?_)
         congr 1
         unfold u8
         first|rw [X1 (by omega)]|rw [ZV (by omega) (by omega)]|rw [ZW (by omega) (by omega) rfl]|rw [ZX (by omega) (by omega) rfl]|rw [X8 (by omega) (by omega)]
         all_goals (try split)<;>omega
        ·rw [h16];replace h16:=zcl h16
         refine zv3 ?_
         refine Q2 rfl (fun h17=>?_) (fun h17=>?_)
         ·(try rw [h17]);replace h17:=zcl h17
          refine zw1 ?_
          refine zrt ?_
          refine Qr rfl hcl trivial (Q8 ?_)
          congr 1
          unfold u8
          first|rw [X1 (by omega)]|rw [ZV (by omega) (by omega)]|rw [ZW (by omega) (by omega) rfl]|rw [ZX (by omega) (by omega) rfl]|rw [X8 (by omega) (by omega)]
          all_goals (try split)<;>omega
         ·(try rw [h17]);replace h17:=zcl h17
          refine Q1 ?_
          refine Q4 ?_
          refine zv6 ?_
          refine Q4 ?_
          refine zv3 ?_
          refine ⟨(i+1,_),σ.length,?_,?_,Nat.le_refl _,⟨rfl,rfl,rfl,rfl,rfl,rfl,rfl,trivial⟩,hcl,?_,List.take_length⟩
          ·simp only;omega
          ·simp only;omega
          ·simp [ltE,AV.lt]
       ·(try rw [h15]);replace h15:=zcl h15
        refine Qg ?_
        refine Q0 ?_
        refine zu4 ?_
        refine zsp 72 rfl (fun h18=>?_) fun h18=>?_
        ·rw [h18];replace h18:=zcl h18
         refine J7 ?_
         refine zg1 ?_
         refine zon ?_
         refine Qj rfl ?_
         refine zw1 ?_
         refine zrt ?_
         refine Qr rfl hcl trivial (Q8 ?_)
         congr 1
         unfold u8
         first|rw [X1 (by omega)]|rw [ZV (by omega) (by omega)]|rw [ZW (by omega) (by omega) rfl]|rw [ZX (by omega) (by omega) rfl]|rw [X8 (by omega) (by omega)]
         all_goals (try split)<;>omega
        ·rw [h18];replace h18:=zcl h18
         refine zg4 ?_
         refine zsp 76 rfl (fun h19=>?_) fun h19=>?_
         ·rw [h19];replace h19:=zcl h19
          refine zv7 ?_
          refine Qj rfl ?_
          refine zw1 ?_
          refine zrt ?_
          refine Qr rfl hcl trivial (Q8 ?_)
          congr 1
          unfold u8
          first|rw [X1 (by omega)]|rw [ZV (by omega) (by omega)]|rw [ZW (by omega) (by omega) rfl]|rw [ZX (by omega) (by omega) rfl]|rw [X8 (by omega) (by omega)]
          all_goals (try split)<;>omega
         ·rw [h19];replace h19:=zcl h19
          refine zg3 ?_
          refine zsp 79 rfl (fun h20=>?_) fun h20=>?_
          ·rw [h20];replace h20:=zcl h20
           refine zv4 ?_
           refine Q2 rfl (fun h21=>?_) (fun h21=>?_)
           ·(try rw [h21]);replace h21:=zcl h21
            refine zw1 ?_
            refine zrt ?_
            refine Qr rfl hcl trivial (Q8 ?_)
            congr 1
            unfold u8
            first|rw [X1 (by omega)]|rw [ZV (by omega) (by omega)]|rw [ZW (by omega) (by omega) rfl]|rw [ZX (by omega) (by omega) rfl]|rw [X8 (by omega) (by omega)]
            all_goals (try split)<;>omega
           ·(try rw [h21]);replace h21:=zcl h21
            refine Q1 ?_
            refine zw2 ?_
            refine zrt ?_
            refine Qr rfl hcl trivial (Q8 ?_)
            congr 1
            unfold u8
            first|rw [X1 (by omega)]|rw [ZV (by omega) (by omega)]|rw [ZW (by omega) (by omega) rfl]|rw [ZX (by omega) (by omega) rfl]|rw [X8 (by omega) (by omega)]
            all_goals (try split)<;>omega
          ·rw [h20];replace h20:=zcl h20
           refine zv4 ?_
           refine Qd rfl ?_
           refine Q1 ?_
           refine zw2 ?_
           refine zrt ?_
           refine Qr rfl hcl trivial (Q8 ?_)
           congr 1
           unfold u8
           first|rw [X1 (by omega)]|rw [ZV (by omega) (by omega)]|rw [ZW (by omega) (by omega) rfl]|rw [ZX (by omega) (by omega) rfl]|rw [X8 (by omega) (by omega)]
           all_goals (try split)<;>omega
     ·(try rw [h13]);replace h13:=zcl h13
      refine zu3 ?_
      refine zsp 35 rfl (fun h22=>?_) fun h22=>?_
      ·rw [h22];replace h22:=zcl h22
       refine zv3 ?_
       refine Q2 rfl (fun h23=>?_) (fun h23=>?_)
       ·(try rw [h23]);replace h23:=zcl h23
        refine zw1 ?_
        refine zw1 ?_
        refine Q4 ?_
        refine zv3 ?_
        refine Q0 ?_
        refine zw6 ?_
        refine Q2 rfl (fun h24=>?_) (fun h24=>?_)
        ·(try rw [h24]);replace h24:=zcl h24
         refine zw1 ?_
         refine zrt ?_
         refine Qr rfl hcl trivial (Q8 ?_)
         congr 1
         unfold u8
         first|rw [X1 (by omega)]|rw [ZV (by omega) (by omega)]|rw [ZW (by omega) (by omega) rfl]|rw [ZX (by omega) (by omega) rfl]|rw [X8 (by omega) (by omega)]
         all_goals (try split)<;>omega
        ·(try rw [h24]);replace h24:=zcl h24
         refine Q1 ?_
         refine Q0 ?_
         refine zw1 ?_
         refine Qa ?_
         refine Qs (ι:=Nat×Int) (fun p=>(p.1=1∧p.2=((bat s a.toNat).toNat:Int) - 240)∨(p.1=2∧128≤((bat s (a.toNat+1)).toNat:Int)∧((bat s (a.toNat+1)).toNat:Int) < 192∧p.2=(64 * (((bat s a.toNat).toNat:Int) - 240)+(((bat s (a.toNat+1)).toNat:Int) - 128)))∨(p.1=3∧128≤((bat s (a.toNat+1)).toNat:Int)∧((bat s (a.toNat+1)).toNat:Int) < 192∧128≤((bat s (a.toNat+2)).toNat:Int)∧((bat s (a.toNat+2)).toNat:Int) < 192∧p.2=(64 * (64 * (((bat s a.toNat).toNat:Int) - 240)+(((bat s (a.toNat+1)).toNat:Int) - 128))+(((bat s (a.toNat+2)).toNat:Int) - 128)))∨(p.1=4∧128≤((bat s (a.toNat+1)).toNat:Int)∧((bat s (a.toNat+1)).toNat:Int) < 192∧128≤((bat s (a.toNat+2)).toNat:Int)∧((bat s (a.toNat+2)).toNat:Int) < 192∧128≤((bat s (a.toNat+3)).toNat:Int)∧((bat s (a.toNat+3)).toNat:Int) < 192∧p.2=(64 * (64 * (64 * (((bat s a.toNat).toNat:Int) - 240)+(((bat s (a.toNat+1)).toNat:Int) - 128))+(((bat s (a.toNat+2)).toNat:Int) - 128))+(((bat s (a.toNat+3)).toNat:Int) - 128)))) (fun p=>⟨[],[(0,.str s),(1,.int .i64 a),(6,.int .i64 4),(7,.int .i64 65536),(8,.int .i64 p.2),(9,.int .i64 (p.1:Int))]⟩) (fun p=>σ) (fun p=>4 - p.1) ((1,((bat s a.toNat).toNat:Int) - 240)) (.inl ⟨rfl,rfl⟩) ?_ rfl (fun p hp=>?_)
         ·exact ⟨rfl,rfl,rfl,rfl,rfl,rfl,rfl,trivial⟩
         obtain ⟨i,v⟩:=p
         simp only at hp ⊢
         have ci:=J0 s (a+(i:Int)).toNat
         have k1:i=1→(bat s (a+(i:Int)).toNat).toNat=(bat s (a.toNat+1)).toNat:=fun h=>by rw [h];congr 2;omega
         have k2:i=2→(bat s (a+(i:Int)).toNat).toNat=(bat s (a.toNat+2)).toNat:=fun h=>by rw [h];congr 2;omega
         have k3:i=3→(bat s (a+(i:Int)).toNat).toNat=(bat s (a.toNat+3)).toNat:=fun h=>by rw [h];congr 2;omega
         refine Q0 ?_
         refine zw3 ?_
         refine Q2 rfl (fun h25=>?_) (fun h25=>?_)
         ·(try rw [h25]);replace h25:=zcl h25
          refine Q1 ?_
          refine Q0 ?_
          refine Qa ?_
          refine zw7 ?_
          refine Q0 ?_
          refine zu3 ?_
          refine zsp 60 rfl (fun h26=>?_) fun h26=>?_
          ·rw [h26];replace h26:=zcl h26
           refine zv3 ?_
           refine Qj rfl ?_
           refine zw1 ?_
           refine zrt ?_
           refine Qr rfl hcl trivial (Q8 ?_)
           congr 1
           unfold u8
           first|rw [X1 (by omega)]|rw [ZV (by omega) (by omega)]|rw [ZW (by omega) (by omega) rfl]|rw [ZX (by omega) (by omega) rfl]|rw [X8 (by omega) (by omega)]
           all_goals (try split)<;>omega
          ·rw [h26];replace h26:=zcl h26
           refine zv3 ?_
           refine Q2 rfl (fun h27=>?_) (fun h27=>?_)
           ·(try rw [h27]);replace h27:=zcl h27
            refine zw1 ?_
            refine zrt ?_
            refine Qr rfl hcl trivial (Q8 ?_)
            congr 1
            unfold u8
            first|rw [X1 (by omega)]|rw [ZV (by omega) (by omega)]|rw [ZW (by omega) (by omega) rfl]|rw [ZX (by omega) (by omega) rfl]|rw [X8 (by omega) (by omega)]
            all_goals (try split)<;>omega
           ·(try rw [h27]);replace h27:=zcl h27
            refine Q1 ?_
            refine Q4 ?_
            refine zv6 ?_
            refine Q4 ?_
            refine zv3 ?_
            refine ⟨(i+1,_),σ.length,?_,?_,Nat.le_refl _,⟨rfl,rfl,rfl,rfl,rfl,rfl,rfl,trivial⟩,hcl,?_,List.take_length⟩
            ·simp only;omega
            ·simp only;omega
            ·simp [ltE,AV.lt]
         ·(try rw [h25]);replace h25:=zcl h25
          refine Qg ?_
          refine Q0 ?_
          refine zu4 ?_
          refine zsp 72 rfl (fun h28=>?_) fun h28=>?_
          ·rw [h28];replace h28:=zcl h28
           refine J7 ?_
           refine zg1 ?_
           refine zon ?_
           refine Qj rfl ?_
           refine zw1 ?_
           refine zrt ?_
           refine Qr rfl hcl trivial (Q8 ?_)
           congr 1
           unfold u8
           first|rw [X1 (by omega)]|rw [ZV (by omega) (by omega)]|rw [ZW (by omega) (by omega) rfl]|rw [ZX (by omega) (by omega) rfl]|rw [X8 (by omega) (by omega)]
           all_goals (try split)<;>omega
          ·rw [h28];replace h28:=zcl h28
           refine zg4 ?_
           refine zsp 76 rfl (fun h29=>?_) fun h29=>?_
           ·rw [h29];replace h29:=zcl h29
            refine zv7 ?_
            refine Qj rfl ?_
            refine zw1 ?_
            refine zrt ?_
            refine Qr rfl hcl trivial (Q8 ?_)
            congr 1
            unfold u8
            first|rw [X1 (by omega)]|rw [ZV (by omega) (by omega)]|rw [ZW (by omega) (by omega) rfl]|rw [ZX (by omega) (by omega) rfl]|rw [X8 (by omega) (by omega)]
            all_goals (try split)<;>omega
           ·rw [h29];replace h29:=zcl h29
            refine zg3 ?_
            refine zsp 79 rfl (fun h30=>?_) fun h30=>?_
            ·rw [h30];replace h30:=zcl h30
             refine zv4 ?_
             refine Q2 rfl (fun h31=>?_) (fun h31=>?_)
             ·(try rw [h31]);replace h31:=zcl h31
              refine zw1 ?_
              refine zrt ?_
              refine Qr rfl hcl trivial (Q8 ?_)
              congr 1
              unfold u8
              first|rw [X1 (by omega)]|rw [ZV (by omega) (by omega)]|rw [ZW (by omega) (by omega) rfl]|rw [ZX (by omega) (by omega) rfl]|rw [X8 (by omega) (by omega)]
              all_goals (try split)<;>omega
             ·(try rw [h31]);replace h31:=zcl h31
              refine Q1 ?_
              refine zw2 ?_
              refine zrt ?_
              refine Qr rfl hcl trivial (Q8 ?_)
              congr 1
              unfold u8
              first|rw [X1 (by omega)]|rw [ZV (by omega) (by omega)]|rw [ZW (by omega) (by omega) rfl]|rw [ZX (by omega) (by omega) rfl]|rw [X8 (by omega) (by omega)]
              all_goals (try split)<;>omega
            ·rw [h30];replace h30:=zcl h30
             refine zv4 ?_
             refine Qd rfl ?_
             refine Q1 ?_
             refine zw2 ?_
             refine zrt ?_
             refine Qr rfl hcl trivial (Q8 ?_)
             congr 1
             unfold u8
             first|rw [X1 (by omega)]|rw [ZV (by omega) (by omega)]|rw [ZW (by omega) (by omega) rfl]|rw [ZX (by omega) (by omega) rfl]|rw [X8 (by omega) (by omega)]
             all_goals (try split)<;>omega
       ·(try rw [h23]);replace h23:=zcl h23
        refine zw1 ?_
        refine zrt ?_
        refine Qr rfl hcl trivial (Q8 ?_)
        congr 1
        unfold u8
        first|rw [X1 (by omega)]|rw [ZV (by omega) (by omega)]|rw [ZW (by omega) (by omega) rfl]|rw [ZX (by omega) (by omega) rfl]|rw [X8 (by omega) (by omega)]
        all_goals (try split)<;>omega
      ·rw [h22];replace h22:=zcl h22
       exfalso;omega
    ·rw [h12];replace h12:=zcl h12
     exfalso;omega
  ·rw [h2];replace h2:=zcl h2
   refine zv3 ?_
   refine Qd rfl ?_
   refine zu3 ?_
   refine zsp 27 rfl (fun h32=>?_) fun h32=>?_
   ·rw [h32];replace h32:=zcl h32
    exfalso;omega
   ·rw [h32];replace h32:=zcl h32
    refine zv3 ?_
    refine Qd rfl ?_
    refine zu3 ?_
    refine zsp 35 rfl (fun h33=>?_) fun h33=>?_
    ·rw [h33];replace h33:=zcl h33
     exfalso;omega
    ·rw [h33];replace h33:=zcl h33
     refine zv3 ?_
     refine Qd rfl ?_
     refine zw1 ?_
     refine zrt ?_
     refine Qr rfl hcl trivial (Q8 ?_)
     congr 1
     unfold u8
     first|rw [X1 (by omega)]|rw [ZV (by omega) (by omega)]|rw [ZW (by omega) (by omega) rfl]|rw [ZX (by omega) (by omega) rfl]|rw [X8 (by omega) (by omega)]
     all_goals (try split)<;>omega

end Lg
set_option maxRecDepth 20000
set_option maxHeartbeats 4000000
namespace Lg
open Go Go.Proofs Go.RowKit
variable [GLay]
theorem Qee (s:ByteArray) (a:Int) (σ:List AO) (hs:s.size≤1000000):ACalls Tryz.prog 125 [.str s,.int .i64 a] σ (Ret (.tup [.str (Xp s a).s,.int .i64 (Xp s a).n,.int .i64 (Xp s a).bad,.int .i64 (Xp s a).at_]) σ):=by
 refine Qc Tryz.func125 rfl Tryz.ntmps125 (res4 Tryz.results125) (Nat.le_of_ble_eq_true rfl) (fun hcl hal=>?_)
 refine zw4 ?_
 refine Q0 ?_
 refine zsr ?_
 have hz:(e0).size=0:=rfl
 refine zg3 ?_
 refine zsp 21 rfl (fun h1=>?_) fun h1=>?_
 ·rw [h1];(try simp only [tn1,tn2,tnn,zS] at h1)
  refine zv5 ?_
  refine Qj rfl ?_
  refine zw5 ?_
  refine zrt ?_
  have hE:Xp s a=⟨e0,0,1,a⟩:=by unfold Xp;rw [if_pos (by omega)]
  rw [hE];exact Ya rfl rfl rfl rfl hcl (by simp [AV.lt,AV.ltL]) (Q8 rfl)
 ·rw [h1];(try simp only [tn1,tn2,tnn,zS] at h1)
  refine zv5 ?_
  refine Q2 rfl (fun h2=>?_) (fun h2=>?_)
  ·(try rw [h2]);(try simp only [tn1,tn2,tnn,zS] at h2)
   refine zw5 ?_
   refine zrt ?_
   have hE:Xp s a=⟨e0,0,1,a⟩:=by unfold Xp;rw [if_pos (by omega)]
   rw [hE];exact Ya rfl rfl rfl rfl hcl (by simp [AV.lt,AV.ltL]) (Q8 rfl)
  ·(try rw [h2]);(try simp only [tn1,tn2,tnn,zS] at h2)
   refine Q1 ?_
   refine Q0 ?_
   refine zw4 ?_
   refine Q2 rfl (fun h3=>?_) (fun h3=>?_)
   ·(try rw [h3]);(try simp only [tn1,tn2,tnn,zS] at h3)
    refine zw5 ?_
    refine zrt ?_
    have hE:Xp s a=⟨e0,0,1,a⟩:=by unfold Xp;rw [if_neg (by omega),if_pos (by omega)]
    rw [hE];exact Ya rfl rfl rfl rfl hcl (by simp [AV.lt,AV.ltL]) (Q8 rfl)
   ·(try rw [h3]);(try simp only [tn1,tn2,tnn,zS] at h3)
    refine Q1 ?_
    refine zw1 ?_
    refine zw3 ?_
    refine Q0 ?_
    refine Qa ?_
    refine Qs (ι:=Nat×ByteArray) (fun q=>XP s a.toNat q.1 q.2=Xp s a∧a.toNat < q.1∧q.1≤s.size∧q.2.size≤q.1) (fun q=>⟨[],[(0,.str s),(1,.int .i64 a),(8,.str q.2),(9,.int .i64 (q.1:Int))]⟩) (fun q=>σ) (fun q=>s.size - q.1) ((a.toNat+1,e0)) (⟨by unfold Xp;rw [if_neg (by omega),if_neg (by omega)],by simp only;omega,by simp only;omega,by simp only;omega⟩) ?_ rfl (fun q hq=>?_)
    ·refine ⟨rfl,rfl,rfl,rfl,?_,trivial⟩
     simp only [Int.natCast_add,Int.toNat_of_nonneg (show 0≤a by omega)];rfl
    obtain ⟨i,out⟩:=q
    obtain ⟨hq1,hq2,hq3,hq4⟩:=hq
    simp only at hq1 hq2 hq3 hq4 ⊢
    have hbl:=J0 s i
    refine Q0 ?_
    refine zw4 ?_
    refine Q2 rfl (fun h4=>?_) (fun h4=>?_)
    ·(try rw [h4]);(try simp only [tn1,tn2,tnn,zS] at h4)
     refine Q1 ?_
     refine Qa ?_
     refine zu3 ?_
     simp only [Int.toNat_natCast]
     refine zv1 ?_
     refine Q0 ?_
     refine zw2 ?_
     refine Q2 rfl (fun h5=>?_) (fun h5=>?_)
     ·(try rw [h5]);(try simp only [tn1,tn2,tnn,zS] at h5)
      refine zw9 ?_
      refine zrt ?_
      (rw [← hq1,Q98 (by omega) (by omega)];exact Ya rfl rfl rfl rfl hcl (by simp [AV.lt,AV.ltL]) (Q8 (by dsimp only;rw [Int.toNat_of_nonneg (show 0≤a by omega)])))
     ·(try rw [h5]);(try simp only [tn1,tn2,tnn,zS] at h5)
      refine Q1 ?_
      refine Q0 ?_
      refine zw2 ?_
      refine Q2 rfl (fun h6=>?_) (fun h6=>?_)
      ·(try rw [h6]);(try simp only [tn1,tn2,tnn,zS] at h6)
       refine zw5 ?_
       refine zrt ?_
       (rw [← hq1,Q2H (by omega) (by omega)];exact Ya rfl rfl rfl rfl hcl (by simp [AV.lt,AV.ltL]) (Q8 rfl))
      ·(try rw [h6]);(try simp only [tn1,tn2,tnn,zS] at h6)
       refine Q1 ?_
       refine Q0 ?_
       refine zw2 ?_
       refine Q2 rfl (fun h7=>?_) (fun h7=>?_)
       ·(try rw [h7]);(try simp only [tn1,tn2,tnn,zS] at h7)
        refine zsr ?_
        have hu:=QbE (s:=s) (a:=i) (by omega)
        refine zg2 ?_
        refine zt rfl (zc rfl (Qdh s (i:Int) _ (by omega) (by omega) (by omega))) ?_
        simp only [Int.toNat_natCast]
        refine zv1 ?_
        refine Q0 ?_
        refine zw2 ?_
        refine Q2 rfl (fun h8=>?_) (fun h8=>?_)
        ·(try rw [h8]);(try simp only [tn1,tn2,tnn,zS] at h8)
         refine zw5 ?_
         refine zrt ?_
         (rw [← hq1,Q2G (by omega) (by omega) (by omega) (by omega) (by omega)];exact Ya rfl rfl rfl rfl hcl (by simp [AV.lt,AV.ltL]) (Q8 rfl))
        ·(try rw [h8]);(try simp only [tn1,tn2,tnn,zS] at h8)
         refine Q1 ?_
         refine zu7 ?_
         simp only [Int.toNat_natCast,tnn]
         have hxs:(s.extract i (i+u8 s i)).size≤s.size:=by rw [ByteArray.size_extract];omega
         refine zv2 ?_
         refine zw4 ?_
         refine Qg ?_
         exact ⟨(i+u8 s i,out++s.extract i (i+u8 s i)),σ.length,⟨by rw [← hq1];exact (Ff (by omega) (by omega) (by omega) (by omega) (by omega)).symm,by simp only;omega,by simp only;omega,by simp only [ByteArray.size_append,ByteArray.size_extract];omega⟩,by simp only;omega,Nat.le_refl _,⟨rfl,rfl,rfl,rfl,rfl,trivial⟩,hcl,by simp [ltE,AV.lt],List.take_length⟩
       ·(try rw [h7]);(try simp only [tn1,tn2,tnn,zS] at h7)
        refine Q1 ?_
        refine Q0 ?_
        refine zw5 ?_
        refine Q2 rfl (fun h9=>?_) (fun h9=>?_)
        ·(try rw [h9]);(try simp only [tn1,tn2,tnn,zS] at h9)
         refine zw6 ?_
         refine zrt ?_
         (rw [← hq1,Q0d (by omega) (by omega)];exact Ya rfl rfl rfl rfl hcl (by simp [AV.lt,AV.ltL]) (Q8 rfl))
        ·(try rw [h9]);(try simp only [tn1,tn2,tnn,zS] at h9)
         refine Q1 ?_
         refine Q0 ?_
         refine zu4 ?_
         simp only [tn1]
         refine zv1 ?_
         refine Q2 rfl (fun h10=>?_) (fun h10=>?_)
         ·(try rw [h10]);(try simp only [tn1,tn2,tnn,zS] at h10)
          refine zsr ?_
          have hx:=Q16 s (i+2)
          have hlw:=Q4F s (i+6)
          have hc1:=KF (65536+1024 * ((Zl s (i+2)).1 - 55296)+Jz s (i+6) - 56320)
          have hc2:=KF (Zl s (i+2)).1
          refine zg3 ?_
          refine zt rfl (zc rfl (Qb9 s (i+2) _ hs (by omega))) ?_
          refine zv5 ?_
          refine Q0 ?_
          refine zw2 ?_
          refine Q2 rfl (fun h11=>?_) (fun h11=>?_)
          ·(try rw [h11]);(try simp only [tn1,tn2,tnn,zS] at h11)
           refine zw5 ?_
           refine zrt ?_
           (rw [← hq1,Q57 (by omega) (by omega) (by omega) (by omega)];exact Ya rfl rfl rfl rfl hcl (by simp [AV.lt,AV.ltL]) (Q8 rfl))
          ·(try rw [h11]);(try simp only [tn1,tn2,tnn,zS] at h11)
           refine Q1 ?_
           refine zu3 ?_
           refine zt rfl (zc rfl (Qdy s (i+6) _ hs (by omega))) ?_
           refine zv1 ?_
           refine Q0 ?_
           refine zu3 ?_
           refine zsp 99 rfl (fun h12=>?_) fun h12=>?_
           ·rw [h12];(try simp only [tn1,tn2,tnn,zS] at h12)
            refine zg4 ?_
            refine zsp 103 rfl (fun h13=>?_) fun h13=>?_
            ·rw [h13];(try simp only [tn1,tn2,tnn,zS] at h13)
             refine zv3 ?_
             refine Q2 rfl (fun h14=>?_) (fun h14=>?_)
             ·(try rw [h14]);(try simp only [tn1,tn2,tnn,zS] at h14)
              refine zu8 ?_
              refine zt rfl (zc rfl (W0 _ _ (by omega) (by omega))) ?_
              refine zv2 ?_
              refine zw3 ?_
              refine Qg ?_
              exact ⟨(i+12,out++Y9 (65536+1024 * ((Zl s (i+2)).1 - 55296)+Jz s (i+6) - 56320)),σ.length,⟨by rw [← hq1];exact (Q0e (by omega) (by omega) (by omega) (by omega) (by omega)).symm,by simp only;omega,by simp only;omega,by simp only [ByteArray.size_append,ByteArray.size_extract];omega⟩,by simp only;omega,Nat.le_refl _,⟨rfl,rfl,rfl,rfl,rfl,trivial⟩,hcl,by simp [ltE,AV.lt],List.take_length⟩
             ·(try rw [h14]);(try simp only [tn1,tn2,tnn,zS] at h14)
              refine Q1 ?_
              refine Q0 ?_
              refine zu3 ?_
              refine zsp 121 rfl (fun h15=>?_) fun h15=>?_
              ·rw [h15];(try simp only [tn1,tn2,tnn,zS] at h15)
               refine zv3 ?_
               refine Q2 rfl (fun h16=>?_) (fun h16=>?_)
               ·(try rw [h16]);(try simp only [tn1,tn2,tnn,zS] at h16)
                refine zw5 ?_
                refine zrt ?_
                (rw [← hq1,Fg (by omega) (by omega) (by omega) (by omega) (by omega) (by omega)];exact Ya rfl rfl rfl rfl hcl (by simp [AV.lt,AV.ltL]) (Q8 rfl))
               ·(try rw [h16]);(try simp only [tn1,tn2,tnn,zS] at h16)
                refine Q1 ?_
                refine zu2 ?_
                refine zt rfl (zc rfl (W0 _ _ (by omega) (by omega))) ?_
                refine zv2 ?_
                refine zw3 ?_
                refine Qg ?_
                exact ⟨(i+6,out++Y9 (Zl s (i+2)).1),σ.length,⟨by rw [← hq1];exact (Wf (by omega) (by omega) (by omega) (by omega) (by omega) (by omega)).symm,by simp only;omega,by simp only;omega,by simp only [ByteArray.size_append,ByteArray.size_extract];omega⟩,by simp only;omega,Nat.le_refl _,⟨rfl,rfl,rfl,rfl,rfl,trivial⟩,hcl,by simp [ltE,AV.lt],List.take_length⟩
              ·rw [h15];(try simp only [tn1,tn2,tnn,zS] at h15)
               refine zv3 ?_
               refine Qd rfl ?_
               refine Q1 ?_
               refine zu2 ?_
               refine zt rfl (zc rfl (W0 _ _ (by omega) (by omega))) ?_
               refine zv2 ?_
               refine zw3 ?_
               refine Qg ?_
               exact ⟨(i+6,out++Y9 (Zl s (i+2)).1),σ.length,⟨by rw [← hq1];exact (Wf (by omega) (by omega) (by omega) (by omega) (by omega) (by omega)).symm,by simp only;omega,by simp only;omega,by simp only [ByteArray.size_append,ByteArray.size_extract];omega⟩,by simp only;omega,Nat.le_refl _,⟨rfl,rfl,rfl,rfl,rfl,trivial⟩,hcl,by simp [ltE,AV.lt],List.take_length⟩
            ·rw [h13];(try simp only [tn1,tn2,tnn,zS] at h13)
             refine zv3 ?_
             refine Qd rfl ?_
             refine Q1 ?_
             refine Q0 ?_
             refine zu3 ?_
             refine zsp 121 rfl (fun h17=>?_) fun h17=>?_
             ·rw [h17];(try simp only [tn1,tn2,tnn,zS] at h17)
              refine zv3 ?_
              refine Q2 rfl (fun h18=>?_) (fun h18=>?_)
              ·(try rw [h18]);(try simp only [tn1,tn2,tnn,zS] at h18)
               refine zw5 ?_
               refine zrt ?_
               (rw [← hq1,Fg (by omega) (by omega) (by omega) (by omega) (by omega) (by omega)];exact Ya rfl rfl rfl rfl hcl (by simp [AV.lt,AV.ltL]) (Q8 rfl))
              ·(try rw [h18]);(try simp only [tn1,tn2,tnn,zS] at h18)
               refine Q1 ?_
               refine zu2 ?_
               refine zt rfl (zc rfl (W0 _ _ (by omega) (by omega))) ?_
               refine zv2 ?_
               refine zw3 ?_
               refine Qg ?_
               exact ⟨(i+6,out++Y9 (Zl s (i+2)).1),σ.length,⟨by rw [← hq1];exact (Wf (by omega) (by omega) (by omega) (by omega) (by omega) (by omega)).symm,by simp only;omega,by simp only;omega,by simp only [ByteArray.size_append,ByteArray.size_extract];omega⟩,by simp only;omega,Nat.le_refl _,⟨rfl,rfl,rfl,rfl,rfl,trivial⟩,hcl,by simp [ltE,AV.lt],List.take_length⟩
             ·rw [h17];(try simp only [tn1,tn2,tnn,zS] at h17)
              refine zv3 ?_
              refine Qd rfl ?_
              refine Q1 ?_
              refine zu2 ?_
              refine zt rfl (zc rfl (W0 _ _ (by omega) (by omega))) ?_
              refine zv2 ?_
              refine zw3 ?_
              refine Qg ?_
              exact ⟨(i+6,out++Y9 (Zl s (i+2)).1),σ.length,⟨by rw [← hq1];exact (Wf (by omega) (by omega) (by omega) (by omega) (by omega) (by omega)).symm,by simp only;omega,by simp only;omega,by simp only [ByteArray.size_append,ByteArray.size_extract];omega⟩,by simp only;omega,Nat.le_refl _,⟨rfl,rfl,rfl,rfl,rfl,trivial⟩,hcl,by simp [ltE,AV.lt],List.take_length⟩
           ·rw [h12];(try simp only [tn1,tn2,tnn,zS] at h12)
            refine zv7 ?_
            refine Qd rfl ?_
            refine Q1 ?_
            refine Q0 ?_
            refine zu3 ?_
            refine zsp 121 rfl (fun h19=>?_) fun h19=>?_
            ·rw [h19];(try simp only [tn1,tn2,tnn,zS] at h19)
             refine zv3 ?_
             refine Q2 rfl (fun h20=>?_) (fun h20=>?_)
             ·(try rw [h20]);(try simp only [tn1,tn2,tnn,zS] at h20)
              refine zw5 ?_
              refine zrt ?_
              (exfalso;omega;done)
             ·(try rw [h20]);(try simp only [tn1,tn2,tnn,zS] at h20)
              refine Q1 ?_
              refine zu2 ?_
              refine zt rfl (zc rfl (W0 _ _ (by omega) (by omega))) ?_
              refine zv2 ?_
              refine zw3 ?_
              refine Qg ?_
              exact ⟨(i+6,out++Y9 (Zl s (i+2)).1),σ.length,⟨by rw [← hq1];exact (Wf (by omega) (by omega) (by omega) (by omega) (by omega) (by omega)).symm,by simp only;omega,by simp only;omega,by simp only [ByteArray.size_append,ByteArray.size_extract];omega⟩,by simp only;omega,Nat.le_refl _,⟨rfl,rfl,rfl,rfl,rfl,trivial⟩,hcl,by simp [ltE,AV.lt],List.take_length⟩
            ·rw [h19];(try simp only [tn1,tn2,tnn,zS] at h19)
             refine zv3 ?_
             refine Qd rfl ?_
             refine Q1 ?_
             refine zu2 ?_
             refine zt rfl (zc rfl (W0 _ _ (by omega) (by omega))) ?_
             refine zv2 ?_
             refine zw3 ?_
             refine Qg ?_
             exact ⟨(i+6,out++Y9 (Zl s (i+2)).1),σ.length,⟨by rw [← hq1];exact (Wf (by omega) (by omega) (by omega) (by omega) (by omega) (by omega)).symm,by simp only;omega,by simp only;omega,by simp only [ByteArray.size_append,ByteArray.size_extract];omega⟩,by simp only;omega,Nat.le_refl _,⟨rfl,rfl,rfl,rfl,rfl,trivial⟩,hcl,by simp [ltE,AV.lt],List.take_length⟩
         ·(try rw [h10]);(try simp only [tn1,tn2,tnn,zS] at h10)
          refine Q1 ?_
          refine zw1 ?_
          refine zsr ?_
          refine zt rfl (Ql [[_],[_],[_],[_],[_],[_],[_],[_]] rfl Tryz.underlying116 Tryz.sizeOf5 Tryz.zeroValue5 rfl (by decide) (by decide) rfl rfl rfl rfl rfl) ?_
          refine zv1 ?_
          refine zw1 ?_
          refine Q0 ?_
          refine zw1 ?_
          refine Qa ?_
          refine Qs (ι:=Nat) (fun k=>k≤8) (fun k=>⟨[],[(0,.str s),(1,.int .i64 a),(8,.str (Q74 out (Us (bat s (i+1)).toNat k))),(9,.int .i64 (i:Int)),(15,.str fromS),(16,.sl true 1 [[AV.int .u8 34],[AV.int .u8 92],[AV.int .u8 47],[AV.int .u8 8],[AV.int .u8 12],[AV.int .u8 10],[AV.int .u8 13],[AV.int .u8 9]]),(17,.bool (Us (bat s (i+1)).toNat k).isSome),(18,.int .i64 (k:Int))]⟩) (fun k=>σ) (fun k=>8 - k) (0) (Nat.zero_le _) ?_ rfl (fun k hk=>?_)
          ·exact ⟨rfl,rfl,rfl,rfl,rfl,rfl,rfl,rfl,rfl,trivial⟩
          have hfs:fromS.size=8:=rfl
          have hos:=Q5n out (Us (bat s (i+1)).toNat k)
          have htb:=@Qd9 k
          refine Q0 ?_
          refine zw4 ?_
          refine Q2 rfl (fun h21=>?_) (fun h21=>?_)
          ·(try rw [h21]);(try simp only [tn1,tn2,tnn,zS] at h21)
           refine Q1 ?_
           refine Q0 ?_
           refine Qa ?_
           refine Q0 ?_
           refine Qb #[0,0,3,0,0,16,56,127] Tryz.mixed (by decide +kernel) (by decide +kernel) ?_
           refine zd7 ?_
           simp only [tn1,Int.toNat_natCast]
           refine zd1 ?_
           refine RP.nil rfl ?_
           refine Q2 rfl (fun h22=>?_) (fun h22=>?_)
           ·(try rw [h22]);(try simp only [tn1,tn2,tnn,zS] at h22)
            refine zu3 ?_
            refine zt rfl (Qe rfl Tryz.underlying116 Tryz.sizeOf5 rfl rfl (by omega) (Qda (by omega))) ?_
            simp only [Int.toNat_natCast]
            refine zg1 ?_
            refine zt rfl (Ql [[_]] rfl Tryz.underlying116 Tryz.sizeOf5 Tryz.zeroValue5 rfl (by decide) (by decide) rfl rfl rfl rfl rfl) ?_
            refine zt rfl (Z4 (b:=_) (m:=1) rfl Tryz.underlying116 Tryz.underlying5 Tryz.underlying9 (bs1 ⟨by omega,by omega⟩) rfl rfl) ?_
            have h1s:(ByteArray.mk #[u8b (toB k:Int)]).size=1:=rfl
            refine zv2 ?_
            refine Q4 ?_
            refine zv1 ?_
            refine Q4 ?_
            refine zv3 ?_
            have hk8:k < 8:=by omega
            have hhit:=Hl (c:=(bat s (i+1)).toNat) hk8 (by omega)
            have hho:=Q75 (out:=out) (c:=(bat s (i+1)).toNat) hk8 (by omega)
            refine ⟨k+1,σ.length,by omega,by omega,Nat.le_refl _,⟨rfl,rfl,rfl,?_,rfl,rfl,rfl,?_,rfl,trivial⟩,hcl,?_,List.take_length⟩
            ·rw [← hho];rfl
            ·rw [hhit.2];rfl
            ·simp [ltE,AV.lt,AV.ltL,AV.ltLL]
           ·(try rw [h22]);(try simp only [tn1,tn2,tnn,zS] at h22)
            refine Q1 ?_
            refine Q4 ?_
            refine zv3 ?_
            have hk8:k < 8:=by omega
            have hmiss:=Q5m (c:=(bat s (i+1)).toNat) hk8 (by omega)
            refine ⟨k+1,σ.length,by omega,by omega,Nat.le_refl _,⟨rfl,rfl,rfl,?_,rfl,rfl,rfl,?_,rfl,trivial⟩,hcl,?_,List.take_length⟩
            ·rw [hmiss];rfl
            ·rw [hmiss];rfl
            ·simp [ltE,AV.lt,AV.ltL,AV.ltLL]
          ·(try rw [h21]);(try simp only [tn1,tn2,tnn,zS] at h21)
           refine Qg ?_
           refine Q0 ?_
           refine zw2 ?_
           refine Q2 rfl (fun h23=>?_) (fun h23=>?_)
           ·(try rw [h23]);(try simp only [tn1,tn2,tnn,zS] at h23)
            have h8:k=8:=by omega
            subst h8
            rw [Hk] at h23
            have h23:=Option.isNone_iff_eq_none.1 (by rw [← Option.not_isSome,h23];rfl)
            refine zw6 ?_
            refine zrt ?_
            (rw [← hq1,Q56 (by omega) (by omega) (by omega) (by assumption)];exact Ya rfl rfl rfl rfl hcl (by simp [AV.lt,AV.ltL]) (Q8 rfl))
           ·(try rw [h23]);(try simp only [tn1,tn2,tnn,zS] at h23)
            have h8:k=8:=by omega
            subst h8
            rw [Hk] at h23
            obtain ⟨b,hb⟩:=Option.isSome_iff_exists.1 h23
            have h1b:(ByteArray.mk #[UInt8.ofNat b]).size=1:=rfl
            refine Q1 ?_
            refine Q4 ?_
            refine zv3 ?_
            exact ⟨(i+2,out++⟨#[UInt8.ofNat b]⟩),σ.length,⟨by rw [← hq1];exact (Q97 (by omega) (by omega) (by omega) hb).symm,by simp only;omega,by simp only;omega,by simp only [ByteArray.size_append,ByteArray.size_extract];omega⟩,by simp only;omega,Nat.le_refl _,⟨rfl,rfl,rfl,by rw [Hk,hb];rfl,rfl,trivial⟩,hcl,by simp [ltE,AV.lt],List.take_length⟩
    ·(try rw [h4]);(try simp only [tn1,tn2,tnn,zS] at h4)
     refine Qg ?_
     refine zw6 ?_
     refine zrt ?_
     (rw [← hq1,Fe (by omega)];exact Ya rfl rfl rfl rfl hcl (by simp [AV.lt,AV.ltL]) (Q8 rfl))
end Lg
set_option maxRecDepth 20000
set_option maxHeartbeats 4000000
namespace Lg
open Go Go.Proofs Go.RowKit
variable [GLay]
theorem JO (s:ByteArray) (r:RS) (p:Nat) (σ:List AO) (hσ:σ[p]? =some (ZE s r)) (a b:Int):ACalls Tryz.prog 44 [.ptr p 0,.int .i64 a,.int .i64 b] σ (Ret (.tup []) (σ.set p (ZE s (Zg r a b)))):=Q77 s r.a r.deep r.bad r.spot p σ hσ a b
theorem W7 (s:ByteArray) (r:RS) (p:Nat) (σ:List AO) (hσ:σ[p]? =some (ZE s r)):ACalls Tryz.prog 75 [.ptr p 0] σ (Ret (.int .i64 (pkv s r.a r.bad)) σ):=HK s r.a r.deep r.bad r.spot p σ hσ (by omega)
theorem GD (s:ByteArray) (r:RS) (p:Nat) (σ:List AO) (hσ:σ[p]? =some (ZE s r)) (hs:s.size≤100000) (h:ROK s r):ACalls Tryz.prog 74 [.ptr p 0] σ (Ret (.tup []) (σ.set p (ZE s (Qu s r)))):=Q0j s r.a r.deep r.bad r.spot p σ hσ (by omega) (by have:=h.a;omega)
theorem Q82 (s:ByteArray) (r:RS) (p:Nat) (σ:List AO) (hσ:σ[p]? =some (ZE s r)) (hs:s.size≤100000) (h:ROK s r):ACalls Tryz.prog 124 [.ptr p 0] σ (Ret (.tup []) (σ.set p (ZE s (ZQ s r)))):=QcE s r.a r.deep r.bad r.spot p σ hσ (by omega) (by have:=h.a;omega) h.d0 (by have:=h.d1;have:=h.a;omega)
theorem Gb (lit:ByteArray) (s:ByteArray) (r:RS) (p:Nat) (σ:List AO) (hσ:σ[p]? =some (ZE s r)) (hs:s.size≤100000) (hl:lit.size≤1000) (h:ROK s r):ACalls Tryz.prog 79 [.ptr p 0,.str lit] σ (Ret (.tup []) (σ.set p (ZE s (XX s lit r)))):=by
 have hp:p < σ.length:=(List.getElem?_eq_some_iff.1 hσ).1
 refine Qc Tryz.func79 rfl Tryz.ntmps79 (Qau Tryz.results79) (Nat.le_of_ble_eq_true rfl) (fun hcl hal=>?_)
 refine Qn (QO hσ) ?_
 refine zw1 ?_
 refine Qa ?_
 refine Qs (ι:=Nat×RS) (fun q=>wantF s lit q.1 q.2=XX s lit r∧ROK s q.2∧q.1≤lit.size) (fun q=>⟨[],[(0,.ptr p 0),(1,.str lit),(4,.int .i64 (q.1:Int))]⟩) (fun q=>σ.set p (ZE s q.2)) (fun q=>lit.size - q.1) ((0,r)) (⟨rfl,h,Nat.zero_le _⟩) ?_ rfl (fun q hq=>?_)
 ·exact ⟨rfl,rfl,rfl,rfl,trivial⟩
 obtain ⟨i,t⟩:=q
 obtain ⟨hq1,hq2,hq3⟩:=hq
 simp only at hq1 hq2 hq3 ⊢
 have ha:=hq2.a
 refine Q0 ?_
 refine zu5 ?_
 refine zsp 9 rfl (fun h1=>?_) fun h1=>?_
 ·rw [h1];(try simp only [tn1,tn2,tnn,zS] at h1)
  refine zv6 ?_
  refine Q2 rfl (fun h2=>?_) (fun h2=>?_)
  ·(try rw [h2]);(try simp only [tn1,tn2,tnn,zS] at h2)
   refine Q1 ?_
   refine Q0 ?_
   refine Qa ?_
   refine Q0 ?_
   refine Q0 ?_
   refine Qb #[0,1,0,0,12,28,63] Tryz.mixed (by decide +kernel) (by decide +kernel) ?_
   refine zd1 ?_
   refine yP rfl rfl (zc rfl (W7 s t p _ (Qk hp))) (trivial) ?_
   refine zd3 ?_
   simp only [Int.toNat_natCast]
   have hbl:=J0 lit i
   refine zd2 ?_
   refine RP.nil rfl ?_
   refine Q2 rfl (fun h3=>?_) (fun h3=>?_)
   ·(try rw [h3]);(try simp only [tn1,tn2,tnn,zS] at h3)
    refine Q4 ?_
    refine zg5 ?_
    refine zt rfl (zc rfl (Ge (JO s t p _ (Qk hp) (t.a:Int) 1))) ?_
    have hra:(Zg t (t.a:Int) 1).a=t.a:=rfl
    refine zon ?_
    refine Q4 ?_
    refine zv8 ?_
    refine Q4 ?_
    refine zv3 ?_
    have hstep:wantF s lit i t=wantF s lit (i+1) (KR s (bat lit i) t):=by rw [wantF.eq_1 s lit i,if_pos ⟨by omega,by omega⟩]
    have hw:KR s (bat lit i) t=Xg (Zg t (t.a:Int) 1):=by unfold KR;rw [if_neg (by omega)]
    refine ⟨(i+1,KR s (bat lit i) t),σ.length,⟨by rw [← hq1,hstep],(Fi hq2 (by omega)).1.ok,by simp only;omega⟩,by simp only;omega,by simp,⟨rfl,rfl,rfl,rfl,trivial⟩,Xb (x:=ZE s (Xg (Zg t (t.a:Int) 1))) hcl (by simp [AO.cells,AV.ltL,AV.lt]),?_,Kj ?_⟩
    ·simp [ltE,AV.lt];omega
    ·rw [hw];rfl
   ·(try rw [h3]);(try simp only [tn1,tn2,tnn,zS] at h3)
    refine Q1 ?_
    refine Q4 ?_
    refine zv8 ?_
    refine Q4 ?_
    refine zv3 ?_
    have hstep:wantF s lit i t=wantF s lit (i+1) (KR s (bat lit i) t):=by rw [wantF.eq_1 s lit i,if_pos ⟨by omega,by omega⟩]
    have hw:KR s (bat lit i) t=Xg t:=by unfold KR;rw [if_pos (by omega)]
    refine ⟨(i+1,KR s (bat lit i) t),σ.length,⟨by rw [← hq1,hstep],(Fi hq2 (by omega)).1.ok,by simp only;omega⟩,by simp only;omega,by simp,⟨rfl,rfl,rfl,rfl,trivial⟩,Xb (x:=ZE s (Xg t)) hcl (by simp [AO.cells,AV.ltL,AV.lt]),?_,Kj ?_⟩
    ·simp [ltE,AV.lt];omega
    ·rw [hw];rfl
  ·(try rw [h2]);(try simp only [tn1,tn2,tnn,zS] at h2)
   refine Qg ?_
   (try simp only [J1,U4])
   have hfin:t=XX s lit r:=by rw [← hq1,wantF,if_neg (by omega)]
   rw [← hfin]
   exact Ks (x:=ZE s t) hcl (by simp [AO.cells,AV.ltL,AV.lt]) ⟨rfl,rfl⟩
 ·rw [h1];(try simp only [tn1,tn2,tnn,zS] at h1)
  refine zv6 ?_
  refine Qd rfl ?_
  refine Qg ?_
  (try simp only [J1,U4])
  have hfin:t=XX s lit r:=by rw [← hq1,wantF,if_neg (by omega)]
  rw [← hfin]
  exact Ks (x:=ZE s t) hcl (by simp [AO.cells,AV.ltL,AV.lt]) ⟨rfl,rfl⟩

theorem Q8T (s:ByteArray) (r:RS) (p:Nat) (σ:List AO) (hσ:σ[p]? =some (ZE s r)) (hs:s.size≤100000) (h:ROK s r):ACalls Tryz.prog 78 [.ptr p 0] σ (Ret (.str (QL s r).1) (σ.set p (ZE s (QL s r).2))):=by
 have hp:p < σ.length:=(List.getElem?_eq_some_iff.1 hσ).1
 have hu:=Q4D s r.a
 have ha:=h.a
 refine Qc Tryz.func78 rfl Tryz.ntmps78 (XE Tryz.results78) (Nat.le_of_ble_eq_true rfl) (fun hcl hal=>?_)
 refine Qn (QO hσ) ?_
 refine zw1 ?_
 refine Q0 ?_
 refine zw5 ?_
 refine Q2 rfl (fun h1=>?_) (fun h1=>?_)
 ·(try rw [h1]);replace h1:=zcl h1
  refine zw1 ?_
  refine zrt ?_
  rw [show QL s r=(e0,r) by unfold QL;rw [if_neg h1]]
  exact Xj rfl (x:=ZE s r) hcl (by simp [AO.cells,AV.ltL,AV.lt]) trivial ⟨rfl,rfl⟩
 ·(try rw [h1]);replace h1:=zcl h1
  have ht:QL s r=((Xp s r.a).s,⟨r.a+(Xp s r.a).n.toNat,r.deep,(Xp s r.a).bad,if (Xp s r.a).bad=0 then r.spot else (Xp s r.a).at_⟩):=by unfold QL;rw [if_pos h1]
  have hc:((r.a+(Xp s r.a).n.toNat:Nat):Int)=(r.a:Int)+(Xp s r.a).n:=by rcases hu with hu|hu<;>omega
  have hsz:(Xp s r.a).n≤200000:=by rcases hu with hu|hu<;>omega
  have hsz0:0≤(Xp s r.a).n:=by rcases hu with hu|hu<;>omega
  refine Q1 ?_
  refine Q0 ?_
  refine Qb #[0,1,3,7,0,16,48,112,255,511,1023,1023,1023,1023,2047,20479,57343,131071] Tryz.mixed (by decide +kernel) (by decide +kernel) ?_
  refine zd3 ?_
  refine zp1 ?_
  refine zd3 ?_
  refine zp1 ?_
  refine yP rfl rfl (zc rfl (Qee s (r.a:Int) _ (by omega))) (trivial) ?_
  refine zd9 ?_
  refine RP.nil rfl ?_
  refine Q0 ?_
  refine zw2 ?_
  refine Q2 rfl (fun h2=>?_) (fun h2=>?_)
  ·(try rw [h2]);replace h2:=zcl h2
   have hf:Zg r (Xp s r.a).at_ (Xp s r.a).bad=⟨r.a,r.deep,(Xp s r.a).bad,(Xp s r.a).at_⟩:=by simp [Zg,h1]
   refine Q4 ?_
   refine zg3 ?_
   refine zt rfl (zc rfl (Ge (JO s r p _ (Qk hp) (Xp s r.a).at_ (Xp s r.a).bad))) ?_
   rw [hf]
   have hra:(RS.mk r.a r.deep (Xp s r.a).bad (Xp s r.a).at_).a=r.a:=rfl
   refine zon ?_
   refine zsr ?_
   refine J7 ?_
   refine zon ?_
   refine zw2 ?_
   refine zrt ?_
   rw [ht];simp only [ZE,hc,if_neg h2]
   exact Xj rfl (x:=.box [.str s,.int .i64 ((r.a:Int)+(Xp s r.a).n),.int .i64 r.deep,.int .i64 (Xp s r.a).bad,.int .i64 (Xp s r.a).at_]) hcl (by simp [AO.cells,AV.ltL,AV.lt]) trivial ⟨rfl,rfl⟩
  ·(try rw [h2]);replace h2:=zcl h2
   refine Q1 ?_
   refine zsr ?_
   refine J7 ?_
   refine zon ?_
   refine zw2 ?_
   refine zrt ?_
   rw [ht];simp only [ZE,hc,if_pos h2]
   have hb0:(Xp s r.a).bad=r.bad:=by omega
   rw [hb0]
   exact Xj rfl (x:=.box [.str s,.int .i64 ((r.a:Int)+(Xp s r.a).n),.int .i64 r.deep,.int .i64 r.bad,.int .i64 r.spot]) hcl (by simp [AO.cells,AV.ltL,AV.lt]) trivial ⟨rfl,rfl⟩
end Lg
set_option maxRecDepth 20000
set_option maxHeartbeats 4000000
namespace Lg
open Go Go.Proofs Go.RowKit
variable [GLay]
theorem Q9j (s:ByteArray) (n:Nat) (ih:∀ (t:RS) (p:Nat) (τ:List AO),τ[p]? =some (ZE s t)→ROK s t→s.size+1 < n+t.a→ACalls Tryz.prog 43 [.ptr p 0] τ (Ret (.agg (Qf (Z2 n s t).1)) (τ.set p (ZE s (Z2 n s t).2)))) (r:RS) (p:Nat) (σ:List AO) (hσ:σ[p]? =some (ZE s r)) (hs:s.size≤100000) (h:ROK s r) (hb:r.bad=0) (ha:r.a < s.size) (hn:s.size+1 < n+r.a+1):ACalls Tryz.prog 77 [.ptr p 0] σ (Ret (.agg (Qf (WT (Z2 n s) s r).1)) (σ.set p (ZE s (WT (Z2 n s) s r).2))):=by
 have hp:p < σ.length:=(List.getElem?_eq_some_iff.1 hσ).1
 have ho:=Ke h hb ha
 have hd0:=h.d0
 have hd1:=h.d1
 refine QS Tryz.func77 rfl Tryz.ntmps77 (by rw [Tryz.results77];exact (.ck Tryz.isAgg28 Tryz.sizeOf28 .nil)) (Nat.le_of_ble_eq_true rfl) (fun hcl hal=>?_)
 refine Qn (QO hσ) ?_
 refine zw1 ?_
 refine zw3 ?_
 refine Q0 ?_
 refine VX 1 (bs':=[.int .i64 4,.bool false,.bool false,.str e0,.int .i64 0,.str e0,.nils,.sl false 9 (Q5 [])]) rfl ⟨AVle.refl _,AVle.refl _,AVle.refl _,AVle.refl _,AVle.refl _,AVle.refl _,AVle.refl _,Xt,trivial⟩ ?_
 refine Kp 1 6 8 2 rfl rfl rfl ?_
 refine Q4 ?_
 refine zg1 ?_
 refine zt rfl (zc rfl (Z6 hp (Q82 s r p _ (Qt hp) hs h))) ?_
 refine zon ?_
 refine Ui (ι:=List JV×RS×Nat) (fun z=>ZU (Z2 n s) s (s.size+2) [] (ZQ s r)=(z.1,z.2.1)∧ROK s z.2.1∧r.a+1≤z.2.1.a) (fun z=>⟨[],[(0,.ptr p 0),(2,.ptr (σ.length+0) 0),(3,.ptr (σ.length+1) 0)]⟩) (fun z=>σ.set p (ZE s z.2.1)++[.box [.int .i64 0,.bool false,.bool false,.str e0,.int .i64 0,.str e0,.nils,.nils],.box [.int .i64 4,.bool false,.bool false,.str e0,.int .i64 0,.str e0,.arr (σ.length+2) z.2.2 8 0 z.1.length,.sl false 9 (Q5 [])],.arr 8 z.2.2 (Q7 z.1).flatten]) ?_ (fun z hz=>?_)
 ·skip
  refine Qs (ι:=Nat×List JV×RS×Nat) (fun q=>ZU (Z2 n s) s q.1 q.2.1 q.2.2.1=ZU (Z2 n s) s (s.size+2) [] (ZQ s r)∧ROK s q.2.2.1∧Qm q.2.1≤q.2.2.1.a∧s.size+2≤q.1+q.2.2.1.a∧r.a+1≤q.2.2.1.a) (fun q=>⟨[],[(0,.ptr p 0),(2,.ptr (σ.length+0) 0),(3,.ptr (σ.length+1) 0)]⟩) (fun q=>σ.set p (ZE s q.2.2.1)++[.box [.int .i64 0,.bool false,.bool false,.str e0,.int .i64 0,.str e0,.nils,.nils],.box [.int .i64 4,.bool false,.bool false,.str e0,.int .i64 0,.str e0,.arr (σ.length+2) q.2.2.2 8 0 q.2.1.length,.sl false 9 (Q5 [])],.arr 8 q.2.2.2 (Q7 q.2.1).flatten]) (fun q=>q.1) ((s.size+2,[],ZQ s r,0)) (⟨rfl,ho.1.ok,by simp only [Qm];omega,by simp only;omega,ho.2.1⟩) ?_ rfl (fun q hq=>?_)
  ·exact ⟨rfl,rfl,rfl,rfl,trivial⟩
  obtain ⟨k,l,t,g⟩:=q
  obtain ⟨hq1,hq2,hq3,hq4,hq5⟩:=hq
  simp only at hq1 hq2 hq3 hq4 hq5 ⊢
  have hta:=hq2.a
  have hll:=Yu l
  have hlc:=QG l
  obtain ⟨k,rfl⟩:∃ k',k=k'+1:=⟨k - 1,by omega⟩
  refine Q0 ?_
  refine zu6 ?_
  refine zsp 12 rfl (fun h1=>?_) fun h1=>?_
  ·rw [h1];(try simp only [tn1,tn2,tnn,zS] at h1)
   refine zg1 ?_
   refine ztG rfl rfl (zc rfl (W7 s t p _ (Qt hp))) ?_
   refine zg2 ?_
   refine zsp 16 rfl (fun h2=>?_) fun h2=>?_
   ·rw [h2];(try simp only [tn1,tn2,tnn,zS] at h2)
    refine zv6 ?_
    refine Qj rfl ?_
    refine Q1 ?_
    refine Qa ?_
    refine Q0 ?_
    refine Qb #[0,1,0,4,12,31,63,127] Tryz.mixed (by decide +kernel) (by decide +kernel) ?_
    refine zd1 ?_
    refine zp1 ?_
    refine zd1 ?_
    refine yE rfl rfl (zc rfl (Z6 hp (ih t p _ (Qt hp) hq2 (by omega)))) (⟨.inr (ZS rfl Tryz.isAgg25 (Jq rfl rfl)),trivial⟩) (trivial) ?_
    have hv:=JL hs n t hq2
    have hva:=hv.fwd.a
    have hvk:=hv.fwd.ok
    have hua:=hv.fwd.ok.a
    have hvs:=hv.size
    clear hv
    generalize hx1:(Z2 n s t).1=v at hvs ⊢
    generalize hx2:(Z2 n s t).2=u at hva hvk hua hvs ⊢
    have hl5:=Kz l v
    rw [Q3 v]
    refine yA rfl rfl (fun _=>Ql [[_,_,_,_,_,_,_,_]] rfl Tryz.underlying25 Tryz.sizeOf28 Tryz.zeroValue28 rfl (by decide) (by decide) rfl rfl rfl rfl rfl) ?_
    refine yE rfl rfl (Qv YM 2 (sz:=8) (m:=1) (len:=l.length) (cs:=_) rfl (.inr ⟨_,rfl⟩) Tryz.underlying25 Tryz.underlying25 Tryz.type28 rfl rfl rfl (by decide) rfl rfl (XC l).symm rfl rfl rfl (by show (l.length+1) * 112≤_;omega) (by omega) rfl) (⟨.inl rfl,trivial⟩) (⟨rfl,trivial⟩) ?_
    refine zd1 ?_
    refine yEN rfl rfl rfl (Yg (r:=[.int .i64 4,.bool false,.bool false,.str e0,.int .i64 0,.str e0,.arr (σ.length+2) (g+1) 8 0 (l.length+1),.sl false 9 (Q5 [])]) rfl Tryz.sizeOf25 rfl rfl rfl rfl rfl (by decide)) (⟨.inl rfl,trivial⟩) (⟨rfl,⟨rfl,trivial⟩⟩) ?_
    refine RP.nil rfl ?_
    refine Q0 ?_
    refine zu1 ?_
    refine zt rfl (zc rfl (W7 s u p _ (Qt hp))) ?_
    refine zv1 ?_
    refine Q2 rfl (fun h3=>?_) (fun h3=>?_)
    ·(try rw [h3]);(try simp only [tn1,tn2,tnn,zS] at h3)
     refine Qg ?_
     show ∃ z:List JV×RS×Nat,_∧_∧_
     exact ⟨(l++[v],u,g+1),⟨by rw [← hq1,ZU,if_pos ⟨by omega,by omega⟩,hx1,hx2,if_neg (by omega)],hvk,by simp only;omega⟩,⟨rfl,rfl,rfl,rfl,trivial⟩,by rw [ZO,List.length_append,Q3 v];rfl⟩
    ·(try rw [h3]);(try simp only [tn1,tn2,tnn,zS] at h3)
     refine Q1 ?_
     refine Q4 ?_
     refine zv8 ?_
     have hstep:ZU (Z2 n s) s (k+1) l t=ZU (Z2 n s) s k (l++[v]) (Xg u):=by rw [ZU,if_pos ⟨by omega,by omega⟩,hx1,hx2,if_pos (by omega)]
     refine ⟨(k,l++[v],Xg u,g+1),σ.length+3,⟨by rw [← hq1,hstep],(JJ hvk (by omega)).ok,by simp only [Xg];omega,by simp only [Xg];omega,by simp only [Xg];omega⟩,by simp only;omega,by simp,⟨rfl,rfl,rfl,rfl,trivial⟩,Xu (x:=ZE s (Xg u)) 3 hcl (by simp [AO.cells,AV.ltL,AV.lt]) ?_,?_,?_⟩
     ·simp [ownLt,AO.cells,AV.ltL,AV.lt,Qx,Z0,Y6]
     ·simp [ltE,AV.lt];omega
     ·rw [ZO,List.length_append,Q3 v];exact Yo 3
   ·rw [h2];(try simp only [tn1,tn2,tnn,zS] at h2)
    refine zg2 ?_
    refine ztG rfl rfl (ZZ rfl rfl Tryz.underlying25 rfl rfl ⟨8,_,ZJ 2⟩) ?_
    refine zv3 ?_
    refine Q2 rfl (fun h4=>?_) (fun h4=>?_)
    ·(try rw [h4]);(try simp only [tn1,tn2,tnn,zS] at h4)
     refine Q1 ?_
     refine Qa ?_
     refine Q0 ?_
     refine Qb #[0,1,0,4,12,31,63,127] Tryz.mixed (by decide +kernel) (by decide +kernel) ?_
     refine zd1 ?_
     refine zp1 ?_
     refine zd1 ?_
     refine yE rfl rfl (zc rfl (Z6 hp (ih t p _ (Qt hp) hq2 (by omega)))) (⟨.inr (ZS rfl Tryz.isAgg25 (Jq rfl rfl)),trivial⟩) (trivial) ?_
     have hv:=JL hs n t hq2
     have hva:=hv.fwd.a
     have hvk:=hv.fwd.ok
     have hua:=hv.fwd.ok.a
     have hvs:=hv.size
     clear hv
     generalize hx1:(Z2 n s t).1=v at hvs ⊢
     generalize hx2:(Z2 n s t).2=u at hva hvk hua hvs ⊢
     have hl5:=Kz l v
     rw [Q3 v]
     refine yA rfl rfl (fun _=>Ql [[_,_,_,_,_,_,_,_]] rfl Tryz.underlying25 Tryz.sizeOf28 Tryz.zeroValue28 rfl (by decide) (by decide) rfl rfl rfl rfl rfl) ?_
     refine yE rfl rfl (Qv YM 2 (sz:=8) (m:=1) (len:=l.length) (cs:=_) rfl (.inr ⟨_,rfl⟩) Tryz.underlying25 Tryz.underlying25 Tryz.type28 rfl rfl rfl (by decide) rfl rfl (XC l).symm rfl rfl rfl (by show (l.length+1) * 112≤_;omega) (by omega) rfl) (⟨.inl rfl,trivial⟩) (⟨rfl,trivial⟩) ?_
     refine zd1 ?_
     refine yEN rfl rfl rfl (Yg (r:=[.int .i64 4,.bool false,.bool false,.str e0,.int .i64 0,.str e0,.arr (σ.length+2) (g+1) 8 0 (l.length+1),.sl false 9 (Q5 [])]) rfl Tryz.sizeOf25 rfl rfl rfl rfl rfl (by decide)) (⟨.inl rfl,trivial⟩) (⟨rfl,⟨rfl,trivial⟩⟩) ?_
     refine RP.nil rfl ?_
     refine Q0 ?_
     refine zu1 ?_
     refine zt rfl (zc rfl (W7 s u p _ (Qt hp))) ?_
     refine zv1 ?_
     refine Q2 rfl (fun h5=>?_) (fun h5=>?_)
     ·(try rw [h5]);(try simp only [tn1,tn2,tnn,zS] at h5)
      refine Qg ?_
      show ∃ z:List JV×RS×Nat,_∧_∧_
      exact ⟨(l++[v],u,g+1),⟨by rw [← hq1,ZU,if_pos ⟨by omega,by omega⟩,hx1,hx2,if_neg (by omega)],hvk,by simp only;omega⟩,⟨rfl,rfl,rfl,rfl,trivial⟩,by rw [ZO,List.length_append,Q3 v];rfl⟩
     ·(try rw [h5]);(try simp only [tn1,tn2,tnn,zS] at h5)
      refine Q1 ?_
      refine Q4 ?_
      refine zv8 ?_
      have hstep:ZU (Z2 n s) s (k+1) l t=ZU (Z2 n s) s k (l++[v]) (Xg u):=by rw [ZU,if_pos ⟨by omega,by omega⟩,hx1,hx2,if_pos (by omega)]
      refine ⟨(k,l++[v],Xg u,g+1),σ.length+3,⟨by rw [← hq1,hstep],(JJ hvk (by omega)).ok,by simp only [Xg];omega,by simp only [Xg];omega,by simp only [Xg];omega⟩,by simp only;omega,by simp,⟨rfl,rfl,rfl,rfl,trivial⟩,Xu (x:=ZE s (Xg u)) 3 hcl (by simp [AO.cells,AV.ltL,AV.lt]) ?_,?_,?_⟩
      ·simp [ownLt,AO.cells,AV.ltL,AV.lt,Qx,Z0,Y6]
      ·simp [ltE,AV.lt];omega
      ·rw [ZO,List.length_append,Q3 v];exact Yo 3
    ·(try rw [h4]);(try simp only [tn1,tn2,tnn,zS] at h4)
     refine Qg ?_
     show ∃ z:List JV×RS×Nat,_∧_∧_
     exact ⟨(l,t,g),⟨by rw [← hq1,ZU,if_neg (by omega)],hq2,hq5⟩,⟨rfl,rfl,rfl,rfl,trivial⟩,rfl⟩
  ·rw [h1];(try simp only [tn1,tn2,tnn,zS] at h1)
   refine J7 ?_
   refine zon ?_
   refine Qd rfl ?_
   refine Qg ?_
   show ∃ z:List JV×RS×Nat,_∧_∧_
   exact ⟨(l,t,g),⟨by rw [← hq1,ZU,if_neg (by omega)],hq2,hq5⟩,⟨rfl,rfl,rfl,rfl,trivial⟩,rfl⟩
 ·skip
  obtain ⟨l,t,g⟩:=z
  obtain ⟨hz1,hz2,hz3⟩:=hz
  simp only at hz1 hz2 hz3 ⊢
  have hres:WT (Z2 n s) s r=(.mk 4 false {} e0 l [],VJ (XX s rb1 t)):=by unfold WT;rw [hz1]
  refine zu1 ?_
  refine zt rfl (zc rfl (Z6 hp (Gb rb1 s t p _ (Qt hp) hs (by decide) hz2))) ?_
  refine zon ?_
  refine Q0 ?_
  have hw:=X6 (s:=s) (lit:=rb1) hz2
  have hw1:=hw.1.ok.d0
  have hw2:=hw.1.ok.d1
  have hw3:=hw.1.ok.a
  refine Q4 ?_
  refine zv8 ?_
  refine Q0 ?_
  refine Zj 1 6 2 g 8 0 l.length rfl rfl rfl (Q7 l) (by rw [Nat.zero_mul,List.drop_zero,←XC,List.take_length]) (Vb l) (QG l) (by decide) (by rw [XC];omega) ?_
  refine Q4 ?_
  refine zv2 ?_
  refine zrt ?_
  rw [hres,Q3]
  exact Q0g (Q9 (Q18 rfl rfl rfl) rfl) (x:=ZE s (VJ (XX s rb1 t))) hcl (by simp [AO.cells,AV.ltL,AV.lt]) (by simp [rks,AV.lt,AV.ltL]) ⟨rfl,rfl⟩
end Lg
set_option maxRecDepth 20000
set_option maxHeartbeats 4000000
namespace Lg
open Go Go.Proofs Go.RowKit
variable [GLay]
theorem Q4E (v:JV) (key:ByteArray) (σ:List AO) (hb:v.m.length≤1000000):ACalls Tryz.prog 54 [.agg (Qf v),.str key] σ (FindR v key σ):=by
 refine QS Tryz.func54 rfl Tryz.ntmps54 (by rw [Tryz.results54];exact (.ck Tryz.isAgg28 Tryz.sizeOf28 (.t .nil))) (Nat.le_of_ble_eq_true rfl) (fun hcl hal=>?_)
 have hmc:=QK v.m
 rw [Q3 v]
 refine zw3 ?_
 refine Q0 ?_
 refine zw1 ?_
 refine Qa ?_
 refine Qs (ι:=Nat) (fun i=>i≤v.m.length∧∀ (j:Nat) q,j < i→v.m[j]? =some q→¬(v.kind=5∧q.1=key)) (fun i=>⟨[],[(1,.str key),(2,.ptr (σ.length+0) 0),(4,.ptr (σ.length+1) 0),(6,.int .i64 (i:Int))]⟩) (fun i=>σ++[_,_]) (fun i=>v.m.length - i) (0) (⟨Nat.zero_le _,fun j q hj=>absurd hj (by omega)⟩) ?_ rfl (fun i hi=>?_)
 ·exact ⟨rfl,rfl,rfl,rfl,rfl,trivial⟩
 obtain ⟨hi1,hi2⟩:=hi
 refine Q0 ?_
 refine zw5 ?_
 refine Q2 rfl (fun h1=>?_) (fun h1=>?_)
 ·(try rw [h1]);replace h1:=zcl h1
  obtain ⟨q,hq⟩:∃ q,v.m[i]? =some q:=⟨_,List.getElem?_eq_getElem (show i < v.m.length by omega)⟩
  refine Q1 ?_
  refine Q0 ?_
  refine Qa ?_
  refine zu4 ?_
  refine zsp 17 rfl (fun h2=>?_) fun h2=>?_
  ·rw [h2];replace h2:=zcl h2
   refine zv9 ?_
   refine Q2 rfl (fun h3=>?_) (fun h3=>?_)
   ·(try rw [h3]);replace h3:=zcl h3
    refine zu5 ?_
    rw [Q3 q.2]
    refine zv3 ?_
    refine zrt ?_
    have hf:Z7 v key=some q.2:=by rw [Z7,if_pos h2,Q5p (fun j y hj hy=>by have:=hi2 j y hj hy;simpa [h2] using this) hq (by simpa using h3)];rfl
    refine QH (Q9 (QI rfl rfl rfl) (Q9 (Z3 rfl) rfl)) hcl ?_ ⟨rfl,_,_,rfl,?_,?_⟩
    ·simp [rks,AV.lt,AV.ltL,Qx]
    ·rw [hf];show AVleL _ (Qf q.2);rw [Q3];exact AVleL.refl _
    ·rw [hf];rfl
   ·(try rw [h3]);replace h3:=zcl h3
    refine Q1 ?_
    refine Q4 ?_
    refine zv3 ?_
    refine ⟨i+1,σ.length+2,⟨by omega,fun j y hj hy=>?_⟩,by omega,by simp,⟨rfl,rfl,rfl,rfl,rfl,trivial⟩,Qh 2 hcl ?_,?_,Qo 2⟩
    ·by_cases e:j=i
     ·subst e;rw [hq] at hy;cases hy;exact fun h=>h3 h.2
     ·exact hi2 j y (by omega) hy
    ·simp [ownLt,AO.cells,AV.ltL,AV.lt,Qx]
    ·simp [ltE,AV.lt]
  ·rw [h2];replace h2:=zcl h2
   refine zv9 ?_
   refine Qd rfl ?_
   refine Q1 ?_
   refine Q4 ?_
   refine zv3 ?_
   refine ⟨i+1,σ.length+2,⟨by omega,fun j y hj hy=>?_⟩,by omega,by simp,⟨rfl,rfl,rfl,rfl,rfl,trivial⟩,Qh 2 hcl ?_,?_,Qo 2⟩
   ·by_cases e:j=i
    ·subst e;rw [hq] at hy;cases hy;exact fun h=>h2 h.1
    ·exact hi2 j y (by omega) hy
   ·simp [ownLt,AO.cells,AV.ltL,AV.lt,Qx]
   ·simp [ltE,AV.lt]
 ·(try rw [h1]);replace h1:=zcl h1
  refine Qg ?_
  refine zw3 ?_
  refine zrt ?_
  have hf:Z7 v key=none:=by
   by_cases hk:v.kind=5
   ·rw [Z7,if_pos hk,Q5o (fun j y hy=>by have:=hi2 j y (by have:=(List.getElem?_eq_some_iff.1 hy).1;omega) hy;simpa [hk] using this)];rfl
   ·simp [Z7,hk]
  refine QH (Q9 (QI rfl rfl rfl) (Q9 (Z3 rfl) rfl)) hcl ?_ ⟨rfl,_,_,rfl,?_,?_⟩
  ·simp [rks,AV.lt,AV.ltL,Qx]
  ·rw [hf];exact Qdi XA Xt
  ·rw [hf];rfl
end Lg
