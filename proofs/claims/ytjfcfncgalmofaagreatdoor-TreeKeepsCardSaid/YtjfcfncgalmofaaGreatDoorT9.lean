/- A part of the proof of The tree's Apply, and what the reference says of it: the same answer and the same tree.: W20 W17 W21 W22 A21 X4 J1 Q1 Lg35 E0 Qz M2 M3 X2. -/
import Derived.Test.YtjfcfncgalmofaaGreatDoorT8
import Derived.Test.YtjfcfncgalmofaaGreatDoorT4
import Derived.Test.YtjfcfncgalmofaaGreatDoorT3
import Derived.Test.YtjfcfncgalmofaaGreatDoorT7
import Derived.Test.YtjfcfncgalmofaaGreatDoorT5
import Derived.Test.YtjfcfncgalmofaaGreatDoorT6
set_option linter.unusedVariables false
set_option linter.unusedSimpArgs false
set_option linter.unusedSectionVars false
set_option maxRecDepth 20000
set_option maxHeartbeats 4000000
namespace Lg
open Go Go.Proofs Go.RowKit
variable [GLay]
theorem Q7J (s:ByteArray) (n:Nat) (ih:∀ (t:RS) (p:Nat) (τ:List AO),τ[p]? =some (ZE s t)→ROK s t→s.size+1 < n+t.a→ACalls Tryz.prog 43 [.ptr p 0] τ (Ret (.agg (Qf (Z2 n s t).1)) (τ.set p (ZE s (Z2 n s t).2)))) (r:RS) (p:Nat) (σ:List AO) (hσ:σ[p]? =some (ZE s r)) (hs:s.size≤100000) (h:ROK s r) (hb:r.bad=0) (ha:r.a < s.size) (hn:s.size+1 < n+r.a+1):ACalls Tryz.prog 76 [.ptr p 0] σ (Ret (.agg (Qf (WV (Z2 n s) s r).1)) (σ.set p (ZE s (WV (Z2 n s) s r).2))):=by
 have hp:p < σ.length:=(List.getElem?_eq_some_iff.1 hσ).1
 have ho:=Ke h hb ha
 have hd0:=h.d0
 have hd1:=h.d1
 refine QS Tryz.func76 rfl Tryz.ntmps76 (by rw [Tryz.results76];exact (.ck Tryz.isAgg28 Tryz.sizeOf28 .nil)) (Nat.le_of_ble_eq_true rfl) (fun hcl hal=>?_)
 refine Qn (QO hσ) ?_
 refine zw1 ?_
 refine zw3 ?_
 refine Q0 ?_
 refine VX 1 (bs':=[.int .i64 5,.bool false,.bool false,.str e0,.int .i64 0,.str e0,.sl false 8 (Q7 []),.sl false 9 (Q5 [])]) rfl ⟨AVle.refl _,AVle.refl _,AVle.refl _,AVle.refl _,AVle.refl _,AVle.refl _,XA,Xt,trivial⟩ ?_
 refine Q4 ?_
 refine zg1 ?_
 refine zt rfl (zc rfl (Z6 hp (Q82 s r p _ (Qt hp) hs h))) ?_
 refine zon ?_
 refine Ui (ι:=List (ByteArray×JV)×RS×List AO) (fun z=>Xr (Z2 n s) s (s.size+2) [] (ZQ s r)=(z.1,z.2.1)∧ROK s z.2.1∧r.a+1≤z.2.1.a) (fun z=>⟨[],[(0,.ptr p 0),(2,.ptr (σ.length+0) 0),(3,.ptr (σ.length+1) 0)]⟩) (fun z=>σ.set p (ZE s z.2.1)++([.box [.int .i64 0,.bool false,.bool false,.str e0,.int .i64 0,.str e0,.nils,.nils],.box [.int .i64 5,.bool false,.bool false,.str e0,.int .i64 0,.str e0,.sl false 8 (Q7 []),.sl false 9 (Q5 z.1)]]++z.2.2)) ?_ (fun z hz=>?_)
 ·skip
  refine Qs (ι:=Nat×List (ByteArray×JV)×RS) (fun q=>Xr (Z2 n s) s q.1 q.2.1 q.2.2=Xr (Z2 n s) s (s.size+2) [] (ZQ s r)∧ROK s q.2.2∧Qw q.2.1≤q.2.2.a∧s.size+2≤q.1+q.2.2.a∧r.a+1≤q.2.2.a) (fun q=>⟨[],[(0,.ptr p 0),(2,.ptr (σ.length+0) 0),(3,.ptr (σ.length+1) 0)]⟩) (fun q=>σ.set p (ZE s q.2.2)++[.box [.int .i64 0,.bool false,.bool false,.str e0,.int .i64 0,.str e0,.nils,.nils],.box [.int .i64 5,.bool false,.bool false,.str e0,.int .i64 0,.str e0,.sl false 8 (Q7 []),.sl false 9 (Q5 q.2.1)]]) (fun q=>q.1) ((s.size+2,[],ZQ s r)) (⟨rfl,ho.1.ok,by simp only [Qw];omega,by simp only;omega,ho.2.1⟩) ?_ rfl (fun q hq=>?_)
  ·exact ⟨rfl,rfl,rfl,rfl,trivial⟩
  obtain ⟨k,m,t⟩:=q
  obtain ⟨hq1,hq2,hq3,hq4,hq5⟩:=hq
  simp only at hq1 hq2 hq3 hq4 hq5 ⊢
  have hta:=hq2.a
  have hll:=GP m
  have hlc:=QK m
  obtain ⟨k,rfl⟩:∃ k',k=k'+1:=⟨k - 1,by omega⟩
  refine QE (ι:=Unit) (fun b=>t.bad=0∧(¬pkv s t.a t.bad=125∨0 < m.length)) (fun b=>⟨[],[(0,.ptr p 0),(2,.ptr (σ.length+0) 0),(3,.ptr (σ.length+1) 0)]⟩) (fun b=>σ.set p (ZE s t)++[.box [.int .i64 0,.bool false,.bool false,.str e0,.int .i64 0,.str e0,.nils,.nils],.box [.int .i64 5,.bool false,.bool false,.str e0,.int .i64 0,.str e0,.sl false 8 (Q7 []),.sl false 9 (Q5 m)]]) ?_ (fun b hj=>?_)
  ·skip
   refine zu6 ?_
   refine zsp 19 rfl (fun h1=>?_) fun h1=>?_
   ·rw [h1];(try simp only [tn1,tn2,tnn,zS] at h1)
    refine zg1 ?_
    refine ztG rfl rfl (zc rfl (W7 s t p _ (Qt hp))) ?_
    refine zg2 ?_
    refine zsp 23 rfl (fun h2=>?_) fun h2=>?_
    ·rw [h2];(try simp only [tn1,tn2,tnn,zS] at h2)
     refine zv6 ?_
     refine Qj rfl ?_
     refine Q1 ?_
     exact ⟨(),⟨by omega,by omega⟩,⟨rfl,rfl,rfl,rfl,trivial⟩,rfl⟩
    ·rw [h2];(try simp only [tn1,tn2,tnn,zS] at h2)
     refine zv6 ?_
     refine Q2 rfl (fun h3=>?_) (fun h3=>?_)
     ·(try rw [h3]);(try simp only [tn1,tn2,tnn,zS] at h3)
      refine Q1 ?_
      exact ⟨(),⟨by omega,by omega⟩,⟨rfl,rfl,rfl,rfl,trivial⟩,rfl⟩
     ·(try rw [h3]);(try simp only [tn1,tn2,tnn,zS] at h3)
      refine Qg ?_
      show ∃ z:List (ByteArray×JV)×RS×List AO,_∧_∧_
      exact ⟨(m,t,[]),⟨by rw [← hq1,Xr,if_neg (by omega)],hq2,hq5⟩,⟨rfl,rfl,rfl,rfl,trivial⟩,rfl⟩
   ·rw [h1];(try simp only [tn1,tn2,tnn,zS] at h1)
    refine J7 ?_
    refine zon ?_
    refine Qd rfl ?_
    refine Qg ?_
    show ∃ z:List (ByteArray×JV)×RS×List AO,_∧_∧_
    exact ⟨(m,t,[]),⟨by rw [← hq1,Xr,if_neg (by omega)],hq2,hq5⟩,⟨rfl,rfl,rfl,rfl,trivial⟩,rfl⟩
  ·skip
   obtain ⟨htb,htp⟩:=hj
   refine Qa ?_
   refine Q0 ?_
   have hb1:=Xq hq2
   have ht1:=WW hb1.ok
   have hk2:=QcQ (m:=m) hq2
   have hb2:=Xq hk2.1.ok
   have hk3:=Q17 (rv:=Z2 n s) (fun r h=>JL hs n r h) (m:=m) hq2
   have hka:=hk3.1.a
   have hku:=hk3.1.ok.a
   have hkd:=hk3.2.2.1
   refine Q4 ?_
   refine zg1 ?_
   refine zt rfl (zc rfl (Z6 hp (GD s t p _ (Qt hp) hs hq2))) ?_
   refine zon ?_
   refine zw5 ?_
   refine zu1 ?_
   refine zt rfl (zc rfl (Z6 hp (Q8T s (Qu s t) p _ (Qt hp) hs hb1.ok))) ?_
   refine zv1 ?_
   refine zu2 ?_
   refine zt rfl (zc rfl ((by have hfd:=FindR.ret (Q4E (mkO m) (QL s (Qu s t)).1 (σ.set p (ZE s (QL s (Qu s t)).2)++[.box [.int .i64 0,.bool false,.bool false,.str e0,.int .i64 0,.str e0,.nils,.nils],.box [.int .i64 5,.bool false,.bool false,.str e0,.int .i64 0,.str e0,.sl false 8 (Q7 []),.sl false 9 (Q5 m)]]) (by show m.length≤_;omega));rw [Q3 (mkO m)] at hfd;exact hfd))) ?_
   rw [Q3 ((Z7 (mkO m) (QL s (Qu s t)).1).getD vz)]
   refine zv6 ?_
   refine QE (ι:=Unit) (fun b=>True) (fun b=>⟨[],[(0,.ptr p 0),(2,.ptr (σ.length+0) 0),(3,.ptr (σ.length+1) 0),(5,.str (QL s (Qu s t)).1)]⟩) (fun b=>σ.set p (ZE s (rk2 s m t))++[.box [.int .i64 0,.bool false,.bool false,.str e0,.int .i64 0,.str e0,.nils,.nils],.box [.int .i64 5,.bool false,.bool false,.str e0,.int .i64 0,.str e0,.sl false 8 (Q7 []),.sl false 9 (Q5 m)],.box [.int .i64 ((Z7 (mkO m) (QL s (Qu s t)).1).getD vz).kind,.bool ((Z7 (mkO m) (QL s (Qu s t)).1).getD vz).b,.bool ((Z7 (mkO m) (QL s (Qu s t)).1).getD vz).n.neg,.str ((Z7 (mkO m) (QL s (Qu s t)).1).getD vz).n.digits,.int .i64 ((Z7 (mkO m) (QL s (Qu s t)).1).getD vz).n.exp,.str ((Z7 (mkO m) (QL s (Qu s t)).1).getD vz).s,.sl false 8 (Q7 ((Z7 (mkO m) (QL s (Qu s t)).1).getD vz).l),.sl false 9 (Q5 ((Z7 (mkO m) (QL s (Qu s t)).1).getD vz).m)]]) ?_ (fun b hj=>?_)
   ·skip
    refine zw1 ?_
    refine Q2 rfl (fun h4=>?_) (fun h4=>?_)
    ·(try rw [h4]);(try simp only [tn1,tn2,tnn,zS] at h4)
     refine Q4 ?_
     refine zg2 ?_
     refine zt rfl (zc rfl (Z6 hp (JO s (QL s (Qu s t)).2 p _ (Qt hp) ((Qu s t).a:Int) 4))) ?_
     refine zon ?_
     refine ⟨(),trivial,⟨rfl,rfl,rfl,rfl,rfl,trivial⟩,?_⟩
     unfold rk2;first|(rw [if_pos (by assumption)];rfl)|(rw [if_neg (by simp only [Bool.not_eq_true];assumption)];rfl)|rfl
    ·(try rw [h4]);(try simp only [tn1,tn2,tnn,zS] at h4)
     refine Q1 ?_
     refine ⟨(),trivial,⟨rfl,rfl,rfl,rfl,rfl,trivial⟩,?_⟩
     unfold rk2;first|(rw [if_pos (by assumption)];rfl)|(rw [if_neg (by simp only [Bool.not_eq_true];assumption)];rfl)|rfl
   ·skip
    refine zu1 ?_
    refine zt rfl (zc rfl (Z6 hp (GD s (rk2 s m t) p _ (Qt hp) hs hk2.1.ok))) ?_
    refine zon ?_
    refine zu1 ?_
    refine zt rfl (zc rfl (Z6 hp (Gb rb3 s (Qu s (rk2 s m t)) p _ (Qt hp) hs (by decide) hb2.ok))) ?_
    refine zon ?_
    refine zu1 ?_
    refine zt rfl (zc rfl (Z6 hp (ih (XV s m t).2 p _ (Qt hp) hk3.1.ok (by omega)))) ?_
    have hv:=JL hs n (XV s m t).2 hk3.1.ok
    have hva:=hv.fwd.a
    have hvk:=hv.fwd.ok
    have hua:=hv.fwd.ok.a
    have hvs:=hv.size
    clear hv
    generalize hx1:(Z2 n s (XV s m t).2).1=v at hvs ⊢
    generalize hx2:(Z2 n s (XV s m t).2).2=u at hva hvk hua hvs ⊢
    have hl5:=UD m (XV s m t).1 v
    rw [Q3 v]
    refine zv2 ?_
    refine zw1 ?_
    refine Ui (ι:=Nat) (fun j=>QU m (QL s (Qu s t)).1=j∧j≤m.length) (fun j=>⟨[],[(0,.ptr p 0),(2,.ptr (σ.length+0) 0),(3,.ptr (σ.length+1) 0),(5,.str (QL s (Qu s t)).1),(8,.ptr (σ.length+3) 0),(9,.int .i64 (j:Int))]⟩) (fun j=>σ.set p (ZE s u)++[.box [.int .i64 0,.bool false,.bool false,.str e0,.int .i64 0,.str e0,.nils,.nils],.box [.int .i64 5,.bool false,.bool false,.str e0,.int .i64 0,.str e0,.sl false 8 (Q7 []),.sl false 9 (Q5 m)],.box [.int .i64 ((Z7 (mkO m) (QL s (Qu s t)).1).getD vz).kind,.bool ((Z7 (mkO m) (QL s (Qu s t)).1).getD vz).b,.bool ((Z7 (mkO m) (QL s (Qu s t)).1).getD vz).n.neg,.str ((Z7 (mkO m) (QL s (Qu s t)).1).getD vz).n.digits,.int .i64 ((Z7 (mkO m) (QL s (Qu s t)).1).getD vz).n.exp,.str ((Z7 (mkO m) (QL s (Qu s t)).1).getD vz).s,.sl false 8 (Q7 ((Z7 (mkO m) (QL s (Qu s t)).1).getD vz).l),.sl false 9 (Q5 ((Z7 (mkO m) (QL s (Qu s t)).1).getD vz).m)],.box [.int .i64 v.kind,.bool v.b,.bool v.n.neg,.str v.n.digits,.int .i64 v.n.exp,.str v.s,.sl false 8 (Q7 v.l),.sl false 9 (Q5 v.m)]]) ?_ (fun j hz=>?_)
    ·skip
     refine Qs (ι:=Nat) (fun j=>j≤m.length∧QU m (QL s (Qu s t)).1=j+QU (m.drop j) (QL s (Qu s t)).1) (fun j=>⟨[],[(0,.ptr p 0),(2,.ptr (σ.length+0) 0),(3,.ptr (σ.length+1) 0),(5,.str (QL s (Qu s t)).1),(8,.ptr (σ.length+3) 0),(9,.int .i64 (j:Int))]⟩) (fun j=>σ.set p (ZE s u)++[.box [.int .i64 0,.bool false,.bool false,.str e0,.int .i64 0,.str e0,.nils,.nils],.box [.int .i64 5,.bool false,.bool false,.str e0,.int .i64 0,.str e0,.sl false 8 (Q7 []),.sl false 9 (Q5 m)],.box [.int .i64 ((Z7 (mkO m) (QL s (Qu s t)).1).getD vz).kind,.bool ((Z7 (mkO m) (QL s (Qu s t)).1).getD vz).b,.bool ((Z7 (mkO m) (QL s (Qu s t)).1).getD vz).n.neg,.str ((Z7 (mkO m) (QL s (Qu s t)).1).getD vz).n.digits,.int .i64 ((Z7 (mkO m) (QL s (Qu s t)).1).getD vz).n.exp,.str ((Z7 (mkO m) (QL s (Qu s t)).1).getD vz).s,.sl false 8 (Q7 ((Z7 (mkO m) (QL s (Qu s t)).1).getD vz).l),.sl false 9 (Q5 ((Z7 (mkO m) (QL s (Qu s t)).1).getD vz).m)],.box [.int .i64 v.kind,.bool v.b,.bool v.n.neg,.str v.n.digits,.int .i64 v.n.exp,.str v.s,.sl false 8 (Q7 v.l),.sl false 9 (Q5 v.m)]]) (fun j=>m.length - j) (0) (⟨Nat.zero_le _,by simp⟩) ?_ rfl (fun j hj=>?_)
     ·exact ⟨rfl,rfl,rfl,rfl,rfl,rfl,rfl,trivial⟩
     obtain ⟨hj1,hj2⟩:=hj
     refine Q0 ?_
     refine zu6 ?_
     refine zsp 59 rfl (fun h5=>?_) fun h5=>?_
     ·rw [h5];(try simp only [tn1,tn2,tnn,zS] at h5)
      obtain ⟨q,hq⟩:∃ q,m[j]? =some q:=⟨_,List.getElem?_eq_getElem (show j < m.length by omega)⟩
      refine zv9 ?_
      refine Q2 rfl (fun h6=>?_) (fun h6=>?_)
      ·(try rw [h6]);(try simp only [tn1,tn2,tnn,zS] at h6)
       refine Q1 ?_
       refine Qa ?_
       refine Q4 ?_
       refine zv3 ?_
       refine ⟨j+1,σ.length+4,⟨by omega,by rw [hj2,Q66 hq h6];omega⟩,by omega,by simp,⟨rfl,rfl,rfl,rfl,rfl,rfl,rfl,trivial⟩,Xu (x:=ZE s u) 4 hcl (by simp [AO.cells,AV.ltL,AV.lt]) ?_,?_,Yo 4⟩
       ·simp [ownLt,AO.cells,AV.ltL,AV.lt]
       ·simp [ltE,AV.lt];omega
      ·(try rw [h6]);(try simp only [tn1,tn2,tnn,zS] at h6)
       refine Qg ?_
       show ∃ z:Nat,_∧_∧_
       exact ⟨j,⟨by rw [hj2,Q8r hq (by assumption)];rfl,hj1⟩,⟨rfl,rfl,rfl,rfl,rfl,rfl,rfl,trivial⟩,rfl⟩
     ·rw [h5];(try simp only [tn1,tn2,tnn,zS] at h5)
      refine zv9 ?_
      refine Qd rfl ?_
      refine Qg ?_
      show ∃ z:Nat,_∧_∧_
      exact ⟨j,⟨by rw [hj2,Q65 (by omega)];rfl,hj1⟩,⟨rfl,rfl,rfl,rfl,rfl,rfl,rfl,trivial⟩,rfl⟩
    ·skip
     obtain ⟨hkk,hj1⟩:=hz
     have htl:(m.take j).length=j:=by rw [List.length_take];omega
     have hdl:(m.drop j).length=m.length - j:=List.length_drop ..
     have hrow:UB ((QL s (Qu s t)).1,v)=[.str (QL s (Qu s t)).1,.int .i64 v.kind,.bool v.b,.bool v.n.neg,.str v.n.digits,.int .i64 v.n.exp,.str v.s,.sl false 8 (Q7 v.l),.sl false 9 (Q5 v.m)]:=by rw [UB,Q3]
     refine Q0 ?_
     refine Qb #[0,0,3,7,0,16,0,112,255,511] Tryz.mixed (by decide +kernel) (by decide +kernel) ?_
     refine zd1 ?_
     refine zp1 ?_
     refine zd1 ?_
     refine yE rfl rfl (WK YM (n:=4) (cs:=[.str (QL s (Qu s t)).1,.int .i64 v.kind,.bool v.b,.bool v.n.neg,.str v.n.digits,.int .i64 v.n.exp,.str v.s,.sl false 8 (Q7 v.l),.sl false 9 (Q5 v.m)]) rfl rfl (UG rfl Tryz.underlying26 Tryz.sizeOf67 Tryz.zeroValue67 rfl (by decide) (by decide) rfl rfl rfl)) (⟨.inl rfl,trivial⟩) (trivial) ?_
     refine zd1 ?_
     refine yP rfl rfl (zoa) (⟨.inr (ZS rfl Tryz.isAgg26 (Jq rfl rfl)),trivial⟩) ?_
     refine zd1 ?_
     refine yA rfl rfl (fun _=>(by first|exact ZT _ _ rfl Tryz.underlying26 Tryz.sizeOf67 rfl (by first|exact ⟨_,rfl⟩|rfl) (by first|exact ⟨_,rfl⟩|rfl) (by omega) (by omega) (by omega)|exact QC _ _ rfl Tryz.underlying26 Tryz.sizeOf67 rfl GET (by first|exact ⟨_,rfl⟩|rfl) (by first|exact ⟨_,rfl⟩|rfl) (by omega) (by omega) (by omega))) ?_
     simp only [Int.toNat_natCast,Q3f]
     refine yE rfl rfl (Qv YM 4 (sz:=9) (m:=(m.drop j).length) (len:=1) (cs:=(Q5 (m.drop j)).flatten) rfl (.inr ⟨_,rfl⟩) Tryz.underlying26 Tryz.underlying26 Tryz.type67 rfl rfl rfl (by decide) rfl rfl rfl (by rw [← QK (m.drop j)];rfl) rfl (Q7F _) (by show (1+(m.drop j).length) * 128≤_;omega) (by omega) (Zx _)) (⟨.inl rfl,⟨.inl rfl,trivial⟩⟩) (⟨rfl,trivial⟩) ?_
     refine zd1 ?_
     refine RP.nil rfl ?_
     refine zsr ?_
     refine zt rfl (Jr rfl Tryz.underlying26 Tryz.sizeOf67) ?_
     refine zg3 ?_
     refine zt rfl ((by first|exact ZT _ _ rfl Tryz.underlying26 Tryz.sizeOf67 rfl (by first|exact ⟨_,rfl⟩|rfl) (by first|exact ⟨_,rfl⟩|rfl) (by omega) (by omega) (by omega)|exact QC _ _ rfl Tryz.underlying26 Tryz.sizeOf67 rfl GET (by first|exact ⟨_,rfl⟩|rfl) (by first|exact ⟨_,rfl⟩|rfl) (by omega) (by omega) (by omega))) ?_
     simp only [Int.toNat_natCast]
     rw [Q5H]
     refine zt rfl (Fv YM (n:=5) rfl (sz:=9) (m:=(m.take j).length) (cs:=(Q5 (m.take j)).flatten) rfl (.inr ⟨_,rfl⟩) Tryz.underlying26 Tryz.underlying26 Tryz.type67 rfl rfl rfl (by decide) (.inr rfl) (by rw [← QK (m.take j)];rfl) rfl (Q7F _) (by show (m.take j).length * 128≤_;omega) (by omega) (Zx _)) ?_
     refine zg1 ?_
     refine zt rfl (Qv YM 5 (sz:=9) (m:=1+(m.drop j).length) (len:=(m.take j).length) (cs:=[.str (QL s (Qu s t)).1,.int .i64 v.kind,.bool v.b,.bool v.n.neg,.str v.n.digits,.int .i64 v.n.exp,.str v.s,.sl false 8 (Q7 v.l),.sl false 9 (Q5 v.m)]++(Q5 (m.drop j)).flatten) rfl (.inr ⟨_,rfl⟩) Tryz.underlying26 Tryz.underlying26 Tryz.type67 rfl rfl rfl (by decide) rfl rfl (Zx _).symm (Q6a YM 4 rfl (by rw [List.length_append,Zx];simp only [List.length_cons,List.length_nil];omega)) rfl (by rw [Gm,Q7F];rfl) (by show ((m.take j).length+(1+(m.drop j).length)) * 128≤_;omega) (by omega) (by rw [List.length_append,Zx];simp only [List.length_cons,List.length_nil];omega)) ?_
     refine zg1 ?_
     refine ztN rfl rfl (Yg (r:=[.int .i64 5,.bool false,.bool false,.str e0,.int .i64 0,.str e0,.sl false 8 (Q7 []),.arr (σ.length+5) 1 9 0 ((m.take j).length+(1+(m.drop j).length))]) rfl Tryz.sizeOf26 rfl rfl rfl rfl rfl (by decide)) ?_
     refine zon ?_
     refine Q0 ?_
     refine Q0 ?_
     refine Zj 1 7 5 1 9 0 ((m.take j).length+(1+(m.drop j).length)) rfl rfl rfl (Q5 (Jc m (QL s (Qu s t)).1 v)) (by rw [Nat.zero_mul,List.drop_zero,List.take_of_length_le (by simp only [List.length_append,Zx,List.length_cons,List.length_nil];omega),Q5F,hkk,hrow]) (VB _) (by rw [QK,Q8s];omega) (by decide) (by simp only [List.length_append,Zx,List.length_cons,List.length_nil];omega) ?_
     refine Q4 ?_
     refine zg1 ?_
     refine zt rfl (zc rfl (W7 s u p _ (Qt hp))) ?_
     refine zv1 ?_
     refine Q2 rfl (fun h7=>?_) (fun h7=>?_)
     ·(try rw [h7]);(try simp only [tn1,tn2,tnn,zS] at h7)
      refine Qg ?_
      show ∃ z:List (ByteArray×JV)×RS×List AO,_∧_∧_
      exact ⟨(Jc m (QL s (Qu s t)).1 v,u,_),⟨by rw [← hq1,Xr,if_pos ⟨htb,htp⟩,hx1,hx2,if_neg (by omega)];rfl,hvk,by simp only;omega⟩,⟨rfl,rfl,rfl,rfl,trivial⟩,rfl⟩
     ·(try rw [h7]);(try simp only [tn1,tn2,tnn,zS] at h7)
      refine Q1 ?_
      refine Q4 ?_
      refine zv8 ?_
      have hstep:Xr (Z2 n s) s (k+1) m t=Xr (Z2 n s) s k (Jc m (QL s (Qu s t)).1 v) (Xg u):=by rw [Xr,if_pos ⟨htb,htp⟩,hx1,hx2,if_pos (by omega)];rfl
      refine ⟨(k,Jc m (QL s (Qu s t)).1 v,Xg u),σ.length+2,⟨by rw [← hq1,hstep],(JJ hvk (by omega)).ok,?_,by simp only [Xg];omega,by simp only [Xg];omega⟩,by simp only;omega,by simp,⟨rfl,rfl,rfl,rfl,trivial⟩,Xu (x:=ZE s (Xg u)) 2 hcl (by simp [AO.cells,AV.ltL,AV.lt]) ?_,?_,Yo 2⟩
      ·show Qw (Jc m (XV s m t).1 v)≤_;rw [hl5];simp only [Xg];omega
      ·simp [ownLt,AO.cells,AV.ltL,AV.lt,Qx]
      ·simp [ltE,AV.lt];omega
 ·skip
  obtain ⟨m,t,w⟩:=z
  obtain ⟨hz1,hz2,hz3⟩:=hz
  simp only at hz1 hz2 hz3 ⊢
  have hres:WV (Z2 n s) s r=(mkO m,VJ (XX s rb2 t)):=by unfold WV;rw [hz1]
  refine zu1 ?_
  refine zt rfl (zc rfl (Z6 hp (Gb rb2 s t p _ (Qt hp) hs (by decide) hz2))) ?_
  refine zon ?_
  refine Q0 ?_
  have hw:=X6 (s:=s) (lit:=rb2) hz2
  have hw1:=hw.1.ok.d0
  have hw2:=hw.1.ok.d1
  have hw3:=hw.1.ok.a
  refine Q4 ?_
  refine zv8 ?_
  refine zw2 ?_
  refine zrt ?_
  rw [hres,Q3]
  exact Q0g (Q9 (Q18 rfl rfl rfl) rfl) (x:=ZE s (VJ (XX s rb2 t))) hcl (by simp [AO.cells,AV.ltL,AV.lt]) (by simp [rks,AV.lt,AV.ltL]) ⟨rfl,rfl⟩
end Lg
set_option maxRecDepth 20000
set_option maxHeartbeats 4000000
namespace Lg
open Go Go.Proofs Go.RowKit
variable [GLay]
theorem Q19 (s:ByteArray) (σ:List AO) (hs:s.size≤1000000):ACalls Tryz.prog 81 [.str s] σ (Ret (.tup [.agg (Y1 (YH s).1),.int .i64 (YH s).2]) σ):=by
 refine QS Tryz.func81 rfl Tryz.ntmps81 (by rw [Tryz.results81];exact (.ck Tryz.isAgg24 Tryz.sizeOf24 (.t .nil))) (Nat.le_of_ble_eq_true rfl) (fun hcl hal=>?_)
 refine zw2 ?_
 refine zu1 ?_
 refine zt rfl (zc rfl (Q71 s 0 _ hs (by omega))) ?_
 refine zv5 ?_
 refine Q0 ?_
 refine zu3 ?_
 refine zsp 25 rfl (fun h1=>?_) fun h1=>?_
 ·rw [h1];(try simp only [tn1,tn2,tm1,tnn,zS] at h1)
  refine zv5 ?_
  refine Qj rfl ?_
  refine zw3 ?_
  refine zrt ?_
  have hE:YH s=({},1):=by unfold YH;rw [if_pos (.inl (by simpa using h1))]
  rw [hE];exact QH (Q9 (QI rfl rfl rfl) (Q9 (Z3 rfl) rfl)) hcl (by simp [rks,AV.lt,AV.ltL,Qx,Y1]) (Q8 rfl)
 ·rw [h1];(try simp only [tn1,tn2,tm1,tnn,zS] at h1)
  refine zv5 ?_
  refine Q2 rfl (fun h2=>?_) (fun h2=>?_)
  ·(try rw [h2]);(try simp only [tn1,tn2,tm1,tnn,zS] at h2)
   refine zw3 ?_
   refine zrt ?_
   have hE:YH s=({},1):=by unfold YH;rw [if_pos (.inr (by omega))]
   rw [hE];exact QH (Q9 (QI rfl rfl rfl) (Q9 (Z3 rfl) rfl)) hcl (by simp [rks,AV.lt,AV.ltL,Qx,Y1]) (Q8 rfl)
  ·(try rw [h2]);(try simp only [tn1,tn2,tm1,tnn,zS] at h2)
   refine Q1 ?_
   refine zw1 ?_
   refine zw1 ?_
   refine zw1 ?_
   refine zw1 ?_
   refine zw1 ?_
   refine zw1 ?_
   refine zw1 ?_
   refine Q0 ?_
   refine zw1 ?_
   refine Qa ?_
   refine Qs (ι:=Nat×NSt) (fun q=>nloop s q.1 q.2=nloop s 0 Fu∧q.1≤s.size∧(0≤q.2.behind∧q.2.behind≤q.1)∧q.2.digits.size≤q.1∧0≤q.2.exp∧q.2.exp≤1000000) (fun q=>⟨[],[(0,.str s),(2,.ptr (σ.length+0) 0),(6,.ptr (σ.length+1) 0),(7,.str q.2.digits),(8,.int .i64 q.2.behind),(9,.bool q.2.point),(10,.int .i64 q.2.exp),(11,.bool q.2.down),(12,.bool q.2.power),(13,.int .i64 (q.1:Int))]⟩) (fun q=>σ++[.box [.bool false,.str e0,.int .i64 0],.box [.bool q.2.neg,.str e0,.int .i64 0]]) (fun q=>s.size - q.1) ((0,Fu)) (⟨rfl,Nat.zero_le _,⟨Int.le_refl _,Int.le_refl _⟩,Nat.le_refl _,Int.le_refl _,by decide⟩) ?_ rfl (fun q hq=>?_)
   ·exact ⟨rfl,rfl,rfl,rfl,rfl,rfl,rfl,rfl,rfl,rfl,rfl,trivial⟩
   obtain ⟨i,ng,dn,pt,pw,d,b,x⟩:=q
   obtain ⟨hq1,hq2,hq3,hq4,hq5,hq6⟩:=hq
   simp only at hq1 hq2 hq3 hq4 hq5 hq6 ⊢
   have hbl:=J0 s i
   have h1s:(ByteArray.mk #[u8b ((bat s i).toNat:Int)]).size=1:=rfl
   refine Q0 ?_
   refine zw4 ?_
   refine Q2 rfl (fun h3=>?_) (fun h3=>?_)
   ·(try rw [h3]);(try simp only [tn1,tn2,tm1,tnn,zS] at h3)
    refine Q1 ?_
    refine Q0 ?_
    refine Qa ?_
    refine zu3 ?_
    simp only [Int.toNat_natCast]
    refine zv1 ?_
    refine zw1 ?_
    refine Q2 rfl (fun h4=>?_) (fun h4=>?_)
    ·(try rw [h4]);(try simp only [tn1,tn2,tm1,tnn,zS] at h4)
     subst h4
     refine Q0 ?_
     refine zw2 ?_
     refine Q2 rfl (fun h5=>?_) (fun h5=>?_)
     ·(try rw [h5]);(try simp only [tn1,tn2,tm1,tnn,zS] at h5)
      refine Q4 ?_
      refine zv1 ?_
      refine zu3 ?_
      refine zsp 46 rfl (fun h6=>?_) fun h6=>?_
      ·rw [h6];(try simp only [tn1,tn2,tm1,tnn,zS] at h6)
       refine zv3 ?_
       refine Q2 rfl (fun h7=>?_) (fun h7=>?_)
       ·(try rw [h7]);(try simp only [tn1,tn2,tm1,tnn,zS] at h7)
        refine Q4 ?_
        refine zv8 ?_
        refine Q4 ?_
        refine zv3 ?_
        (exfalso;omega;done)
       ·(try rw [h7]);(try simp only [tn1,tn2,tm1,tnn,zS] at h7)
        refine Q1 ?_
        refine Q4 ?_
        refine zv3 ?_
        (exfalso;omega;done)
      ·rw [h6];(try simp only [tn1,tn2,tm1,tnn,zS] at h6)
       refine zv3 ?_
       refine Qd rfl ?_
       refine Q1 ?_
       refine Q4 ?_
       refine zv3 ?_
       exact ⟨(i+1,⟨ng,true,pt,true,d,b,x⟩),σ.length+2,⟨by rw [← hq1];exact (nl1 (by omega) (by omega)).symm,by simp only;omega,by simp only;omega,by simp only [ByteArray.size_append];omega,by simp only;omega,by simp only;omega⟩,by simp only;omega,by simp,⟨rfl,rfl,rfl,rfl,rfl,rfl,rfl,rfl,rfl,rfl,rfl,trivial⟩,Qh 2 hcl (by simp [ownLt,AO.cells,AV.ltL,AV.lt]),by simp [ltE,AV.lt],Qo 2⟩
     ·(try rw [h5]);(try simp only [tn1,tn2,tm1,tnn,zS] at h5)
      refine Q1 ?_
      refine zu3 ?_
      refine zsp 46 rfl (fun h8=>?_) fun h8=>?_
      ·rw [h8];(try simp only [tn1,tn2,tm1,tnn,zS] at h8)
       refine zv3 ?_
       refine Q2 rfl (fun h9=>?_) (fun h9=>?_)
       ·(try rw [h9]);(try simp only [tn1,tn2,tm1,tnn,zS] at h9)
        refine Q4 ?_
        refine zv8 ?_
        refine Q4 ?_
        refine zv3 ?_
        exact ⟨(i+1,⟨ng,dn,pt,true,d,b,min (10 * x+(bat s i).toNat - 48) 1000000⟩),σ.length+2,⟨by rw [← hq1];exact (nl2 (by omega) (by omega)).symm,by simp only;omega,by simp only;omega,by simp only [ByteArray.size_append];omega,by simp only;omega,by simp only;omega⟩,by simp only;omega,by simp,⟨rfl,rfl,rfl,rfl,rfl,rfl,rfl,rfl,rfl,rfl,rfl,trivial⟩,Qh 2 hcl (by simp [ownLt,AO.cells,AV.ltL,AV.lt]),by simp [ltE,AV.lt],Qo 2⟩
       ·(try rw [h9]);(try simp only [tn1,tn2,tm1,tnn,zS] at h9)
        refine Q1 ?_
        refine Q4 ?_
        refine zv3 ?_
        exact ⟨(i+1,⟨ng,dn,pt,true,d,b,x⟩),σ.length+2,⟨by rw [← hq1];exact (nl3 (by omega) (by omega) (by omega)).symm,by simp only;omega,by simp only;omega,by simp only [ByteArray.size_append];omega,by simp only;omega,by simp only;omega⟩,by simp only;omega,by simp,⟨rfl,rfl,rfl,rfl,rfl,rfl,rfl,rfl,rfl,rfl,rfl,trivial⟩,Qh 2 hcl (by simp [ownLt,AO.cells,AV.ltL,AV.lt]),by simp [ltE,AV.lt],Qo 2⟩
      ·rw [h8];(try simp only [tn1,tn2,tm1,tnn,zS] at h8)
       refine zv3 ?_
       refine Qd rfl ?_
       refine Q1 ?_
       refine Q4 ?_
       refine zv3 ?_
       exact ⟨(i+1,⟨ng,dn,pt,true,d,b,x⟩),σ.length+2,⟨by rw [← hq1];exact (nl3 (by omega) (by omega) (by omega)).symm,by simp only;omega,by simp only;omega,by simp only [ByteArray.size_append];omega,by simp only;omega,by simp only;omega⟩,by simp only;omega,by simp,⟨rfl,rfl,rfl,rfl,rfl,rfl,rfl,rfl,rfl,rfl,rfl,trivial⟩,Qh 2 hcl (by simp [ownLt,AO.cells,AV.ltL,AV.lt]),by simp [ltE,AV.lt],Qo 2⟩
    ·(try rw [h4]);(try simp only [tn1,tn2,tm1,tnn,zS] at h4)
     subst h4
     refine zw2 ?_
     refine Q2 rfl (fun h10=>?_) (fun h10=>?_)
     ·(try rw [h10]);(try simp only [tn1,tn2,tm1,tnn,zS] at h10)
      refine Q4 ?_
      refine zg1 ?_
      refine ztN rfl rfl (QX (r:=[.bool true,.str e0,.int .i64 0]) rfl Tryz.sizeOf4 rfl rfl rfl rfl rfl (by decide)) ?_
      refine zon ?_
      refine Q4 ?_
      refine zv3 ?_
      exact ⟨(i+1,⟨true,dn,pt,false,d,b,x⟩),σ.length+2,⟨by rw [← hq1];exact (nl4 (by omega) (by omega)).symm,by simp only;omega,by simp only;omega,by simp only [ByteArray.size_append];omega,by simp only;omega,by simp only;omega⟩,by simp only;omega,by simp,⟨rfl,rfl,rfl,rfl,rfl,rfl,rfl,rfl,rfl,rfl,rfl,trivial⟩,Qh 2 hcl (by simp [ownLt,AO.cells,AV.ltL,AV.lt]),by simp [ltE,AV.lt],Qo 2⟩
     ·(try rw [h10]);(try simp only [tn1,tn2,tm1,tnn,zS] at h10)
      refine zw2 ?_
      refine Q2 rfl (fun h11=>?_) (fun h11=>?_)
      ·(try rw [h11]);(try simp only [tn1,tn2,tm1,tnn,zS] at h11)
       refine Q4 ?_
       refine zv1 ?_
       refine Q4 ?_
       refine zv3 ?_
       exact ⟨(i+1,⟨ng,dn,true,false,d,b,x⟩),σ.length+2,⟨by rw [← hq1];exact (nl5 (by omega) (by omega)).symm,by simp only;omega,by simp only;omega,by simp only [ByteArray.size_append];omega,by simp only;omega,by simp only;omega⟩,by simp only;omega,by simp,⟨rfl,rfl,rfl,rfl,rfl,rfl,rfl,rfl,rfl,rfl,rfl,trivial⟩,Qh 2 hcl (by simp [ownLt,AO.cells,AV.ltL,AV.lt]),by simp [ltE,AV.lt],Qo 2⟩
      ·(try rw [h11]);(try simp only [tn1,tn2,tm1,tnn,zS] at h11)
       refine zu3 ?_
       refine zsp 64 rfl (fun h12=>?_) fun h12=>?_
       ·rw [h12];(try simp only [tn1,tn2,tm1,tnn,zS] at h12)
        refine zv3 ?_
        refine Qj rfl ?_
        refine Q4 ?_
        refine zv1 ?_
        refine Q4 ?_
        refine zv3 ?_
        exact ⟨(i+1,⟨ng,dn,pt,true,d,b,x⟩),σ.length+2,⟨by rw [← hq1];exact (nl6 (by omega) (by omega)).symm,by simp only;omega,by simp only;omega,by simp only [ByteArray.size_append];omega,by simp only;omega,by simp only;omega⟩,by simp only;omega,by simp,⟨rfl,rfl,rfl,rfl,rfl,rfl,rfl,rfl,rfl,rfl,rfl,trivial⟩,Qh 2 hcl (by simp [ownLt,AO.cells,AV.ltL,AV.lt]),by simp [ltE,AV.lt],Qo 2⟩
       ·rw [h12];(try simp only [tn1,tn2,tm1,tnn,zS] at h12)
        refine zv3 ?_
        refine Q2 rfl (fun h13=>?_) (fun h13=>?_)
        ·(try rw [h13]);(try simp only [tn1,tn2,tm1,tnn,zS] at h13)
         refine Q4 ?_
         refine zv1 ?_
         refine Q4 ?_
         refine zv3 ?_
         exact ⟨(i+1,⟨ng,dn,pt,true,d,b,x⟩),σ.length+2,⟨by rw [← hq1];exact (nl6 (by omega) (by omega)).symm,by simp only;omega,by simp only;omega,by simp only [ByteArray.size_append];omega,by simp only;omega,by simp only;omega⟩,by simp only;omega,by simp,⟨rfl,rfl,rfl,rfl,rfl,rfl,rfl,rfl,rfl,rfl,rfl,trivial⟩,Qh 2 hcl (by simp [ownLt,AO.cells,AV.ltL,AV.lt]),by simp [ltE,AV.lt],Qo 2⟩
        ·(try rw [h13]);(try simp only [tn1,tn2,tm1,tnn,zS] at h13)
         refine zu2 ?_
         refine zt rfl (Ql [[_]] rfl Tryz.underlying116 Tryz.sizeOf5 Tryz.zeroValue5 rfl (by decide) (by decide) rfl rfl rfl rfl rfl) ?_
         refine zt rfl (Z4 (b:=_) (m:=1) rfl Tryz.underlying116 Tryz.underlying5 Tryz.underlying9 (bs1 ⟨by omega,by omega⟩) rfl rfl) ?_
         refine zv2 ?_
         refine zw1 ?_
         refine Q2 rfl (fun h14=>?_) (fun h14=>?_)
         ·(try rw [h14]);(try simp only [tn1,tn2,tm1,tnn,zS] at h14)
          subst h14
          refine Q4 ?_
          refine zv3 ?_
          refine Q4 ?_
          refine zv3 ?_
          exact ⟨(i+1,⟨ng,dn,true,false,d++⟨#[u8b ((bat s i).toNat:Int)]⟩,b+1,x⟩),σ.length+2,⟨by rw [← hq1];exact (nl7 (by omega) (by omega) (by omega) (by omega)).symm,by simp only;omega,by simp only;omega,by simp only [ByteArray.size_append];omega,by simp only;omega,by simp only;omega⟩,by simp only;omega,by simp,⟨rfl,rfl,rfl,rfl,rfl,rfl,rfl,rfl,rfl,rfl,rfl,trivial⟩,Qh 2 hcl (by simp [ownLt,AO.cells,AV.ltL,AV.lt]),by simp [ltE,AV.lt],Qo 2⟩
         ·(try rw [h14]);(try simp only [tn1,tn2,tm1,tnn,zS] at h14)
          subst h14
          refine Q1 ?_
          refine Q4 ?_
          refine zv3 ?_
          exact ⟨(i+1,⟨ng,dn,false,false,d++⟨#[u8b ((bat s i).toNat:Int)]⟩,b,x⟩),σ.length+2,⟨by rw [← hq1];exact (nl8 (by omega) (by omega) (by omega) (by omega)).symm,by simp only;omega,by simp only;omega,by simp only [ByteArray.size_append];omega,by simp only;omega,by simp only;omega⟩,by simp only;omega,by simp,⟨rfl,rfl,rfl,rfl,rfl,rfl,rfl,rfl,rfl,rfl,rfl,trivial⟩,Qh 2 hcl (by simp [ownLt,AO.cells,AV.ltL,AV.lt]),by simp [ltE,AV.lt],Qo 2⟩
   ·(try rw [h3]);(try simp only [tn1,tn2,tm1,tnn,zS] at h3)
    have ht:nloop s 0 Fu=⟨ng,dn,pt,pw,d,b,x⟩:=by rw [← hq1];exact nl0 (by omega)
    refine Qg ?_
    refine QE (ι:=Int) (fun xx=>xx=Q7I ⟨ng,dn,pt,pw,d,b,x⟩∧-1000000≤xx∧xx≤1000000) (fun xx=>⟨[],[(2,.ptr (σ.length+0) 0),(6,.ptr (σ.length+1) 0),(7,.str d),(8,.int .i64 b),(10,.int .i64 xx)]⟩) (fun xx=>σ++[.box [.bool false,.str e0,.int .i64 0],.box [.bool ng,.str e0,.int .i64 0]]) ?_ (fun xx hj=>?_)
    ·skip
     refine zw1 ?_
     refine Q2 rfl (fun h15=>?_) (fun h15=>?_)
     ·(try rw [h15]);(try simp only [tn1,tn2,tm1,tnn,zS] at h15)
      subst h15
      refine Q4 ?_
      refine zg1 ?_
      refine zt rfl (Q7Y rfl rfl (by omega) (by omega)) ?_
      refine zv1 ?_
      exact ⟨-x,⟨by simp [Q7I],by omega,by omega⟩,⟨rfl,rfl,rfl,rfl,rfl,rfl,trivial⟩,rfl⟩
     ·(try rw [h15]);(try simp only [tn1,tn2,tm1,tnn,zS] at h15)
      subst h15
      refine Q1 ?_
      exact ⟨x,⟨by simp [Q7I],by omega,by omega⟩,⟨rfl,rfl,rfl,rfl,rfl,rfl,trivial⟩,rfl⟩
    ·skip
     obtain ⟨hx1,hx2,hx3⟩:=hj
     refine zw4 ?_
     refine zw1 ?_
     refine Q0 ?_
     refine Qa ?_
     refine Qs (ι:=Nat) (fun f=>fz d f=fz d 0∧f≤d.size) (fun f=>⟨[],[(2,.ptr (σ.length+0) 0),(6,.ptr (σ.length+1) 0),(7,.str d),(10,.int .i64 (xx - b)),(15,.int .i64 (f:Int))]⟩) (fun f=>σ++[_,_]) (fun f=>d.size - f) (0) (⟨rfl,Nat.zero_le _⟩) ?_ rfl (fun f hf=>?_)
     ·exact ⟨rfl,rfl,rfl,rfl,rfl,rfl,trivial⟩
     obtain ⟨hf1,hf2⟩:=hf
     refine Q0 ?_
     refine zu5 ?_
     refine zsp 86 rfl (fun h16=>?_) fun h16=>?_
     ·rw [h16];(try simp only [tn1,tn2,tm1,tnn,zS] at h16)
      refine zv5 ?_
      refine Q2 rfl (fun h17=>?_) (fun h17=>?_)
      ·(try rw [h17]);(try simp only [tn1,tn2,tm1,tnn,zS] at h17)
       refine Q1 ?_
       refine Qa ?_
       refine Q4 ?_
       refine zv3 ?_
       exact ⟨f+1,σ.length+2,⟨by rw [← hf1];exact (Q7a (by omega) (by omega)).symm,by omega⟩,by omega,by simp,⟨rfl,rfl,rfl,rfl,rfl,rfl,trivial⟩,Qh 2 hcl (by simp [ownLt,AO.cells,AV.ltL,AV.lt]),by simp [ltE,AV.lt],Qo 2⟩
      ·(try rw [h17]);(try simp only [tn1,tn2,tm1,tnn,zS] at h17)
       refine Qg ?_
       refine zw3 ?_
       refine Q0 ?_
       refine Qa ?_
       have hff:fz d 0=f:=by rw [← hf1];exact Q79 (by omega)
       refine Qs (ι:=Nat) (fun l=>lz d f l=lz d f d.size∧f≤l∧l≤d.size) (fun l=>⟨[],[(2,.ptr (σ.length+0) 0),(6,.ptr (σ.length+1) 0),(7,.str d),(10,.int .i64 (xx - b+((d.size:Int) - l))),(15,.int .i64 (f:Int)),(16,.int .i64 (l:Int))]⟩) (fun l=>σ++[_,_]) (fun l=>l) (d.size) (⟨rfl,hf2,Nat.le_refl _⟩) ?_ rfl (fun l hl=>?_)
       ·refine ⟨rfl,rfl,rfl,rfl,?_,rfl,rfl,trivial⟩
        rw [Int.sub_self,Int.add_zero];rfl
       obtain ⟨hl1,hl2,hl3⟩:=hl
       refine Q0 ?_
       refine zu4 ?_
       refine zsp 99 rfl (fun h18=>?_) fun h18=>?_
       ·rw [h18];(try simp only [tn1,tn2,tm1,tnn,zS] at h18)
        refine zv6 ?_
        refine Q2 rfl (fun h19=>?_) (fun h19=>?_)
        ·(try rw [h19]);(try simp only [tn1,tn2,tm1,tnn,zS] at h19)
         refine Q1 ?_
         refine Qa ?_
         refine zw3 ?_
         refine Q4 ?_
         refine zv3 ?_
         refine ⟨l - 1,σ.length+2,⟨by rw [← hl1];exact (Q7z (by omega) (by omega)).symm,by omega⟩,by omega,by simp,⟨rfl,rfl,rfl,rfl,?_,rfl,?_,trivial⟩,Qh 2 hcl (by simp [ownLt,AO.cells,AV.ltL,AV.lt]),by simp [ltE,AV.lt],Qo 2⟩
         ·rw [show xx - b+((d.size:Int) - ((l - 1:Nat):Int))=xx - b+((d.size:Int) - (l:Int))+1 by omega];rfl
         ·rw [show ((l - 1:Nat):Int)=(l:Int) - 1 by omega];rfl
        ·(try rw [h19]);(try simp only [tn1,tn2,tm1,tnn,zS] at h19)
         refine Qg ?_
         refine Q0 ?_
         refine zsr ?_
         have hll:lz d f d.size=l:=by rw [← hl1];exact Q4i (by omega) hl2
         have hxs:(d.extract f l).size≤d.size:=by rw [ByteArray.size_extract];omega
         have hnf:nF ⟨ng,dn,pt,pw,d,b,x⟩=f:=hff
         have hnl:nL ⟨ng,dn,pt,pw,d,b,x⟩=l:=by unfold nL;rw [hnf];exact hll
         have hof:nOf ⟨ng,dn,pt,pw,d,b,x⟩=⟨ng,d.extract f l,xx - b+((d.size:Int) - l)⟩:=by unfold nOf;rw [hnf,hnl,←hx1]
         refine zv3 ?_
         refine Q2 rfl (fun h20=>?_) (fun h20=>?_)
         ·(try rw [h20]);(try simp only [tn1,tn2,tm1,tnn,zS] at h20)
          refine zw3 ?_
          refine zrt ?_
          (exfalso;omega;done)
         ·(try rw [h20]);(try simp only [tn1,tn2,tm1,tnn,zS] at h20)
          refine Q1 ?_
          refine zu4 ?_
          simp only [Int.toNat_natCast]
          refine zg1 ?_
          refine ztN rfl rfl (QX (r:=[.bool ng,.str (d.extract f l),.int .i64 0]) rfl Tryz.sizeOf9 rfl rfl rfl rfl rfl (by decide)) ?_
          refine zon ?_
          refine zu2 ?_
          refine ztN rfl rfl (QX (r:=[.bool ng,.str (d.extract f l),.int .i64 (xx - b+((d.size:Int) - l))]) rfl Tryz.sizeOf3 rfl rfl rfl rfl rfl (by decide)) ?_
          refine zon ?_
          refine zu1 ?_
          refine zt rfl (zc rfl (WH ⟨ng,d.extract f l,xx - b+((d.size:Int) - l)⟩ _ (by simp only;omega))) ?_
          refine zv1 ?_
          refine Q0 ?_
          refine zw2 ?_
          refine Q2 rfl (fun h21=>?_) (fun h21=>?_)
          ·(try rw [h21]);(try simp only [tn1,tn2,tm1,tnn,zS] at h21)
           refine zw3 ?_
           refine zrt ?_
           (have hE:YH s=({},5):=by unfold YH;rw [if_neg (by simp [h1];omega),ht,if_neg (by rw [hnf,hnl];omega),if_neg (by rw [hof];exact (Jb _).1 (by assumption))]);rw [hE];exact QH (Q9 (QI rfl rfl rfl) (Q9 (Z3 rfl) rfl)) hcl (by simp [rks,AV.lt,AV.ltL,Qx,Y1]) (Q8 rfl)
          ·(try rw [h21]);(try simp only [tn1,tn2,tm1,tnn,zS] at h21)
           refine Q1 ?_
           refine zw3 ?_
           refine zrt ?_
           (have hE:YH s=(⟨ng,d.extract f l,xx - b+((d.size:Int) - l)⟩,0):=by unfold YH;rw [if_neg (by simp [h1];omega),ht,if_neg (by rw [hnf,hnl];omega),if_pos (by rw [hof];exact (Yh _).1 (by assumption)),hof]);rw [hE];exact QH (Q9 (QI rfl rfl rfl) (Q9 (Z3 rfl) rfl)) hcl (by simp [rks,AV.lt,AV.ltL,Qx,Y1]) (Q8 rfl)
       ·rw [h18];(try simp only [tn1,tn2,tm1,tnn,zS] at h18)
        refine zv6 ?_
        refine Qd rfl ?_
        refine Qg ?_
        refine Q0 ?_
        refine zsr ?_
        have hll:lz d f d.size=l:=by rw [← hl1];exact Q4i (by omega) hl2
        have hxs:(d.extract f l).size≤d.size:=by rw [ByteArray.size_extract];omega
        have hnf:nF ⟨ng,dn,pt,pw,d,b,x⟩=f:=hff
        have hnl:nL ⟨ng,dn,pt,pw,d,b,x⟩=l:=by unfold nL;rw [hnf];exact hll
        have hof:nOf ⟨ng,dn,pt,pw,d,b,x⟩=⟨ng,d.extract f l,xx - b+((d.size:Int) - l)⟩:=by unfold nOf;rw [hnf,hnl,←hx1]
        refine zv3 ?_
        refine Q2 rfl (fun h22=>?_) (fun h22=>?_)
        ·(try rw [h22]);(try simp only [tn1,tn2,tm1,tnn,zS] at h22)
         refine zw3 ?_
         refine zrt ?_
         (have hE:YH s=({},0):=by unfold YH;rw [if_neg (by simp [h1];omega),ht,if_pos (by rw [hnf,hnl];omega)]);rw [hE];exact QH (Q9 (QI rfl rfl rfl) (Q9 (Z3 rfl) rfl)) hcl (by simp [rks,AV.lt,AV.ltL,Qx,Y1]) (Q8 rfl)
        ·(try rw [h22]);(try simp only [tn1,tn2,tm1,tnn,zS] at h22)
         refine Q1 ?_
         refine zu4 ?_
         simp only [Int.toNat_natCast]
         refine zg1 ?_
         refine ztN rfl rfl (QX (r:=[.bool ng,.str (d.extract f l),.int .i64 0]) rfl Tryz.sizeOf9 rfl rfl rfl rfl rfl (by decide)) ?_
         refine zon ?_
         refine zu2 ?_
         refine ztN rfl rfl (QX (r:=[.bool ng,.str (d.extract f l),.int .i64 (xx - b+((d.size:Int) - l))]) rfl Tryz.sizeOf3 rfl rfl rfl rfl rfl (by decide)) ?_
         refine zon ?_
         refine zu1 ?_
         refine zt rfl (zc rfl (WH ⟨ng,d.extract f l,xx - b+((d.size:Int) - l)⟩ _ (by simp only;omega))) ?_
         refine zv1 ?_
         refine Q0 ?_
         refine zw2 ?_
         refine Q2 rfl (fun h23=>?_) (fun h23=>?_)
         ·(try rw [h23]);(try simp only [tn1,tn2,tm1,tnn,zS] at h23)
          refine zw3 ?_
          refine zrt ?_
          (exfalso;omega;done)
         ·(try rw [h23]);(try simp only [tn1,tn2,tm1,tnn,zS] at h23)
          refine Q1 ?_
          refine zw3 ?_
          refine zrt ?_
          (exfalso;omega;done)
     ·rw [h16];(try simp only [tn1,tn2,tm1,tnn,zS] at h16)
      refine zv5 ?_
      refine Qd rfl ?_
      refine Qg ?_
      refine zw3 ?_
      refine Q0 ?_
      refine Qa ?_
      have hff:fz d 0=f:=by rw [← hf1];exact Q79 (by omega)
      refine Qs (ι:=Nat) (fun l=>lz d f l=lz d f d.size∧f≤l∧l≤d.size) (fun l=>⟨[],[(2,.ptr (σ.length+0) 0),(6,.ptr (σ.length+1) 0),(7,.str d),(10,.int .i64 (xx - b+((d.size:Int) - l))),(15,.int .i64 (f:Int)),(16,.int .i64 (l:Int))]⟩) (fun l=>σ++[_,_]) (fun l=>l) (d.size) (⟨rfl,hf2,Nat.le_refl _⟩) ?_ rfl (fun l hl=>?_)
      ·refine ⟨rfl,rfl,rfl,rfl,?_,rfl,rfl,trivial⟩
       rw [Int.sub_self,Int.add_zero];rfl
      obtain ⟨hl1,hl2,hl3⟩:=hl
      refine Q0 ?_
      refine zu4 ?_
      refine zsp 99 rfl (fun h24=>?_) fun h24=>?_
      ·rw [h24];(try simp only [tn1,tn2,tm1,tnn,zS] at h24)
       refine zv6 ?_
       refine Q2 rfl (fun h25=>?_) (fun h25=>?_)
       ·(try rw [h25]);(try simp only [tn1,tn2,tm1,tnn,zS] at h25)
        refine Q1 ?_
        refine Qa ?_
        refine zw3 ?_
        refine Q4 ?_
        refine zv3 ?_
        refine ⟨l - 1,σ.length+2,⟨by rw [← hl1];exact (Q7z (by omega) (by omega)).symm,by omega⟩,by omega,by simp,⟨rfl,rfl,rfl,rfl,?_,rfl,?_,trivial⟩,Qh 2 hcl (by simp [ownLt,AO.cells,AV.ltL,AV.lt]),by simp [ltE,AV.lt],Qo 2⟩
        ·rw [show xx - b+((d.size:Int) - ((l - 1:Nat):Int))=xx - b+((d.size:Int) - (l:Int))+1 by omega];rfl
        ·rw [show ((l - 1:Nat):Int)=(l:Int) - 1 by omega];rfl
       ·(try rw [h25]);(try simp only [tn1,tn2,tm1,tnn,zS] at h25)
        refine Qg ?_
        refine Q0 ?_
        refine zsr ?_
        have hll:lz d f d.size=l:=by rw [← hl1];exact Q4i (by omega) hl2
        have hxs:(d.extract f l).size≤d.size:=by rw [ByteArray.size_extract];omega
        have hnf:nF ⟨ng,dn,pt,pw,d,b,x⟩=f:=hff
        have hnl:nL ⟨ng,dn,pt,pw,d,b,x⟩=l:=by unfold nL;rw [hnf];exact hll
        have hof:nOf ⟨ng,dn,pt,pw,d,b,x⟩=⟨ng,d.extract f l,xx - b+((d.size:Int) - l)⟩:=by unfold nOf;rw [hnf,hnl,←hx1]
        refine zv3 ?_
        refine Q2 rfl (fun h26=>?_) (fun h26=>?_)
        ·(try rw [h26]);(try simp only [tn1,tn2,tm1,tnn,zS] at h26)
         refine zw3 ?_
         refine zrt ?_
         (exfalso;omega;done)
        ·(try rw [h26]);(try simp only [tn1,tn2,tm1,tnn,zS] at h26)
         refine Q1 ?_
         refine zu4 ?_
         simp only [Int.toNat_natCast]
         refine zg1 ?_
         refine ztN rfl rfl (QX (r:=[.bool ng,.str (d.extract f l),.int .i64 0]) rfl Tryz.sizeOf9 rfl rfl rfl rfl rfl (by decide)) ?_
         refine zon ?_
         refine zu2 ?_
         refine ztN rfl rfl (QX (r:=[.bool ng,.str (d.extract f l),.int .i64 (xx - b+((d.size:Int) - l))]) rfl Tryz.sizeOf3 rfl rfl rfl rfl rfl (by decide)) ?_
         refine zon ?_
         refine zu1 ?_
         refine zt rfl (zc rfl (WH ⟨ng,d.extract f l,xx - b+((d.size:Int) - l)⟩ _ (by simp only;omega))) ?_
         refine zv1 ?_
         refine Q0 ?_
         refine zw2 ?_
         refine Q2 rfl (fun h27=>?_) (fun h27=>?_)
         ·(try rw [h27]);(try simp only [tn1,tn2,tm1,tnn,zS] at h27)
          refine zw3 ?_
          refine zrt ?_
          (exfalso;omega;done)
         ·(try rw [h27]);(try simp only [tn1,tn2,tm1,tnn,zS] at h27)
          refine Q1 ?_
          refine zw3 ?_
          refine zrt ?_
          (exfalso;omega;done)
      ·rw [h24];(try simp only [tn1,tn2,tm1,tnn,zS] at h24)
       refine zv6 ?_
       refine Qd rfl ?_
       refine Qg ?_
       refine Q0 ?_
       refine zsr ?_
       have hll:lz d f d.size=l:=by rw [← hl1];exact Q4i (by omega) hl2
       have hxs:(d.extract f l).size≤d.size:=by rw [ByteArray.size_extract];omega
       have hnf:nF ⟨ng,dn,pt,pw,d,b,x⟩=f:=hff
       have hnl:nL ⟨ng,dn,pt,pw,d,b,x⟩=l:=by unfold nL;rw [hnf];exact hll
       have hof:nOf ⟨ng,dn,pt,pw,d,b,x⟩=⟨ng,d.extract f l,xx - b+((d.size:Int) - l)⟩:=by unfold nOf;rw [hnf,hnl,←hx1]
       refine zv3 ?_
       refine Q2 rfl (fun h28=>?_) (fun h28=>?_)
       ·(try rw [h28]);(try simp only [tn1,tn2,tm1,tnn,zS] at h28)
        refine zw3 ?_
        refine zrt ?_
        (have hE:YH s=({},0):=by unfold YH;rw [if_neg (by simp [h1];omega),ht,if_pos (by rw [hnf,hnl];omega)]);rw [hE];exact QH (Q9 (QI rfl rfl rfl) (Q9 (Z3 rfl) rfl)) hcl (by simp [rks,AV.lt,AV.ltL,Qx,Y1]) (Q8 rfl)
       ·(try rw [h28]);(try simp only [tn1,tn2,tm1,tnn,zS] at h28)
        refine Q1 ?_
        refine zu4 ?_
        simp only [Int.toNat_natCast]
        refine zg1 ?_
        refine ztN rfl rfl (QX (r:=[.bool ng,.str (d.extract f l),.int .i64 0]) rfl Tryz.sizeOf9 rfl rfl rfl rfl rfl (by decide)) ?_
        refine zon ?_
        refine zu2 ?_
        refine ztN rfl rfl (QX (r:=[.bool ng,.str (d.extract f l),.int .i64 (xx - b+((d.size:Int) - l))]) rfl Tryz.sizeOf3 rfl rfl rfl rfl rfl (by decide)) ?_
        refine zon ?_
        refine zu1 ?_
        refine zt rfl (zc rfl (WH ⟨ng,d.extract f l,xx - b+((d.size:Int) - l)⟩ _ (by simp only;omega))) ?_
        refine zv1 ?_
        refine Q0 ?_
        refine zw2 ?_
        refine Q2 rfl (fun h29=>?_) (fun h29=>?_)
        ·(try rw [h29]);(try simp only [tn1,tn2,tm1,tnn,zS] at h29)
         refine zw3 ?_
         refine zrt ?_
         (exfalso;omega;done)
        ·(try rw [h29]);(try simp only [tn1,tn2,tm1,tnn,zS] at h29)
         refine Q1 ?_
         refine zw3 ?_
         refine zrt ?_
         (exfalso;omega;done)
end Lg
set_option maxRecDepth 20000
set_option maxHeartbeats 4000000
namespace Lg
open Go Go.Proofs Go.RowKit
variable [GLay]
theorem Qb2 (s:ByteArray) (hs:s.size≤100000):∀ (n:Nat) (r:RS) (p:Nat) (σ:List AO),σ[p]? =some (ZE s r)→ROK s r→s.size+1 < n+r.a→ACalls Tryz.prog 43 [.ptr p 0] σ (Ret (.agg (Qf (Z2 n s r).1)) (σ.set p (ZE s (Z2 n s r).2))):=by
 intro n
 induction n with
 |zero=>intro r p σ hσ h hn;exfalso;have:=h.a;omega
 |succ n ih=>
 intro r p σ hσ h hn
 have hp:p < σ.length:=(List.getElem?_eq_some_iff.1 hσ).1
 have hb1:=Xq h
 have hta:=hb1.a
 refine QS Tryz.func43 rfl Tryz.ntmps43 (by rw [Tryz.results43];exact (.ck Tryz.isAgg28 Tryz.sizeOf28 .nil)) (Nat.le_of_ble_eq_true rfl) (fun hcl hal=>?_)
 refine Qn (QO hσ) ?_
 refine zw1 ?_
 refine zw1 ?_
 refine zu1 ?_
 refine zt rfl (zc rfl (Z6 hp (GD s r p _ (Qt hp) hs h))) ?_
 refine zon ?_
 refine Q0 ?_
 have hres:Z2 (n+1) s r=((ZM (Z2 n s) s (Qu s r)).1,Qu s (ZM (Z2 n s) s (Qu s r)).2):=rfl
 generalize Qu s r=t at hb1 hta hres ⊢
 have htk:=hb1.ok.a
 have htb:=hb1.ok.b
 have hn2:s.size+1 < n+t.a+1:=by omega
 refine Q4 ?_
 refine zg1 ?_
 refine zt rfl (zc rfl (W7 s t p _ (Qt hp))) ?_
 refine zv1 ?_
 refine QE (ι:=AV×AV×List AO) (fun z=>AVle z.1 (.sl false 8 (Q7 (ZM (Z2 n s) s t).1.l))∧AVle z.2.1 (.sl false 9 (Q5 (ZM (Z2 n s) s t).1.m))) (fun z=>⟨[],[(0,.ptr p 0),(2,.ptr (σ.length+0) 0),(3,.ptr (σ.length+1) 0)]⟩) (fun z=>σ.set p (ZE s (ZM (Z2 n s) s t).2)++([.box [.int .i64 0,.bool false,.bool false,.str e0,.int .i64 0,.str e0,.nils,.nils],.box [.int .i64 (ZM (Z2 n s) s t).1.kind,.bool (ZM (Z2 n s) s t).1.b,.bool (ZM (Z2 n s) s t).1.n.neg,.str (ZM (Z2 n s) s t).1.n.digits,.int .i64 (ZM (Z2 n s) s t).1.n.exp,.str (ZM (Z2 n s) s t).1.s,z.1,z.2.1]]++z.2.2)) ?_ (fun z hj=>?_)
 ·skip
  refine zw2 ?_
  refine Q2 rfl (fun h1=>?_) (fun h1=>?_)
  ·(try rw [h1]);(try simp only [tn1,tn2,tnn,zS] at h1)
   have hpk:=Yv (s:=s) (a:=t.a) (bad:=t.bad) (by omega)
   refine Q4 ?_
   refine zg1 ?_
   refine zt rfl (zc rfl (Z6 hp (Q7J s n ih t p _ (Qt hp) hs hb1.ok hpk.1 hpk.2.1 hn2))) ?_
   rw [Q3 (WV (Z2 n s) s t).1]
   refine zv1 ?_
   have hone:ZM (Z2 n s) s t=WV (Z2 n s) s t:=by unfold ZM;rw [if_pos (by omega)]
   simp only [hone]
   exact ⟨(.sl false 8 (Q7 (WV (Z2 n s) s t).1.l),.sl false 9 (Q5 (WV (Z2 n s) s t).1.m),_),⟨AVle.refl _,AVle.refl _⟩,⟨rfl,rfl,rfl,rfl,trivial⟩,rfl⟩
  ·(try rw [h1]);(try simp only [tn1,tn2,tnn,zS] at h1)
   refine zw2 ?_
   refine Q2 rfl (fun h2=>?_) (fun h2=>?_)
   ·(try rw [h2]);(try simp only [tn1,tn2,tnn,zS] at h2)
    have hpk:=Yv (s:=s) (a:=t.a) (bad:=t.bad) (by omega)
    refine Q4 ?_
    refine zg1 ?_
    refine zt rfl (zc rfl (Z6 hp (Q9j s n ih t p _ (Qt hp) hs hb1.ok hpk.1 hpk.2.1 hn2))) ?_
    rw [Q3 (WT (Z2 n s) s t).1]
    refine zv1 ?_
    have hone:ZM (Z2 n s) s t=WT (Z2 n s) s t:=by unfold ZM;rw [if_neg (by omega),if_pos (by omega)]
    simp only [hone]
    exact ⟨(.sl false 8 (Q7 (WT (Z2 n s) s t).1.l),.sl false 9 (Q5 (WT (Z2 n s) s t).1.m),_),⟨AVle.refl _,AVle.refl _⟩,⟨rfl,rfl,rfl,rfl,trivial⟩,rfl⟩
   ·(try rw [h2]);(try simp only [tn1,tn2,tnn,zS] at h2)
    refine zw2 ?_
    refine Q2 rfl (fun h3=>?_) (fun h3=>?_)
    ·(try rw [h3]);(try simp only [tn1,tn2,tnn,zS] at h3)
     refine Q4 ?_
     refine zg1 ?_
     refine zt rfl (zc rfl (Z6 hp (Q8T s t p _ (Qt hp) hs hb1.ok))) ?_
     refine zv2 ?_
     have hone:ZM (Z2 n s) s t=(.mk 3 false {} (QL s t).1 [] [],(QL s t).2):=by unfold ZM;rw [if_neg (by omega),if_neg (by omega),if_pos (by omega)]
     simp only [hone]
     exact ⟨(.nils,.nils,_),⟨XA,Xt⟩,⟨rfl,rfl,rfl,rfl,trivial⟩,rfl⟩
    ·(try rw [h3]);(try simp only [tn1,tn2,tnn,zS] at h3)
     refine zw2 ?_
     refine Q2 rfl (fun h4=>?_) (fun h4=>?_)
     ·(try rw [h4]);(try simp only [tn1,tn2,tnn,zS] at h4)
      refine Q4 ?_
      refine zg1 ?_
      refine zt rfl (zc rfl (Z6 hp (Gb Q4d s t p _ (Qt hp) hs (by decide) hb1.ok))) ?_
      refine zon ?_
      have hone:ZM (Z2 n s) s t=(vz,XX s Q4d t):=by unfold ZM;rw [if_neg (by omega),if_neg (by omega),if_neg (by omega),if_pos (by omega)]
      simp only [hone]
      exact ⟨(.nils,.nils,_),⟨XA,Xt⟩,⟨rfl,rfl,rfl,rfl,trivial⟩,rfl⟩
     ·(try rw [h4]);(try simp only [tn1,tn2,tnn,zS] at h4)
      refine zw2 ?_
      refine Q2 rfl (fun h5=>?_) (fun h5=>?_)
      ·(try rw [h5]);(try simp only [tn1,tn2,tnn,zS] at h5)
       refine zu1 ?_
       refine zt rfl (zc rfl (Z6 hp (Gb Q4e s t p _ (Qt hp) hs (by decide) hb1.ok))) ?_
       refine zon ?_
       refine Q4 ?_
       refine zv2 ?_
       have hone:ZM (Z2 n s) s t=(.mk 1 true {} e0 [] [],XX s Q4e t):=by unfold ZM;rw [if_neg (by omega),if_neg (by omega),if_neg (by omega),if_neg (by omega),if_pos (by omega)]
       simp only [hone]
       exact ⟨(.nils,.nils,_),⟨XA,Xt⟩,⟨rfl,rfl,rfl,rfl,trivial⟩,rfl⟩
      ·(try rw [h5]);(try simp only [tn1,tn2,tnn,zS] at h5)
       refine zw2 ?_
       refine Q2 rfl (fun h6=>?_) (fun h6=>?_)
       ·(try rw [h6]);(try simp only [tn1,tn2,tnn,zS] at h6)
        refine zu1 ?_
        refine zt rfl (zc rfl (Z6 hp (Gb Q0F s t p _ (Qt hp) hs (by decide) hb1.ok))) ?_
        refine zon ?_
        refine Q4 ?_
        refine zv2 ?_
        have hone:ZM (Z2 n s) s t=(.mk 1 false {} e0 [] [],XX s Q0F t):=by unfold ZM;rw [if_neg (by omega),if_neg (by omega),if_neg (by omega),if_neg (by omega),if_neg (by omega),if_pos (by omega)]
        simp only [hone]
        exact ⟨(.nils,.nils,_),⟨XA,Xt⟩,⟨rfl,rfl,rfl,rfl,trivial⟩,rfl⟩
       ·(try rw [h6]);(try simp only [tn1,tn2,tnn,zS] at h6)
        refine zu3 ?_
        refine zsp 42 rfl (fun h7=>?_) fun h7=>?_
        ·rw [h7];(try simp only [tn1,tn2,tnn,zS] at h7)
         refine zv7 ?_
         refine Qj rfl ?_
         refine Q0 ?_
         have hpk:=Yv (s:=s) (a:=t.a) (bad:=t.bad) (by omega)
         have hel:=Q15 (s:=s) (a:=t.a) (by omega)
         refine Qb #[0,1,3,7,0,16,48,112,255,511,1023,1023,2047,8191] Tryz.mixed (by decide +kernel) (by decide +kernel) ?_
         refine zd3 ?_
         refine zp1 ?_
         refine zd3 ?_
         refine zp1 ?_
         refine yP rfl rfl (zc rfl (Q71 s t.a _ (by omega) (by omega))) (trivial) ?_
         refine zd5 ?_
         refine RP.nil rfl ?_
         refine QE (ι:=RS) (fun y=>y=(if (QY s t.a).2=true then t else Zg t (QY s t.a).1 1)∧y.a=t.a∧y.deep=t.deep) (fun y=>⟨[],[(0,.ptr p 0),(2,.ptr (σ.length+0) 0),(3,.ptr (σ.length+1) 0),(5,.int .i64 ((QY s t.a).1:Int))]⟩) (fun y=>σ.set p (ZE s y)++[.box [.int .i64 0,.bool false,.bool false,.str e0,.int .i64 0,.str e0,.nils,.nils],.box [.int .i64 0,.bool false,.bool false,.str e0,.int .i64 0,.str e0,.nils,.nils]]) ?_ (fun y hj=>?_)
         ·skip
          refine zw2 ?_
          refine Q2 rfl (fun h8=>?_) (fun h8=>?_)
          ·(try rw [h8]);(try simp only [tn1,tn2,tnn,zS] at h8)
           refine Q4 ?_
           refine zg2 ?_
           refine zt rfl (zc rfl (Z6 hp (JO s t p _ (Qt hp) ((QY s t.a).1:Int) 1))) ?_
           refine zon ?_
           exact ⟨Zg t (QY s t.a).1 1,⟨by rw [if_neg (by simp [*])],rfl,rfl⟩,⟨rfl,rfl,rfl,rfl,rfl,trivial⟩,rfl⟩
          ·(try rw [h8]);(try simp only [tn1,tn2,tnn,zS] at h8)
           refine Q1 ?_
           exact ⟨t,⟨by rw [if_pos (by simp [*])],rfl,rfl⟩,⟨rfl,rfl,rfl,rfl,rfl,trivial⟩,rfl⟩
         ·skip
          obtain ⟨hy1,hy2,hy3⟩:=hj
          refine Q0 ?_
          refine Qb #[0,1,3,7,0,16,48,112,0,511,1023,2047,4095,4095,0,24575,65535] Tryz.mixed (by decide +kernel) (by decide +kernel) ?_
          refine zd3 ?_
          refine zp1 ?_
          refine zd3 ?_
          refine zp1 ?_
          refine zd2 ?_
          simp only [Int.toNat_natCast,hy2]
          refine yP rfl rfl (zc rfl (Q19 (s.extract t.a (QY s t.a).1) _ (by rw [ByteArray.size_extract];omega))) (trivial) ?_
          refine zd3 ?_
          refine yE rfl rfl (zoa) (⟨.inr (K6 rfl rfl rfl Tryz.func81 rfl rfl (Q19 (s.extract t.a (QY s t.a).1) _ (by rw [ByteArray.size_extract];omega))),⟨.inr (ZS rfl Tryz.isAgg3 (Va hp (by rw [← hy2];rfl))),⟨.inr (ZS rfl Tryz.isAgg9 (Va hp rfl)),trivial⟩⟩⟩) (trivial) ?_
          refine yEN rfl rfl rfl (zoa) (⟨.inl rfl,⟨.inl rfl,⟨.inl rfl,trivial⟩⟩⟩) (⟨rfl,trivial⟩) ?_
          refine zd1 ?_
          refine RP.nil rfl ?_
          refine QE (ι:=RS) (fun x=>x=(if (YH (s.extract t.a (QY s t.a).1)).2=0 then (if (QY s t.a).2=true then t else Zg t (QY s t.a).1 1) else Zg (if (QY s t.a).2=true then t else Zg t (QY s t.a).1 1) t.a 5)∧x.a=t.a∧x.deep=t.deep) (fun x=>⟨[],[(0,.ptr p 0),(2,.ptr (σ.length+0) 0),(3,.ptr (σ.length+1) 0),(5,.int .i64 ((QY s t.a).1:Int)),(7,.ptr (σ.length+2) 0)]⟩) (fun x=>σ.set p (ZE s x)++[.box [.int .i64 0,.bool false,.bool false,.str e0,.int .i64 0,.str e0,.nils,.nils],.box [.int .i64 0,.bool false,.bool false,.str e0,.int .i64 0,.str e0,.nils,.nils],.box (Y1 (YH (s.extract t.a (QY s t.a).1)).1)]) ?_ (fun x hj=>?_)
          ·skip
           refine zw2 ?_
           refine Q2 rfl (fun h9=>?_) (fun h9=>?_)
           ·(try rw [h9]);(try simp only [tn1,tn2,tnn,zS] at h9)
            refine Q4 ?_
            refine zg5 ?_
            refine zt rfl (zc rfl (Z6 hp (JO s y p _ (Qt hp) (y.a:Int) 5))) ?_
            refine zon ?_
            exact ⟨Zg y y.a 5,⟨by rw [if_neg (by assumption),←hy1,hy2],hy2,hy3⟩,⟨rfl,rfl,rfl,rfl,rfl,rfl,trivial⟩,rfl⟩
           ·(try rw [h9]);(try simp only [tn1,tn2,tnn,zS] at h9)
            refine Q1 ?_
            exact ⟨y,⟨by rw [if_pos (by assumption),←hy1],hy2,hy3⟩,⟨rfl,rfl,rfl,rfl,rfl,rfl,trivial⟩,rfl⟩
          ·skip
           obtain ⟨hx1,hx2,hx3⟩:=hj
           refine zw5 ?_
           refine Q4 ?_
           refine zv3 ?_
           have hone:ZM (Z2 n s) s t=Vi s t:=by unfold ZM;rw [if_neg (by omega),if_neg (by omega),if_neg (by omega),if_neg (by omega),if_neg (by omega),if_neg (by omega),if_pos (by omega)]
           have hnum:Vi s t=(.mk 2 false (YH (s.extract t.a (QY s t.a).1)).1 e0 [] [],⟨(QY s t.a).1,x.deep,x.bad,x.spot⟩):=by rw [hx3];unfold Vi;rw [← hx1]
           simp only [hone,hnum]
           exact ⟨(.nils,.nils,_),⟨XA,Xt⟩,⟨rfl,rfl,rfl,rfl,trivial⟩,rfl⟩
        ·rw [h7];(try simp only [tn1,tn2,tnn,zS] at h7)
         refine zg3 ?_
         refine zsp 45 rfl (fun h10=>?_) fun h10=>?_
         ·rw [h10];(try simp only [tn1,tn2,tnn,zS] at h10)
          refine zv4 ?_
          refine Q2 rfl (fun h11=>?_) (fun h11=>?_)
          ·(try rw [h11]);(try simp only [tn1,tn2,tnn,zS] at h11)
           refine Q0 ?_
           have hpk:=Yv (s:=s) (a:=t.a) (bad:=t.bad) (by omega)
           have hel:=Q15 (s:=s) (a:=t.a) (by omega)
           refine Qb #[0,1,3,7,0,16,48,112,255,511,1023,1023,2047,8191] Tryz.mixed (by decide +kernel) (by decide +kernel) ?_
           refine zd3 ?_
           refine zp1 ?_
           refine zd3 ?_
           refine zp1 ?_
           refine yP rfl rfl (zc rfl (Q71 s t.a _ (by omega) (by omega))) (trivial) ?_
           refine zd5 ?_
           refine RP.nil rfl ?_
           refine QE (ι:=RS) (fun y=>y=(if (QY s t.a).2=true then t else Zg t (QY s t.a).1 1)∧y.a=t.a∧y.deep=t.deep) (fun y=>⟨[],[(0,.ptr p 0),(2,.ptr (σ.length+0) 0),(3,.ptr (σ.length+1) 0),(5,.int .i64 ((QY s t.a).1:Int))]⟩) (fun y=>σ.set p (ZE s y)++[.box [.int .i64 0,.bool false,.bool false,.str e0,.int .i64 0,.str e0,.nils,.nils],.box [.int .i64 0,.bool false,.bool false,.str e0,.int .i64 0,.str e0,.nils,.nils]]) ?_ (fun y hj=>?_)
           ·skip
            refine zw2 ?_
            refine Q2 rfl (fun h12=>?_) (fun h12=>?_)
            ·(try rw [h12]);(try simp only [tn1,tn2,tnn,zS] at h12)
             refine Q4 ?_
             refine zg2 ?_
             refine zt rfl (zc rfl (Z6 hp (JO s t p _ (Qt hp) ((QY s t.a).1:Int) 1))) ?_
             refine zon ?_
             exact ⟨Zg t (QY s t.a).1 1,⟨by rw [if_neg (by simp [*])],rfl,rfl⟩,⟨rfl,rfl,rfl,rfl,rfl,trivial⟩,rfl⟩
            ·(try rw [h12]);(try simp only [tn1,tn2,tnn,zS] at h12)
             refine Q1 ?_
             exact ⟨t,⟨by rw [if_pos (by simp [*])],rfl,rfl⟩,⟨rfl,rfl,rfl,rfl,rfl,trivial⟩,rfl⟩
           ·skip
            obtain ⟨hy1,hy2,hy3⟩:=hj
            refine Q0 ?_
            refine Qb #[0,1,3,7,0,16,48,112,0,511,1023,2047,4095,4095,0,24575,65535] Tryz.mixed (by decide +kernel) (by decide +kernel) ?_
            refine zd3 ?_
            refine zp1 ?_
            refine zd3 ?_
            refine zp1 ?_
            refine zd2 ?_
            simp only [Int.toNat_natCast,hy2]
            refine yP rfl rfl (zc rfl (Q19 (s.extract t.a (QY s t.a).1) _ (by rw [ByteArray.size_extract];omega))) (trivial) ?_
            refine zd3 ?_
            refine yE rfl rfl (zoa) (⟨.inr (K6 rfl rfl rfl Tryz.func81 rfl rfl (Q19 (s.extract t.a (QY s t.a).1) _ (by rw [ByteArray.size_extract];omega))),⟨.inr (ZS rfl Tryz.isAgg3 (Va hp (by rw [← hy2];rfl))),⟨.inr (ZS rfl Tryz.isAgg9 (Va hp rfl)),trivial⟩⟩⟩) (trivial) ?_
            refine yEN rfl rfl rfl (zoa) (⟨.inl rfl,⟨.inl rfl,⟨.inl rfl,trivial⟩⟩⟩) (⟨rfl,trivial⟩) ?_
            refine zd1 ?_
            refine RP.nil rfl ?_
            refine QE (ι:=RS) (fun x=>x=(if (YH (s.extract t.a (QY s t.a).1)).2=0 then (if (QY s t.a).2=true then t else Zg t (QY s t.a).1 1) else Zg (if (QY s t.a).2=true then t else Zg t (QY s t.a).1 1) t.a 5)∧x.a=t.a∧x.deep=t.deep) (fun x=>⟨[],[(0,.ptr p 0),(2,.ptr (σ.length+0) 0),(3,.ptr (σ.length+1) 0),(5,.int .i64 ((QY s t.a).1:Int)),(7,.ptr (σ.length+2) 0)]⟩) (fun x=>σ.set p (ZE s x)++[.box [.int .i64 0,.bool false,.bool false,.str e0,.int .i64 0,.str e0,.nils,.nils],.box [.int .i64 0,.bool false,.bool false,.str e0,.int .i64 0,.str e0,.nils,.nils],.box (Y1 (YH (s.extract t.a (QY s t.a).1)).1)]) ?_ (fun x hj=>?_)
            ·skip
             refine zw2 ?_
             refine Q2 rfl (fun h13=>?_) (fun h13=>?_)
             ·(try rw [h13]);(try simp only [tn1,tn2,tnn,zS] at h13)
              refine Q4 ?_
              refine zg5 ?_
              refine zt rfl (zc rfl (Z6 hp (JO s y p _ (Qt hp) (y.a:Int) 5))) ?_
              refine zon ?_
              exact ⟨Zg y y.a 5,⟨by rw [if_neg (by assumption),←hy1,hy2],hy2,hy3⟩,⟨rfl,rfl,rfl,rfl,rfl,rfl,trivial⟩,rfl⟩
             ·(try rw [h13]);(try simp only [tn1,tn2,tnn,zS] at h13)
              refine Q1 ?_
              exact ⟨y,⟨by rw [if_pos (by assumption),←hy1],hy2,hy3⟩,⟨rfl,rfl,rfl,rfl,rfl,rfl,trivial⟩,rfl⟩
            ·skip
             obtain ⟨hx1,hx2,hx3⟩:=hj
             refine zw5 ?_
             refine Q4 ?_
             refine zv3 ?_
             have hone:ZM (Z2 n s) s t=Vi s t:=by unfold ZM;rw [if_neg (by omega),if_neg (by omega),if_neg (by omega),if_neg (by omega),if_neg (by omega),if_neg (by omega),if_pos (by omega)]
             have hnum:Vi s t=(.mk 2 false (YH (s.extract t.a (QY s t.a).1)).1 e0 [] [],⟨(QY s t.a).1,x.deep,x.bad,x.spot⟩):=by rw [hx3];unfold Vi;rw [← hx1]
             simp only [hone,hnum]
             exact ⟨(.nils,.nils,_),⟨XA,Xt⟩,⟨rfl,rfl,rfl,rfl,trivial⟩,rfl⟩
          ·(try rw [h11]);(try simp only [tn1,tn2,tnn,zS] at h11)
           refine Q4 ?_
           refine zg5 ?_
           refine zt rfl (zc rfl (Z6 hp (JO s t p _ (Qt hp) (t.a:Int) 1))) ?_
           refine zon ?_
           have hone:ZM (Z2 n s) s t=(vz,Zg t t.a 1):=by unfold ZM;rw [if_neg (by omega),if_neg (by omega),if_neg (by omega),if_neg (by omega),if_neg (by omega),if_neg (by omega),if_neg (by omega)]
           simp only [hone]
           exact ⟨(.nils,.nils,_),⟨XA,Xt⟩,⟨rfl,rfl,rfl,rfl,trivial⟩,rfl⟩
         ·rw [h10];(try simp only [tn1,tn2,tnn,zS] at h10)
          refine zv4 ?_
          refine Qd rfl ?_
          refine Q4 ?_
          refine zg5 ?_
          refine zt rfl (zc rfl (Z6 hp (JO s t p _ (Qt hp) (t.a:Int) 1))) ?_
          refine zon ?_
          have hone:ZM (Z2 n s) s t=(vz,Zg t t.a 1):=by unfold ZM;rw [if_neg (by omega),if_neg (by omega),if_neg (by omega),if_neg (by omega),if_neg (by omega),if_neg (by omega),if_neg (by omega)]
          simp only [hone]
          exact ⟨(.nils,.nils,_),⟨XA,Xt⟩,⟨rfl,rfl,rfl,rfl,trivial⟩,rfl⟩
 ·skip
  obtain ⟨L,M,w⟩:=z
  obtain ⟨hL,hM⟩:=hj
  simp only at hL hM ⊢
  refine Q0 ?_
  have hok:=Q1a hs (fun r h=>JL hs n r h) hb1.ok
  refine VX 1 (bs':=[.int .i64 (ZM (Z2 n s) s t).1.kind,.bool (ZM (Z2 n s) s t).1.b,.bool (ZM (Z2 n s) s t).1.n.neg,.str (ZM (Z2 n s) s t).1.n.digits,.int .i64 (ZM (Z2 n s) s t).1.n.exp,.str (ZM (Z2 n s) s t).1.s,.sl false 8 (Q7 (ZM (Z2 n s) s t).1.l),.sl false 9 (Q5 (ZM (Z2 n s) s t).1.m)]) rfl ⟨AVle.refl _,AVle.refl _,AVle.refl _,AVle.refl _,AVle.refl _,AVle.refl _,hL,hM,trivial⟩ ?_
  refine Q4 ?_
  refine zg1 ?_
  refine zt rfl (zc rfl (Z6 hp (GD s (ZM (Z2 n s) s t).2 p _ (Qt hp) hs hok.fwd.ok))) ?_
  refine zon ?_
  refine zw2 ?_
  refine zrt ?_
  rw [hres,Q3]
  exact Q0g (Q9 (Q18 rfl rfl rfl) rfl) (x:=ZE s (Qu s (ZM (Z2 n s) s t).2)) hcl (by simp [AO.cells,AV.ltL,AV.lt]) (by simp [rks,AV.lt,AV.ltL]) ⟨rfl,rfl⟩
end Lg
set_option maxRecDepth 20000
set_option maxHeartbeats 4000000
namespace Lg
open Go Go.Proofs Go.RowKit
variable [GLay]
theorem QcR (s:ByteArray) (hs:s.size≤100000) (p:Nat) (σ:List AO) (hσ:σ[p]? =some (ZE s ⟨0,0,0,0⟩)):ACalls Tryz.prog 43 [.ptr p 0] σ (Ret (.agg (Qf (YY s).1)) (σ.set p (ZE s (YY s).2))):=Qb2 s hs (s.size+2) ⟨0,0,0,0⟩ p σ hσ ⟨Nat.zero_le _,fun _=>Nat.zero_le _,Int.le_refl _,Int.le_refl _⟩ (by dsimp only;omega)
theorem Qan (s:ByteArray) (σ:List AO) (hs:s.size≤100000):ACalls Tryz.prog 22 [.str s] σ (Ret (.tup [.agg (Qf (Zp s).1),.int .i64 (Zp s).2.1,.int .i64 (Zp s).2.2]) σ):=by
 refine QS Tryz.func22 rfl Tryz.ntmps22 (by rw [Tryz.results22];exact (.ck Tryz.isAgg28 Tryz.sizeOf28 (.t (.t .nil)))) (Nat.le_of_ble_eq_true rfl) (fun hcl hal=>?_)
 refine zw3 ?_
 refine Q0 ?_
 refine zw3 ?_
 refine Q2 rfl (fun h1=>?_) (fun h1=>?_)
 ·(try rw [h1]);replace h1:=zcl h1
  refine zw4 ?_
  refine QN 0 (bs':=[.int .i64 vz.kind,.bool vz.b,.bool vz.n.neg,.str vz.n.digits,.int .i64 vz.n.exp,.str vz.s,.sl false 8 (Q7 vz.l),.sl false 9 (Q5 vz.m)]) rfl ⟨AVle.refl _,AVle.refl _,AVle.refl _,AVle.refl _,AVle.refl _,AVle.refl _,XA,Xt,trivial⟩ ?_
  refine zrt ?_
  have hE:Zp s=(vz,5,20000):=by unfold Zp;rw [if_pos (by omega)]
  rw [hE,Q3];exact QH (Q9 (QI rfl rfl rfl) (Q9 (Z3 rfl) (Q9 (Z3 rfl) rfl))) hcl (by simp [rks,AV.lt,AV.ltL,Qx,Y1]) ⟨rfl,rfl⟩
 ·(try rw [h1]);replace h1:=zcl h1
  refine Q1 ?_
  refine zw4 ?_
  refine zu1 ?_
  refine zt rfl (zc rfl (Q3S 1 (QcR s hs (σ.length+1) _ (by rw [YT rfl];rfl)))) ?_
  rw [Q3 (YY s).1]
  refine zv2 ?_
  refine QE (ι:=Unit) (fun b=>True) (fun b=>⟨[],[(0,.str s),(2,.ptr (σ.length+0) 0),(5,.ptr (σ.length+1) 0),(6,.ptr (σ.length+2) 0)]⟩) (fun b=>σ++[.box [.int .i64 0,.bool false,.bool false,.str e0,.int .i64 0,.str e0,.nils,.nils],ZE s (KP s),.box [.int .i64 (YY s).1.kind,.bool (YY s).1.b,.bool (YY s).1.n.neg,.str (YY s).1.n.digits,.int .i64 (YY s).1.n.exp,.str (YY s).1.s,.sl false 8 (Q7 (YY s).1.l),.sl false 9 (Q5 (YY s).1.m)]]) ?_ (fun b hj=>?_)
  ·skip
   refine zu6 ?_
   refine zsp 21 rfl (fun h2=>?_) fun h2=>?_
   ·rw [h2];replace h2:=zcl h2
    refine zv8 ?_
    refine Q2 rfl (fun h3=>?_) (fun h3=>?_)
    ·(try rw [h3]);replace h3:=zcl h3
     refine Q4 ?_
     refine zg5 ?_
     refine zt rfl (zc rfl (Q3S 1 (JO s (YY s).2 (σ.length+1) _ (by rw [YT rfl];rfl) ((YY s).2.a:Int) 1))) ?_
     refine zon ?_
     refine ⟨(),trivial,⟨rfl,rfl,rfl,rfl,rfl,trivial⟩,?_⟩
     unfold KP;first|(rw [if_pos ⟨by omega,by omega⟩];rfl)|(rw [if_neg (by omega)];rfl)
    ·(try rw [h3]);replace h3:=zcl h3
     refine Q1 ?_
     refine ⟨(),trivial,⟨rfl,rfl,rfl,rfl,rfl,trivial⟩,?_⟩
     unfold KP;first|(rw [if_pos ⟨by omega,by omega⟩];rfl)|(rw [if_neg (by omega)];rfl)
   ·rw [h2];replace h2:=zcl h2
    refine zv8 ?_
    refine Qd rfl ?_
    refine Q1 ?_
    refine ⟨(),trivial,⟨rfl,rfl,rfl,rfl,rfl,trivial⟩,?_⟩
    unfold KP;first|(rw [if_pos ⟨by omega,by omega⟩];rfl)|(rw [if_neg (by omega)];rfl)
  ·skip
   refine Q0 ?_
   refine zw5 ?_
   refine Q2 rfl (fun h4=>?_) (fun h4=>?_)
   ·(try rw [h4]);replace h4:=zcl h4
    refine Q0 ?_
    refine Qb #[0,0,2,6,14,0,32,96,224,1,543,2047] Tryz.mixed (by decide +kernel) (by decide +kernel) ?_
    refine zd4 ?_
    refine zp1 ?_
    refine zd3 ?_
    refine zp1 ?_
    refine yEN rfl rfl rfl (zoa) (⟨.inr (ZS rfl Tryz.isAgg3 (GM rfl rfl)),⟨.inr (ZS rfl Tryz.isAgg3 (GM rfl rfl)),trivial⟩⟩) (trivial) ?_
    refine zd2 ?_
    refine RP.nil rfl ?_
    refine QN 0 (bs':=[.int .i64 vz.kind,.bool vz.b,.bool vz.n.neg,.str vz.n.digits,.int .i64 vz.n.exp,.str vz.s,.sl false 8 (Q7 vz.l),.sl false 9 (Q5 vz.m)]) rfl ⟨AVle.refl _,AVle.refl _,AVle.refl _,AVle.refl _,AVle.refl _,AVle.refl _,XA,Xt,trivial⟩ ?_
    refine zrt ?_
    have hE:Zp s=(vz,(KP s).bad,(KP s).spot):=by unfold Zp;rw [if_neg (by omega),if_neg (by assumption)]
    rw [hE,Q3];exact QH (Q9 (QI rfl rfl rfl) (Q9 (Z3 rfl) (Q9 (Z3 rfl) rfl))) hcl (by simp [rks,AV.lt,AV.ltL,Qx,Y1]) ⟨rfl,rfl⟩
   ·(try rw [h4]);replace h4:=zcl h4
    refine Q1 ?_
    refine zw4 ?_
    refine zrt ?_
    have hE:Zp s=((YY s).1,0,0):=by unfold Zp;rw [if_neg (by omega),if_pos (by assumption)]
    rw [hE,Q3];exact QH (Q9 (QI rfl rfl rfl) (Q9 (Z3 rfl) (Q9 (Z3 rfl) rfl))) hcl (by simp [rks,AV.lt,AV.ltL,Qx,Y1]) ⟨rfl,rfl⟩

theorem Q1r (s:ByteArray) (σ:List AO):ACalls Tryz.prog 10 [.str s] σ (Ret (.tup [.agg (Qf (QW s).1),.int .i64 (QW s).2]) σ):=by
 refine QS Tryz.func10 rfl Tryz.ntmps10 (by rw [Tryz.results10];exact (.ck Tryz.isAgg28 Tryz.sizeOf28 (.t .nil))) (Nat.le_of_ble_eq_true rfl) (fun hcl hal=>?_)
 refine zw2 ?_
 refine Q0 ?_
 refine zw3 ?_
 refine Q2 rfl (fun h1=>?_) (fun h1=>?_)
 ·(try rw [h1]);replace h1:=zcl h1
  refine zw3 ?_
  refine QN 0 (bs':=[.int .i64 vz.kind,.bool vz.b,.bool vz.n.neg,.str vz.n.digits,.int .i64 vz.n.exp,.str vz.s,.sl false 8 (Q7 vz.l),.sl false 9 (Q5 vz.m)]) rfl ⟨AVle.refl _,AVle.refl _,AVle.refl _,AVle.refl _,AVle.refl _,AVle.refl _,XA,Xt,trivial⟩ ?_
  refine zrt ?_
  have hE:QW s=(vz,0):=by unfold QW;rw [if_pos (by omega)]
  rw [hE,Q3];exact QH (Q9 (QI rfl rfl rfl) (Q9 (Z3 rfl) rfl)) hcl (by simp [rks,AV.lt,AV.ltL,Qx,Y1]) ⟨rfl,rfl⟩
 ·(try rw [h1]);replace h1:=zcl h1
  refine Q1 ?_
  refine zu1 ?_
  refine zt rfl (zc rfl (Qan s _ (by omega))) ?_
  rw [Q3 (Zp s).1]
  refine zv8 ?_
  refine Q0 ?_
  refine zw2 ?_
  refine Q2 rfl (fun h2=>?_) (fun h2=>?_)
  ·(try rw [h2]);replace h2:=zcl h2
   refine zw3 ?_
   refine QN 0 (bs':=[.int .i64 vz.kind,.bool vz.b,.bool vz.n.neg,.str vz.n.digits,.int .i64 vz.n.exp,.str vz.s,.sl false 8 (Q7 vz.l),.sl false 9 (Q5 vz.m)]) rfl ⟨AVle.refl _,AVle.refl _,AVle.refl _,AVle.refl _,AVle.refl _,AVle.refl _,XA,Xt,trivial⟩ ?_
   refine zrt ?_
   have hE:QW s=(vz,0):=by unfold QW;rw [if_neg (by omega),if_neg (by assumption)]
   rw [hE,Q3];exact QH (Q9 (QI rfl rfl rfl) (Q9 (Z3 rfl) rfl)) hcl (by simp [rks,AV.lt,AV.ltL,Qx,Y1]) ⟨rfl,rfl⟩
  ·(try rw [h2]);replace h2:=zcl h2
   refine Q1 ?_
   refine zw3 ?_
   refine zrt ?_
   have hE:QW s=((Zp s).1,1):=by unfold QW;rw [if_neg (by omega),if_pos (by assumption)]
   rw [hE,Q3];exact QH (Q9 (QI rfl rfl rfl) (Q9 (Z3 rfl) rfl)) hcl (by simp [rks,AV.lt,AV.ltL,Qx,Y1]) ⟨rfl,rfl⟩
end Lg
set_option maxRecDepth 20000
set_option maxHeartbeats 4000000
namespace Lg
open Go Go.Proofs Go.RowKit
variable [GLay] 
theorem Q0a (n : Nat) (G : Int → JV) (N : Int) : ∀ (t : JT) (deep frm : Int) (S : LS) (p q : Nat) (τ : List AO), Q6 (tv t) ≤ n → TP G N t deep frm S p q τ → ACalls Tryz.prog 13 [.ptr p 0, .pp (tc t), .int .i64 deep] τ (Ret (.int .i64 1) (tst τ p q frm (lk frm t S))) := by
  induction n with
  | zero => intro t deep frm S p q τ h; have := Qi (tv t); omega
  | succ n ih =>
    intro t deep frm S p q τ hn hP
    by_cases h4 : (tv t).kind = 4
    · exact Qd6 n G N ih t _ rfl deep frm S p q τ hn hP h4
    · by_cases h5 : (tv t).kind = 5
      · exact Qd7 n G N ih t _ rfl deep frm S p q τ hn hP h5
      · exact Qd5 n G N ih t _ rfl deep frm S p q τ hn hP ⟨h4, h5⟩
theorem Q6o (σ : List AO) : ACalls Tryz.prog 10 [.str ⟨#[91, 49, 93]⟩] σ (Ret (.tup [.agg (Qf (QW ex16).1), .int .i64 (QW ex16).2]) σ) := Q1r ex16 σ
theorem Qdg (σ : List AO) : ACalls Tryz.prog 9 [] σ (Ret (.bool true) σ) := by
 refine Qc Tryz.func9 rfl Tryz.ntmps9 (XE Tryz.results9) (Nat.le_of_ble_eq_true rfl) (fun hcl hal => ?_)
 refine zw1 ?_
 refine zsr ?_
 refine zt rfl (zc rfl (Q6o _)) ?_
 obtain ⟨hjb, hjs, ⟨x, hx⟩, hm0⟩ := Q9u
 generalize (QW ex16).1 = v at hjb hjs hx hm0 ⊢
 have hkl : K1 v = [x] := by simp [K1, hx, hm0]
 have hlc : (Q7 v.l).length = 1 := by rw [hx]; rfl
 rw [Q3 v]
 refine zv6 ?_
 refine zu1 ?_
 refine zt rfl (zc rfl (Q3 v ▸ Q2t v 5 _ hjb (by decide) (by omega))) ?_
 refine zv5 ?_
 refine Q0 ?_
 refine zu4 ?_
 refine ztG rfl rfl (Ja rfl rfl rfl (by omega)) ?_
 refine zg5 ?_
 refine ztG rfl rfl (Ja rfl rfl rfl (by rw [hlc]; rfl)) ?_
 refine zv1 ?_
 refine Qd rfl ?_
 refine Q1 ?_
 refine Q0 ?_
 refine Q0 ?_
 rw [Q2u v 5, hkl]
 refine Q4 ?_
 refine zg5 ?_
 refine zt rfl (Ja rfl rfl rfl (by rw [Q3H]; rfl)) ?_
 refine zg5 ?_
 refine ztG rfl rfl (Ja rfl rfl rfl rfl) ?_
 refine zv1 ?_
 refine Qd rfl ?_
 refine Q1 ?_
 refine Q0 ?_
 refine zu4 ?_
 refine zt rfl (Qe rfl Tryz.underlying55 Tryz.sizeOf34 rfl rfl (by omega) (rfl)) ?_
 refine zv2 ?_
 refine Qd rfl ?_
 refine Q1 ?_
 refine zu4 ?_
 refine zt rfl (Qe rfl Tryz.underlying55 Tryz.sizeOf34 rfl rfl (by omega) (rfl)) ?_
 refine zg2 ?_
 rw [Q2u x]
 refine zg2 ?_
 refine zt rfl (JI rfl rfl rfl (by decide)) ?_
 refine zv1 ?_
 refine zrt ?_
 exact Z5 rfl hcl trivial (Q8 rfl)

theorem Qcr (o : JOp) (os : List AV) (hos : XM o = os) (hob : OPB o) (σ : List AO) : ACalls Tryz.prog 17 [.agg os] σ (Ret (.int .i64 (Jy o)) σ) := by
 refine Qc Tryz.func17 rfl Tryz.ntmps17 (XE Tryz.results17) (Nat.le_of_ble_eq_true rfl) (fun hcl hal => ?_)
 subst hos
 rw [QP o]
 have hpl := Zd o.pa
 have hfl := Zd o.fr
 have hb1 := hob.pa
 have hb2 := hob.fr
 have hsz := hob.sz
 have hvp := Qi o.v
 refine zw2 ?_
 refine zw5 ?_
 refine QE (ι := Unit) (fun b => True) (fun b => ⟨[], [(1, .ptr (σ.length + 0) 0), (3, .int .i64 (Jy o - Q6 o.v))]⟩) (fun b => σ ++ [.box [.int .i64 o.op, .sl false 1 (Qy o.pa), .sl false 1 (Qy o.fr), .int .i64 o.v.kind, .bool o.v.b, .bool o.v.n.neg, .str o.v.n.digits, .int .i64 o.v.n.exp, .str o.v.s, .sl false 8 (Q7 o.v.l), .sl false 9 (Q5 o.v.m)]]) ?_ (fun b hj => ?_)
 ·skip
  refine zw3 ?_
  refine Q2 rfl (fun h1 => ?_) (fun h1 => ?_)
  ·(try rw [h1]); replace h1 := zcl h1
   refine Q4 ?_
   refine zv7 ?_
   rw [show Jy o - Q6 o.v = ((Qy o.pa).length : Int) + 1 + ((Qy o.fr).length : Int) + 1 by unfold Jy; rw [if_pos h1]; omega]
   exact ⟨(), trivial, ⟨rfl, rfl, rfl, trivial⟩, rfl⟩
  ·(try rw [h1]); replace h1 := zcl h1
   refine Q1 ?_
   rw [show Jy o - Q6 o.v = ((Qy o.pa).length : Int) + 1 by unfold Jy; rw [if_neg h1]; omega]
   exact ⟨(), trivial, ⟨rfl, rfl, rfl, trivial⟩, rfl⟩
 ·skip
  have hmo : Jy o - Q6 o.v ≤ 5000000 := by unfold Jy; split <;> omega
  have hmo2 : 0 ≤ Jy o - Q6 o.v := by unfold Jy; split <;> omega
  refine zu3 ?_
  refine zt rfl (zc rfl (Q3 o.v ▸ FX 3000 o.v _ (by omega) (by decide))) ?_
  refine zv2 ?_
  refine zrt ?_
  refine Z5 rfl hcl (by simp [AV.lt, AV.ltL]) (Q8 ?_)
  congr 1; omega
end Lg
set_option maxRecDepth 20000
set_option maxHeartbeats 4000000
namespace Lg
open Go Go.Proofs Go.RowKit
variable [GLay]
theorem Q4H (f:Bool) (l:List BL) (σ:List AO) (hl:l.length≤2000000) (hx:∀ x∈l,x.length≤1000000):ACalls Tryz.prog 116 [.sl f 1 (Qy l)] σ (Ret (.str (ba (shw l))) σ):=by
 refine Qc Tryz.func116 rfl Tryz.ntmps116 (XE Tryz.results116) (Nat.le_of_ble_eq_true rfl) (fun hcl hal=>?_)
 have hrl:=Zd l
 refine zw1 ?_
 refine zw1 ?_
 refine Q0 ?_
 refine zw1 ?_
 refine Qa ?_
 refine Qs (ι:=Nat) (fun i=>i≤l.length) (fun i=>⟨[],[(0,.sl f 1 (Qy l)),(2,.str ⟨#[]⟩),(3,.str (ba (shw (l.take i)))),(4,.int .i64 (i:Int))]⟩) (fun i=>σ) (fun i=>l.length - i) (0) (Nat.zero_le _) ?_ rfl (fun i hi=>?_)
 ·exact ⟨rfl,rfl,rfl,rfl,rfl,trivial⟩
 have hsl:=Q4P 1000000 (l.take i) (fun x h=>hx x (List.mem_of_mem_take h))
 have htl:(l.take i).length≤2000000:=by rw [List.length_take];omega
 have hsl2:(shw (l.take i)).length≤2000000 * 2000001:=Nat.le_trans hsl (Nat.mul_le_mul htl (Nat.le_refl _))
 refine Q0 ?_
 refine zw4 ?_
 refine Q2 rfl (fun h1=>?_) (fun h1=>?_)
 ·(try rw [h1]);replace h1:=zcl h1
  obtain ⟨nm,hxi⟩:∃ nm,l[i]? =some nm:=⟨_,List.getElem?_eq_getElem (show i < l.length by omega)⟩
  have hxr:=U0 hxi
  have hxl:=hx nm (List.mem_of_getElem? hxi)
  have z1:(ByteArray.mk #[47]).size=1:=rfl
  have z3:(ba (shw (l.take i))).size=(shw (l.take i)).length:=ZY _
  refine Q1 ?_
  refine Q0 ?_
  refine Qa ?_
  refine zw3 ?_
  refine zw1 ?_
  refine Qa ?_
  refine Qs (ι:=Nat) (fun j=>j≤nm.length) (fun j=>⟨[],[(0,.sl f 1 (Qy l)),(2,.str ⟨#[]⟩),(3,.str (ba (shw (l.take i)++47 :: XB (nm.take j)))),(4,.int .i64 (i:Int)),(5,.int .i64 (j:Int))]⟩) (fun j=>σ) (fun j=>nm.length - j) (0) (Nat.zero_le _) ?_ rfl (fun j hj=>?_)
  ·refine ⟨rfl,rfl,rfl,?_,rfl,rfl,trivial⟩
   rw [show (shw (l.take i)++47 :: XB (nm.take 0):BL)=shw (l.take i)++[47] by simp [XB],←VY];rfl
  refine Q0 ?_
  refine zu3 ?_
  refine zt rfl (Qe rfl Tryz.underlying51 Tryz.sizeOf9 rfl rfl (by omega) (hxr)) ?_
  refine zv3 ?_
  refine Q2 rfl (fun h2=>?_) (fun h2=>?_)
  ·(try rw [h2]);replace h2:=zcl h2
   have hbn:=ZY nm
   obtain ⟨c,hc⟩:∃ c,nm[j]? =some c:=⟨_,List.getElem?_eq_getElem (show j < nm.length by omega)⟩
   have hbc:bat (ba nm) (j:Int).toNat=c:=by rw [Int.toNat_natCast,Un,List.getD_eq_getElem?_getD,hc];rfl
   have hbj:bat (ba nm) j=c:=by rw [← hbc,Int.toNat_natCast]
   have he1:=Q0v (nm.take j)
   have htj:(nm.take j).length≤1000000:=by rw [List.length_take];omega
   have z2:(ba (shw (l.take i)++47 :: XB (nm.take j))).size=(shw (l.take i)).length+(XB (nm.take j)).length+1:=by rw [ZY,List.length_append,List.length_cons];omega
   have z4:(ByteArray.mk #[126,48]).size=2:=rfl
   have z5:(ByteArray.mk #[126,49]).size=2:=rfl
   have z6:∀ b:UInt8,(ByteArray.mk #[b]).size=1:=fun _=>rfl
   refine Q1 ?_
   refine Q0 ?_
   refine Qa ?_
   refine zu2 ?_
   refine zt rfl (Qe rfl Tryz.underlying51 Tryz.sizeOf9 rfl rfl (by omega) (hxr)) ?_
   refine zv3 ?_
   refine Qa ?_
   refine zw2 ?_
   refine Q2 rfl (fun h3=>?_) (fun h3=>?_)
   ·(try rw [h3]);replace h3:=zcl h3
    have h3:c=126:=by rw [hbj] at h3;exact UInt8.toNat_inj.1 (Int.ofNat.inj h3)
    refine Q4 ?_
    refine zv3 ?_
    refine Q4 ?_
    refine zv3 ?_
    have hes:XB (nm.take (j+1))=XB (nm.take j)++[126,48]:=by rw [QV hc];simp [XB,VQ,h3]
    refine ⟨j+1,σ.length,by omega,by omega,Nat.le_refl _,⟨rfl,rfl,rfl,?_,rfl,rfl,trivial⟩,hcl,by simp [ltE,AV.lt],List.take_length⟩
    rw [hes,show (shw (l.take i)++47 :: (XB (nm.take j)++[126,48]):BL)=(shw (l.take i)++47 :: XB (nm.take j))++[126,48] by simp,←VY];rfl
   ·(try rw [h3]);replace h3:=zcl h3
    have h3:¬c=126:=fun e=>by subst e;rw [hbj] at h3;exact h3 rfl
    refine zw2 ?_
    refine Q2 rfl (fun h4=>?_) (fun h4=>?_)
    ·(try rw [h4]);replace h4:=zcl h4
     have h4:c=47:=by rw [hbj] at h4;exact UInt8.toNat_inj.1 (Int.ofNat.inj h4)
     refine Q4 ?_
     refine zv3 ?_
     refine Q4 ?_
     refine zv3 ?_
     have hes:XB (nm.take (j+1))=XB (nm.take j)++[126,49]:=by rw [QV hc];simp [XB,VQ,h3,h4]
     refine ⟨j+1,σ.length,by omega,by omega,Nat.le_refl _,⟨rfl,rfl,rfl,?_,rfl,rfl,trivial⟩,hcl,by simp [ltE,AV.lt],List.take_length⟩
     rw [hes,show (shw (l.take i)++47 :: (XB (nm.take j)++[126,49]):BL)=(shw (l.take i)++47 :: XB (nm.take j))++[126,49] by simp,←VY];rfl
    ·(try rw [h4]);replace h4:=zcl h4
     have h4:¬c=47:=fun e=>by subst e;rw [hbj] at h4;exact h4 rfl
     refine Q4 ?_
     refine zg3 ?_
     refine zt rfl (Qe rfl Tryz.underlying51 Tryz.sizeOf9 rfl rfl (by omega) (hxr)) ?_
     refine zg3 ?_
     refine zt rfl (Ql [[_]] rfl Tryz.underlying116 Tryz.sizeOf5 Tryz.zeroValue5 rfl (by decide) (by decide) rfl rfl rfl rfl rfl) ?_
     refine zt rfl (Z4 (b:=⟨#[bat (ba nm) (j:Int).toNat]⟩) (m:=1) rfl Tryz.underlying116 Tryz.underlying5 Tryz.underlying9 rfl rfl rfl) ?_
     rw [hbc]
     have z7:=z6 c
     refine zv2 ?_
     refine Q4 ?_
     refine zv3 ?_
     have hes:XB (nm.take (j+1))=XB (nm.take j)++[c]:=by rw [QV hc];simp [XB,VQ,h3,h4]
     refine ⟨j+1,σ.length,by omega,by omega,Nat.le_refl _,⟨rfl,rfl,rfl,?_,rfl,rfl,trivial⟩,hcl,by simp [ltE,AV.lt],List.take_length⟩
     rw [hes,show (shw (l.take i)++47 :: (XB (nm.take j)++[c]):BL)=(shw (l.take i)++47 :: XB (nm.take j))++[c] by simp,←VY];rfl
  ·(try rw [h2]);replace h2:=zcl h2
   have hbn:=ZY nm
   have hje:j=nm.length:=by omega
   subst hje
   rw [List.take_length]
   refine Qg ?_
   refine Q4 ?_
   refine zv3 ?_
   refine ⟨i+1,σ.length,by omega,by omega,Nat.le_refl _,⟨rfl,rfl,rfl,?_,rfl,trivial⟩,hcl,by simp [ltE,AV.lt],List.take_length⟩
   rw [QV hxi,Q8H];rfl
 ·(try rw [h1]);replace h1:=zcl h1
  have hie:i=l.length:=by omega
  subst hie
  rw [List.take_length]
  refine Qg ?_
  refine zw2 ?_
  refine zrt ?_
  exact Qr rfl hcl trivial (Q8 rfl)
end Lg
set_option maxRecDepth 20000
set_option maxHeartbeats 4000000
namespace Lg
open Go Go.Proofs Go.RowKit
variable [GLay]
theorem Q9k {x y:BL} (h:ba x=ba y):x=y:=by
  have:=congrArg (fun b=>b.data.toList) h
  simpa only [Zu] using this
theorem Qbl (f g:Bool) (a b:List BL) (ea eb:List (List AV)) (σ:List AO) (ha:ea=Qy a) (hb:eb=Qy b) (hl:a.length≤100000000) (hl2:b.length≤100000000):ACalls Tryz.prog 109 [.sl f 1 ea,.sl g 1 eb] σ (Ret (.bool (decide (a=b))) σ):=by
 refine Qc Tryz.func109 rfl Tryz.ntmps109 (XE Tryz.results109) (Nat.le_of_ble_eq_true rfl) (fun hcl hal=>?_)
 subst ha
 subst hb
 have hra:=Zd a
 have hrb:=Zd b
 refine zw1 ?_
 refine Q0 ?_
 refine zw5 ?_
 refine Q2 rfl (fun h1=>?_) (fun h1=>?_)
 ·(try rw [h1]);replace h1:=zcl h1
  refine zw1 ?_
  refine zrt ?_
  rw [decide_eq_false (fun e:a=b=>by subst e;omega)]
  exact Qr rfl hcl trivial (Q8 rfl)
 ·(try rw [h1]);replace h1:=zcl h1
  refine Q1 ?_
  refine Q0 ?_
  refine zw3 ?_
  refine Qa ?_
  refine Qs (ι:=Nat) (fun i=>i≤a.length∧a.take i=b.take i) (fun i=>⟨[],[(0,.sl f 1 (Qy a)),(1,.sl g 1 (Qy b)),(12,.int .i64 ((Qy a).length:Int)),(13,.int .i64 (i:Int))]⟩) (fun i=>σ) (fun i=>a.length - i) (0) (⟨Nat.zero_le _,by simp⟩) ?_ rfl (fun i hi=>?_)
  ·exact ⟨rfl,rfl,rfl,rfl,rfl,trivial⟩
  obtain ⟨hi1,hi2⟩:=hi
  refine zw1 ?_
  refine Q0 ?_
  refine Q2 rfl (fun h2=>?_) (fun h2=>?_)
  ·(try rw [h2]);replace h2:=zcl h2
   obtain ⟨x,hxa⟩:∃ x,a[i]? =some x:=⟨_,List.getElem?_eq_getElem (show i < a.length by omega)⟩
   obtain ⟨y,hyb⟩:∃ y,b[i]? =some y:=⟨_,List.getElem?_eq_getElem (show i < b.length by omega)⟩
   have hxr:=U0 hxa
   have hyr:=U0 hyb
   refine Q1 ?_
   refine Q0 ?_
   refine Qa ?_
   refine zw2 ?_
   refine Q0 ?_
   refine Qb #[0,0,3,7,0,0,48,112,255] Tryz.mixed (by decide +kernel) (by decide +kernel) ?_
   refine zd2 ?_
   refine yA rfl rfl (fun _=>Qe rfl Tryz.underlying51 Tryz.sizeOf9 rfl rfl (by omega) (hxr)) ?_
   refine zp1 ?_
   refine zd2 ?_
   refine yA rfl rfl (fun _=>Qe rfl Tryz.underlying51 Tryz.sizeOf9 rfl rfl (by omega) (hyr)) ?_
   refine zp1 ?_
   refine zd1 ?_
   refine RP.nil rfl ?_
   refine Q2 rfl (fun h3=>?_) (fun h3=>?_)
   ·(try rw [h3]);replace h3:=zcl h3
    refine zw1 ?_
    refine zrt ?_
    rw [decide_eq_false (fun e:a=b=>by subst e;rw [hxa] at hyb;exact h3 (by rw [Option.some.inj hyb]))]
    exact Qr rfl hcl trivial (Q8 rfl)
   ·(try rw [h3]);replace h3:=zcl h3
    refine Q1 ?_
    refine Q4 ?_
    refine zv2 ?_
    refine ⟨i+1,σ.length,⟨by omega,?_⟩,by omega,Nat.le_refl _,⟨rfl,rfl,rfl,rfl,rfl,trivial⟩,hcl,by simp [ltE,AV.lt],List.take_length⟩
    have hxy:x=y:=Q9k h3
    rw [QV hxa,QV hyb,hi2,hxy]
  ·(try rw [h2]);replace h2:=zcl h2
   refine Qg ?_
   refine zw1 ?_
   refine zrt ?_
   rw [decide_eq_true (show a=b by rw [← List.take_length (l:=a),show a.length=i by omega,hi2,show i=b.length by omega,List.take_length])]
   exact Qr rfl hcl trivial (Q8 rfl)

theorem Qbk (f g:Bool) (a b:List BL) (ea eb:List (List AV)) (σ:List AO) (ha:ea=Qy a) (hb:eb=Qy b) (hl:a.length≤2000000) (hl2:b.length≤2000000) (hn:∀ x∈a,x.length≤1000000) (hn2:∀ x∈b,x.length≤1000000):ACalls Tryz.prog 70 [.sl f 1 ea,.sl g 1 eb] σ (Ret (.bool (decide (a=b))) σ):=by
 refine Qc Tryz.func70 rfl Tryz.ntmps70 (XE Tryz.results70) (Nat.le_of_ble_eq_true rfl) (fun hcl hal=>?_)
 subst ha
 subst hb
 refine zw1 ?_
 refine zu1 ?_
 refine zt rfl (zc rfl (Q4H f a _ hl hn)) ?_
 refine zg1 ?_
 refine zt rfl (zc rfl (Q4H g b _ hl2 hn2)) ?_
 refine zv2 ?_
 refine zrt ?_
 refine Qr rfl hcl trivial (Q8 ?_)
 congr 1;exact decide_eq_decide.2 QaB
end Lg
set_option maxRecDepth 20000
set_option maxHeartbeats 4000000
namespace Lg
open Go Go.Proofs Go.RowKit
variable [GLay]
theorem QcS (s:BL) (σ:List AO) (hs:s.length≤1000000):ACalls Tryz.prog 52 [.str (ba s)] σ (Ret (.tup [.sl false 1 (Qy (pN s)),.int .i64 (pEi s)]) σ):=by
 refine Qc Tryz.func52 rfl Tryz.ntmps52 (J5 Tryz.results52) (Nat.le_of_ble_eq_true rfl) (fun hcl hal=>?_)
 have hbz:(ba s).size=s.length:=ZY s
 refine zw2 ?_
 refine Q0 ?_
 refine zw2 ?_
 refine Q2 rfl (fun h1=>?_) (fun h1=>?_)
 ·(try rw [h1]);replace h1:=zcl h1
  have hs0:s=[]:=Q2V.1 h1
  refine zw2 ?_
  refine Zb 2 rfl (AVle.nils false 1) ?_ (by decide)
  refine zrt ?_
  subst hs0
  exact QM rfl rfl hcl (by simp [AV.lt,AV.ltL,AV.ltLL]) (Q8 rfl)
 ·(try rw [h1]);replace h1:=zcl h1
  have hs0:¬s=[]:=fun e=>h1 (Q2V.2 e)
  have hsl:0 < s.length:=List.length_pos_iff.2 hs0
  refine Q1 ?_
  refine Q0 ?_
  refine zw3 ?_
  refine Q2 rfl (fun h2=>?_) (fun h2=>?_)
  ·(try rw [h2]);replace h2:=zcl h2
   have h47:¬s[0]? =some 47:=fun e=>h2 ((g47 hsl).1 e)
   refine zw2 ?_
   refine Zb 2 rfl (AVle.nils false 1) ?_ (by decide)
   refine zrt ?_
   have hE:pE s=some 0:=by unfold pE;rw [if_neg hs0,if_pos h47]
   rw [Q86 hE,Q0T hs0 hE]
   exact QM rfl rfl hcl (by simp [AV.lt,AV.ltL,AV.ltLL]) (Q8 rfl)
  ·(try rw [h2]);replace h2:=zcl h2
   have h47:s[0]? =some 47:=(g47 hsl).2 h2
   refine Q1 ?_
   refine zw1 ?_
   refine Q0 ?_
   refine Q0 ?_
   refine Kq 4 1 rfl ?_ (by decide)
   refine Q4 ?_
   refine zv1 ?_
   refine Qa ?_
   refine Qs (ι:=Nat×List BL×Nat) (fun z=>PAt s z.1 z.2.1) (fun z=>⟨[],[(0,.str (ba s)),(4,.arr (σ.length+0) z.2.2 1 0 z.2.1.length),(5,.int .i64 (z.1:Int))]⟩) (fun z=>σ++[.arr 1 z.2.2 (Qy z.2.1).flatten]) (fun z=>s.length - z.1) ((0,[],0)) (PAt.zero s) ?_ rfl (fun z hz=>?_)
   ·exact ⟨rfl,rfl,rfl,rfl,trivial⟩
   obtain ⟨i,L,g⟩:=z
   simp only at hz ⊢
   have hzl:=hz.le
   have hzn:=hz.len
   have z1:∀ c:UInt8,(ByteArray.mk #[c]).size=1:=fun c=>rfl
   refine Q0 ?_
   refine zw4 ?_
   refine Q2 rfl (fun h3=>?_) (fun h3=>?_)
   ·(try rw [h3]);replace h3:=zcl h3
    refine Q1 ?_
    refine Q0 ?_
    refine Qa ?_
    refine zw4 ?_
    refine Q0 ?_
    refine zw2 ?_
    refine Q2 rfl (fun h4=>?_) (fun h4=>?_)
    ·(try rw [h4]);replace h4:=zcl h4
     have hz47:=(g47 (show i < s.length by omega)).2 h4
     refine zu1 ?_
     refine zt rfl (Ql [[_]] rfl Tryz.underlying51 Tryz.sizeOf9 Tryz.zeroValue9 rfl (by decide) (by decide) rfl rfl rfl rfl rfl) ?_
     refine zt rfl (Qv rfl 0 (sz:=1) (m:=1) (len:=L.length) (cs:=[.str ⟨#[]⟩]) rfl (.inr ⟨_,rfl⟩) Tryz.underlying51 Tryz.underlying51 Tryz.type9 rfl rfl rfl (by decide) rfl rfl (by rw [Yn,Nat.mul_one]) rfl rfl rfl (by show (L.length+1) * 16≤_;omega) (by omega) rfl) ?_
     refine zv1 ?_
     refine Qg ?_
     refine Q4 ?_
     refine zv3 ?_
     have hp9:=hz.slash hz47
     refine ⟨(i+1,L++[[]],g+1),σ.length+1,hp9,by have:=hp9.le;simp only;omega,by simp,⟨rfl,rfl,by rw [List.length_append];rfl,rfl,trivial⟩,Qh 1 hcl ?_,?_,?_⟩
     ·simp [ownLt,AO.cells,Z0,AV.ltL,AV.lt,Vu]
     ·simp [ltE,AV.lt]
     ·refine (Qo 1).trans ?_
      rw [VF];rfl
    ·(try rw [h4]);replace h4:=zcl h4
     have hn47:¬s[i]? =some 47:=fun e=>h4 ((g47 (show i < s.length by omega)).1 e)
     have hi1:1≤i:=by rcases Nat.eq_zero_or_pos i with e|e;subst e;exact absurd h47 hn47;exact e
     obtain ⟨ps,q,hLq⟩:=hz.last hi1
     have hqs:=hz.el q (by rw [hLq];simp)
     have hLl:=hz.len
     subst hLq
     have hLp:1≤(ps++[q]).length:=by rw [List.length_append];simp
     have hqz:(ba q).size=q.length:=ZY q
     have hlst:=Q6b ps q
     refine Q1 ?_
     refine Q0 ?_
     refine zw2 ?_
     refine Q2 rfl (fun h5=>?_) (fun h5=>?_)
     ·(try rw [h5]);replace h5:=zcl h5
      have hz126:=(Qc5 (show i < s.length by omega)).2 h5
      refine Q0 ?_
      refine zw5 ?_
      refine Q2 rfl (fun h6=>?_) (fun h6=>?_)
      ·(try rw [h6]);replace h6:=zcl h6
       refine zw3 ?_
       refine Zb 2 rfl (AVle.nils false 1) ?_ (by decide)
       refine zrt ?_
       have ht:VK s i=true:=Q8Q (show i < s.length by omega) h5 (.inl (by omega))
       have hE:pE s=some i:=Qbi hs0 h47 (show i < s.length by omega) ht hz.bad
       rw [Q86 hE,Q0T hs0 hE]
       exact JN rfl rfl hcl (by simp [AV.lt,AV.ltL,AV.ltLL]) (Q8 rfl)
      ·(try rw [h6]);replace h6:=zcl h6
       refine Q1 ?_
       refine zw3 ?_
       refine Q0 ?_
       refine zu5 ?_
       refine zsp 40 rfl (fun h7=>?_) fun h7=>?_
       ·rw [h7];replace h7:=zcl h7
        refine zv5 ?_
        refine Q2 rfl (fun h8=>?_) (fun h8=>?_)
        ·(try rw [h8]);replace h8:=zcl h8
         refine zw4 ?_
         refine Zb 2 rfl (AVle.nils false 1) ?_ (by decide)
         refine zrt ?_
         have ht:VK s i=true:=Q8Q (show i < s.length by omega) h5 (.inr ⟨h7,h8⟩)
         have hE:pE s=some i:=Qbi hs0 h47 (show i < s.length by omega) ht hz.bad
         rw [Q86 hE,Q0T hs0 hE]
         exact JN rfl rfl hcl (by simp [AV.lt,AV.ltL,AV.ltLL]) (Q8 (by rw [show (i:Int)+1 - 1=i by omega];rfl))
        ·(try rw [h8]);replace h8:=zcl h8
         refine Q1 ?_
         refine zw1 ?_
         refine zw4 ?_
         refine Q2 rfl (fun h9=>?_) (fun h9=>?_)
         ·(try rw [h9]);replace h9:=zcl h9
          have hi9:=hz126
          refine Q4 ?_
          refine zv1 ?_
          refine Qb #[0,0,2,6,0,0,32,96,240,496,0,1024,3072,8176,16383,32767] Tryz.mixed (by decide +kernel) (by decide +kernel) ?_
          refine zd2 ?_
          refine yP rfl rfl (ZZ rfl rfl Tryz.underlying51 rfl rfl ⟨1,_,Zz 0⟩) (trivial) ?_
          refine zd3 ?_
          refine yP rfl rfl (ZZ rfl rfl Tryz.underlying51 rfl rfl ⟨1,_,Zz 0⟩) (trivial) ?_
          refine zd1 ?_
          refine yP rfl rfl (Xo (j:=0) rfl Tryz.underlying51 Tryz.sizeOf9 rfl rfl (by omega) (by omega) rfl) (trivial) ?_
          refine yP rfl rfl (ZS rfl Tryz.isAgg9 (Q3b (j:=0) (i:=(ps++[q]).length - 1) rfl hlst (by omega))) (trivial) ?_
          refine zd1 ?_
          refine yA rfl rfl (fun _=>Ql [[_]] rfl Tryz.underlying116 Tryz.sizeOf5 Tryz.zeroValue5 rfl (by decide) (by decide) rfl rfl rfl rfl rfl) ?_
          refine yA rfl rfl (fun _=>(by first|exact Z4 (b:=⟨#[126]⟩) (m:=1) rfl Tryz.underlying116 Tryz.underlying5 Tryz.underlying9 rfl rfl rfl|exact Z4 (b:=⟨#[47]⟩) (m:=1) rfl Tryz.underlying116 Tryz.underlying5 Tryz.underlying9 rfl rfl rfl|exact Z4 (b:=⟨#[bat (ba s) i]⟩) (m:=1) rfl Tryz.underlying116 Tryz.underlying5 Tryz.underlying9 rfl rfl rfl)) ?_
          refine yA rfl rfl (fun _=>Q0M rfl rfl rfl (by rw [hqz];show q.length+1≤_;omega)) ?_
          refine yP rfl rfl (Xo (j:=0) rfl Tryz.underlying51 Tryz.sizeOf9 rfl rfl (by omega) (by omega) rfl) (trivial) ?_
          refine yEN rfl rfl rfl (W5 (j:=0) (i:=(ps++[q]).length - 1) rfl Tryz.sizeOf9 rfl rfl (by omega) rfl (by rw [Yn];omega)) (⟨.inl rfl,⟨.inl rfl,⟨.inl rfl,⟨.inl rfl,⟨.inl rfl,trivial⟩⟩⟩⟩⟩) (trivial) ?_
          refine RP.nil rfl ?_
          refine Q4 ?_
          refine zv3 ?_
          have hz49:=(g49 (show i+1 < s.length by omega)).2 h8
          have hp9:=hz.esc hi1 rfl hz126 hz49 (.inr rfl)
          refine ⟨(i+1+1,ps++[q++[47]],g),σ.length+1,hp9,by have:=hp9.le;simp only;omega,by simp,⟨rfl,rfl,by rw [List.length_append,List.length_append];rfl,rfl,trivial⟩,Qh 1 hcl ?_,?_,?_⟩
          ·simp [ownLt,AO.cells];rw [AV.ltL_iff];intro a ha;rcases List.mem_or_eq_of_mem_set ha with h|rfl;exact (AV.ltL_iff _ _).1 (Vu (U1 _ _)) a h;trivial
          ·simp [ltE,AV.lt]
          ·refine (Qo 1).trans ?_
           rw [← UX ps q (q++[47]),←VY];rfl
         ·(try rw [h9]);replace h9:=zcl h9
          exact absurd h8 h9
       ·rw [h7];replace h7:=zcl h7
        refine zv5 ?_
        refine Qd rfl ?_
        refine Q1 ?_
        refine zw1 ?_
        refine zw4 ?_
        refine Q2 rfl (fun h10=>?_) (fun h10=>?_)
        ·(try rw [h10]);replace h10:=zcl h10
         omega
        ·(try rw [h10]);replace h10:=zcl h10
         refine Q1 ?_
         refine Qb #[0,0,2,6,0,0,32,96,240,496,0,1024,3072,8176,16383,32767] Tryz.mixed (by decide +kernel) (by decide +kernel) ?_
         refine zd2 ?_
         refine yP rfl rfl (ZZ rfl rfl Tryz.underlying51 rfl rfl ⟨1,_,Zz 0⟩) (trivial) ?_
         refine zd3 ?_
         refine yP rfl rfl (ZZ rfl rfl Tryz.underlying51 rfl rfl ⟨1,_,Zz 0⟩) (trivial) ?_
         refine zd1 ?_
         refine yP rfl rfl (Xo (j:=0) rfl Tryz.underlying51 Tryz.sizeOf9 rfl rfl (by omega) (by omega) rfl) (trivial) ?_
         refine yP rfl rfl (ZS rfl Tryz.isAgg9 (Q3b (j:=0) (i:=(ps++[q]).length - 1) rfl hlst (by omega))) (trivial) ?_
         refine zd1 ?_
         refine yA rfl rfl (fun _=>Ql [[_]] rfl Tryz.underlying116 Tryz.sizeOf5 Tryz.zeroValue5 rfl (by decide) (by decide) rfl rfl rfl rfl rfl) ?_
         refine yA rfl rfl (fun _=>(by first|exact Z4 (b:=⟨#[126]⟩) (m:=1) rfl Tryz.underlying116 Tryz.underlying5 Tryz.underlying9 rfl rfl rfl|exact Z4 (b:=⟨#[47]⟩) (m:=1) rfl Tryz.underlying116 Tryz.underlying5 Tryz.underlying9 rfl rfl rfl|exact Z4 (b:=⟨#[bat (ba s) i]⟩) (m:=1) rfl Tryz.underlying116 Tryz.underlying5 Tryz.underlying9 rfl rfl rfl)) ?_
         refine yA rfl rfl (fun _=>Q0M rfl rfl rfl (by rw [hqz];show q.length+1≤_;omega)) ?_
         refine yP rfl rfl (Xo (j:=0) rfl Tryz.underlying51 Tryz.sizeOf9 rfl rfl (by omega) (by omega) rfl) (trivial) ?_
         refine yEN rfl rfl rfl (W5 (j:=0) (i:=(ps++[q]).length - 1) rfl Tryz.sizeOf9 rfl rfl (by omega) rfl (by rw [Yn];omega)) (⟨.inl rfl,⟨.inl rfl,⟨.inl rfl,⟨.inl rfl,⟨.inl rfl,trivial⟩⟩⟩⟩⟩) (trivial) ?_
         refine RP.nil rfl ?_
         refine Q4 ?_
         refine zv3 ?_
         have hz48:=(g48 (show i+1 < s.length by omega)).2 h7
         have hp9:=hz.esc hi1 rfl hz126 hz48 (.inl rfl)
         refine ⟨(i+1+1,ps++[q++[126]],g),σ.length+1,hp9,by have:=hp9.le;simp only;omega,by simp,⟨rfl,rfl,by rw [List.length_append,List.length_append];rfl,rfl,trivial⟩,Qh 1 hcl ?_,?_,?_⟩
         ·simp [ownLt,AO.cells];rw [AV.ltL_iff];intro a ha;rcases List.mem_or_eq_of_mem_set ha with h|rfl;exact (AV.ltL_iff _ _).1 (Vu (U1 _ _)) a h;trivial
         ·simp [ltE,AV.lt]
         ·refine (Qo 1).trans ?_
          rw [← UX ps q (q++[126]),←VY];rfl
     ·(try rw [h5]);replace h5:=zcl h5
      have hn126:¬s[i]? =some 126:=fun e=>h5 ((Qc5 (show i < s.length by omega)).1 e)
      refine Q1 ?_
      refine Qb #[0,0,2,6,0,0,32,96,240,496,0,1024,3072,8176,16383,32767] Tryz.mixed (by decide +kernel) (by decide +kernel) ?_
      refine zd2 ?_
      refine yP rfl rfl (ZZ rfl rfl Tryz.underlying51 rfl rfl ⟨1,_,Zz 0⟩) (trivial) ?_
      refine zd3 ?_
      refine yP rfl rfl (ZZ rfl rfl Tryz.underlying51 rfl rfl ⟨1,_,Zz 0⟩) (trivial) ?_
      refine zd1 ?_
      refine yP rfl rfl (Xo (j:=0) rfl Tryz.underlying51 Tryz.sizeOf9 rfl rfl (by omega) (by omega) rfl) (trivial) ?_
      refine yP rfl rfl (ZS rfl Tryz.isAgg9 (Q3b (j:=0) (i:=(ps++[q]).length - 1) rfl hlst (by omega))) (trivial) ?_
      refine zd1 ?_
      refine yA rfl rfl (fun _=>Ql [[_]] rfl Tryz.underlying116 Tryz.sizeOf5 Tryz.zeroValue5 rfl (by decide) (by decide) rfl rfl rfl rfl rfl) ?_
      refine yA rfl rfl (fun _=>(by first|exact Z4 (b:=⟨#[126]⟩) (m:=1) rfl Tryz.underlying116 Tryz.underlying5 Tryz.underlying9 rfl rfl rfl|exact Z4 (b:=⟨#[47]⟩) (m:=1) rfl Tryz.underlying116 Tryz.underlying5 Tryz.underlying9 rfl rfl rfl|exact Z4 (b:=⟨#[bat (ba s) i]⟩) (m:=1) rfl Tryz.underlying116 Tryz.underlying5 Tryz.underlying9 rfl rfl rfl)) ?_
      refine yA rfl rfl (fun _=>Q0M rfl rfl rfl (by rw [hqz];show q.length+1≤_;omega)) ?_
      refine yP rfl rfl (Xo (j:=0) rfl Tryz.underlying51 Tryz.sizeOf9 rfl rfl (by omega) (by omega) rfl) (trivial) ?_
      refine yEN rfl rfl rfl (W5 (j:=0) (i:=(ps++[q]).length - 1) rfl Tryz.sizeOf9 rfl rfl (by omega) rfl (by rw [Yn];omega)) (⟨.inl rfl,⟨.inl rfl,⟨.inl rfl,⟨.inl rfl,⟨.inl rfl,trivial⟩⟩⟩⟩⟩) (trivial) ?_
      refine RP.nil rfl ?_
      refine Q4 ?_
      refine zv3 ?_
      have hzb:s[i]? =some (bat (ba s) i):=(Hp (show i < s.length by omega)).2 rfl
      have hp9:=hz.byte hi1 rfl hzb (fun e=>hn47 (hzb.trans (congrArg some e))) (fun e=>hn126 (hzb.trans (congrArg some e)))
      refine ⟨(i+1,ps++[q++[bat (ba s) i]],g),σ.length+1,hp9,by have:=hp9.le;simp only;omega,by simp,⟨rfl,rfl,by rw [List.length_append,List.length_append];rfl,rfl,trivial⟩,Qh 1 hcl ?_,?_,?_⟩
      ·simp [ownLt,AO.cells];rw [AV.ltL_iff];intro a ha;rcases List.mem_or_eq_of_mem_set ha with h|rfl;exact (AV.ltL_iff _ _).1 (Vu (U1 _ _)) a h;trivial
      ·simp [ltE,AV.lt]
      ·refine (Qo 1).trans ?_
       rw [← UX ps q (q++[bat (ba s) i]),←VY];rfl
   ·(try rw [h3]);replace h3:=zcl h3
    refine Qg ?_
    refine Q0 ?_
    have hie:i=s.length:=by omega
    subst hie
    obtain ⟨hE,hN⟩:=hz.done hs0 h47
    refine Wh 4 0 g 1 L.length (Qy L) rfl rfl (QaD _) (Zd _) (by decide) ?_ (by decide)
    refine Q4 ?_
    refine zv3 ?_
    refine zrt ?_
    rw [hN,QdL hE]
    exact JN rfl rfl hcl (by simp [AV.lt,AV.ltL]) (Q8 rfl)
end Lg
namespace Lg
open Go Go.RowKit
variable [GLay]
variable {P:Program} {N:Nat} {σ l:List AO} {e:Env} {Q:QA} {o:Oper}
theorem Q1w {c:Code} (t p off:Nat) (T:TypeId) {cs:List AV} (hl:Zc e.l t=some (.iface T (.ptr p off))) (hσ:σ[p]? =some (.box cs)) (k:AWp P N c (e.put (some t) (.iface T (.pp (cs.drop off)))) (σ.set p .gone) Q) (ht:t < N):AWp P N c e σ Q:=fun s0 s a hs g x he=>by
 subst hs
 have hv:=he.tmps t
 rw [show e.look t= .iface T (.ptr p off) from QQ hl] at hv
 obtain ⟨v,hv0,hv1⟩:=hv.inv_iface
 obtain ⟨s',e1,e2,g',x',hv'⟩:=Gi g hσ hv1
 have hv2:V s' (.iface T (.pp (cs.drop off))) (a.eval (.tmp t)):=by rw [hv0];exact .iface _ _ _ hv'
 have:=k s0 s' a e1 g' (x.trans x') (by
  have h1:=(he.mono g x').put (some t) hv2 (fun d hd=>by cases hd;exact ht)
  have h2:a.put (some t) (a.eval (.tmp t))=a:=Ka (by rw [he.size];exact ht)
  rwa [h2] at h1)
 rwa [e2] at this
section asserts
variable {T U U' E:TypeId} {x:Operand} {v:AV}
theorem Q3n (ho:o.op= .typeAssert x T U true) (hu:P.underlying U=some (.pointer E)) (hx:opO e x=some (.iface U v)):AOp P σ e o (.tup [v,.bool true]) σ:=
 .of_run fun s a hs g hv=>by
  have h1:=hv x (by simp [ho,Op.operands])
  rw [Qp hx] at h1
  obtain ⟨w,h2,h3⟩:=h1.inv_iface
  refine ⟨.tuple #[w,.bool true],?_,.tup [v,.bool true] [w,.bool true] rfl (fun i c z e1 e2=>by
   match i,e1,e2 with
   |0,e1,e2=>cases e1;cases e2;exact h3
   |1,e1,e2=>cases e1;cases e2;exact .bool _)⟩
  simp [execOp,ho,h2,Instr.typeAssert,run_underlying hu]
end asserts
end Lg
set_option maxRecDepth 20000
set_option maxHeartbeats 4000000
namespace Lg
open Go Go.Proofs Go.RowKit
variable [GLay]
def Q9t:Option (Int×Int)→AV
 |none=>.nili
 |some z=>.iface 99 (.pp [.int .i64 z.1,.int .i64 z.2])
end Lg
set_option maxRecDepth 20000
set_option maxHeartbeats 4000000
namespace Lg
open Go Go.Proofs Go.RowKit
variable [GLay]
theorem Qay (s:ByteArray) (σ:List AO) (hs:s.size≤1000000):ACalls Tryz.prog 52 [.str s] σ (Ret (.tup [.sl false 1 (Qy (pN s.data.toList)),.int .i64 (pEi s.data.toList)]) σ):=by
 have hl:s.data.toList.length=s.size:=Array.length_toList ..
 have h:=QcS s.data.toList σ (by omega)
 rw [← Q6A] at h;exact h
theorem YX (v:JV) (key:ByteArray) (cs:List AV) (σ:List AO) (hc:Qf v=cs) (hb:v.m.length≤1000000):ACalls Tryz.prog 54 [.agg cs,.str key] σ (Ret (.tup [.agg (Qf (jfD v key)),.bool (jfB v key)]) σ):=by
 subst hc;exact FindR.ret (Q4E v key σ hb)
end Lg
set_option maxRecDepth 20000
set_option maxHeartbeats 4000000
namespace Lg
open Go Go.Proofs Go.RowKit
variable [GLay]
theorem Qar (op:Int) (x:JV) (xs:List AV) (hxs:Qf x=xs) (f:Bool) (v:JV) (cs:List AV) (σ:List AO) (hc:Qf v=cs):ACalls Tryz.prog 69 [.int .i64 op,.agg cs,.sl f 1 (Qy []),.agg xs] σ (Ret (.tup [.agg (Qf (jed op x [] v).1),.int .i64 (jed op x [] v).2]) σ):=by
 refine QS Tryz.func69 rfl Tryz.ntmps69 (by rw [Tryz.results69];exact (.ck Tryz.isAgg28 Tryz.sizeOf28 (.t .nil))) (Nat.le_of_ble_eq_true rfl) (fun hcl hal=>?_)
 subst hc
 subst hxs
 rw [Q3 v,Q3 x]
 refine zw4 ?_
 refine Q0 ?_
 refine zu2 ?_
 refine zt rfl (JI rfl rfl rfl rfl) ?_
 refine zon ?_
 refine Qj rfl ?_
 refine Q0 ?_
 refine zw2 ?_
 refine Q2 rfl (fun h1=>?_) (fun h1=>?_)
 ·(try rw [h1]);replace h1:=zcl h1
  refine zw3 ?_
  refine QN 2 (bs':=[.int .i64 vz.kind,.bool vz.b,.bool vz.n.neg,.str vz.n.digits,.int .i64 vz.n.exp,.str vz.s,.sl false 8 (Q7 vz.l),.sl false 9 (Q5 vz.m)]) rfl ⟨AVle.refl _,AVle.refl _,AVle.refl _,AVle.refl _,AVle.refl _,AVle.refl _,XA,Xt,trivial⟩ ?_
  refine zrt ?_
  subst h1
  rw [V5,Q3]
  exact QH (Q9 (QI rfl rfl rfl) (Q9 (Z3 rfl) rfl)) hcl (by simp [rks,AV.lt,AV.ltL]) ⟨rfl,rfl⟩
 ·(try rw [h1]);replace h1:=zcl h1
  refine Q1 ?_
  refine zw3 ?_
  refine zrt ?_
  rw [Vx h1,Q3 x]
  exact QH (Q9 (QI rfl rfl rfl) (Q9 (Z3 rfl) rfl)) hcl (by simp [rks,AV.lt,AV.ltL]) ⟨rfl,rfl⟩

theorem Qas (op:Int) (x:JV) (xs:List AV) (hxs:Qf x=xs) (r:List BL) (ih:∀ (v:JV) (cs:List AV) (es:List (List AV)) (σ:List AO),Qf v=cs→es=Qy r→jb v→ACalls Tryz.prog 69 [.int .i64 op,.agg cs,.sl false 1 es,.agg xs] σ (Ret (.tup [.agg (Qf (jed op x r v).1),.int .i64 (jed op x r v).2]) σ)) (f:Bool) (nm:BL) (v:JV) (cs:List AV) (σ:List AO) (hc:Qf v=cs) (hjb:jb v) (hop:1≤op∧op≤3) (hnm:nm.length≤1000000) (hk4:v.kind=4):ACalls Tryz.prog 69 [.int .i64 op,.agg cs,.sl f 1 (Qy (nm :: r)),.agg xs] σ (Ret (.tup [.agg (Qf (jed op x (nm :: r) v).1),.int .i64 (jed op x (nm :: r) v).2]) σ):=by
 refine QS Tryz.func69 rfl Tryz.ntmps69 (by rw [Tryz.results69];exact (.ck Tryz.isAgg28 Tryz.sizeOf28 (.t .nil))) (Nat.le_of_ble_eq_true rfl) (fun hcl hal=>?_)
 subst hc
 obtain ⟨last,hlast⟩:∃ b,r.isEmpty=b:=⟨_,rfl⟩
 have hls:decide ((((Qy (nm :: r)).length:Nat):Int)=1)=last:=by rw [← hlast,Zd,List.length_cons];cases r<;>simp<;>omega
 obtain ⟨hb1,hb2,hb3,hb4,hb5,hb6⟩:=(Zy v).1 hjb
 have hll:=QG v.l
 have hml:=QK v.m
 have hsl:1≤(Qy (nm :: r)).length:=by rw [Zd,List.length_cons];omega
 rw [Q3 v,←hxs,Q3 x]
 rw [← hxs,Q3 x] at ih
 have hix:∀ (e:Bool) (τ:List AO),e=(decide (op=1) && last)→ACalls Tryz.prog 53 [.str (ba nm),.int .i64 ((Q7 v.l).length:Int),.bool e] τ (Ret (.tup [.int .i64 (jeK op nm last v),.bool (jeO op nm last v)]) τ):=by
  intro e τ he;subst he;rw [hll];exact Q8p nm v.l.length _ τ hnm (by omega)
 refine zw4 ?_
 refine Q0 ?_
 refine zu2 ?_
 refine zt rfl (Xx rfl rfl rfl (by rw [Zd,List.length_cons];omega)) ?_
 refine zon ?_
 refine Qd rfl ?_
 refine Q1 ?_
 refine zw3 ?_
 refine zw2 ?_
 refine zw2 ?_
 refine zu3 ?_
 rw [hls]
 refine zv1 ?_
 refine Q0 ?_
 refine zw3 ?_
 refine Q2 rfl (fun h1=>?_) (fun h1=>?_)
 ·(try rw [h1]);replace h1:=zcl h1
  refine QE (ι:=Unit) (fun z=>True) (fun z=>⟨[],[(0,.int .i64 op),(2,.sl f 1 (Qy (nm :: r))),(5,.ptr (σ.length+0) 0),(7,.ptr (σ.length+1) 0),(8,.ptr (σ.length+2) 0),(9,.int .i64 0),(10,.ptr (σ.length+3) 0),(11,.bool last),(12,.int .i64 (jeK op nm last v)),(13,.bool (jeO op nm last v))]⟩) (fun z=>σ++[.box [.int .i64 v.kind,.bool v.b,.bool v.n.neg,.str v.n.digits,.int .i64 v.n.exp,.str v.s,.sl false 8 (Q7 v.l),.sl false 9 (Q5 v.m)],.box [.int .i64 x.kind,.bool x.b,.bool x.n.neg,.str x.n.digits,.int .i64 x.n.exp,.str x.s,.sl false 8 (Q7 x.l),.sl false 9 (Q5 x.m)],.box [.int .i64 0,.bool false,.bool false,.str ⟨#[]⟩,.int .i64 0,.str ⟨#[]⟩,.nils,.nils],.box [.int .i64 v.kind,.bool v.b,.bool v.n.neg,.str v.n.digits,.int .i64 v.n.exp,.str v.s,.nils,.nils]]) ?_ (fun z hj=>?_)
  ·skip
   refine Qb #[0,1,3,0,8,24,0,64,192,448,960,2047,4095,8191,8191,16383,65535] Tryz.mixed (by decide +kernel) (by decide +kernel) ?_
   refine zd1 ?_
   refine yA rfl rfl (fun _=>Qe rfl Tryz.underlying51 Tryz.sizeOf9 rfl rfl (by omega) (rfl)) ?_
   refine zp1 ?_
   refine zd1 ?_
   refine zp1 ?_
   refine zd4 ?_
   refine Q1u 50 rfl (fun h2=>?_) fun h2=>?_
   ·rw [h2];replace h2:=zcl h2
    have he:last=(decide (op=1) && last):=by simp [h2]
    refine zd2 ?_
    refine yP rfl rfl (zc rfl (hix _ _ he)) (trivial) ?_
    refine zd5 ?_
    refine RP.nil rfl ?_
    exact ⟨(),trivial,⟨rfl,rfl,rfl,rfl,rfl,rfl,rfl,rfl,rfl,rfl,rfl,trivial⟩,rfl⟩
   ·rw [h2];replace h2:=zcl h2
    have he:false=(decide (op=1) && last):=by simp [h2]
    refine zd2 ?_
    refine yP rfl rfl (zc rfl (hix _ _ he)) (trivial) ?_
    refine zd5 ?_
    refine RP.nil rfl ?_
    exact ⟨(),trivial,⟨rfl,rfl,rfl,rfl,rfl,rfl,rfl,rfl,rfl,rfl,rfl,trivial⟩,rfl⟩
  ·skip
   obtain ⟨k,hk,hkn⟩:=Q9A (op:=op) (nm:=nm) (last:=last) (v:=v)
   rw [hk]
   refine Q0 ?_
   refine zw2 ?_
   refine Q2 rfl (fun h3=>?_) (fun h3=>?_)
   ·(try rw [h3]);replace h3:=zcl h3
    refine zw3 ?_
    refine QN 2 (bs':=[.int .i64 vz.kind,.bool vz.b,.bool vz.n.neg,.str vz.n.digits,.int .i64 vz.n.exp,.str vz.s,.sl false 8 (Q7 vz.l),.sl false 9 (Q5 vz.m)]) rfl ⟨AVle.refl _,AVle.refl _,AVle.refl _,AVle.refl _,AVle.refl _,AVle.refl _,XA,Xt,trivial⟩ ?_
    refine zrt ?_
    rw [WB hlast hk4 (by simpa using h3),Q3]
    exact QH (Q9 (QI rfl rfl rfl) (Q9 (Z3 rfl) rfl)) hcl (by simp [rks,AV.lt,AV.ltL]) ⟨rfl,rfl⟩
   ·(try rw [h3]);replace h3:=zcl h3
    refine Q1 ?_
    refine Q0 ?_
    refine Q0 ?_
    refine QN 3 (bs':=[.int .i64 v.kind,.bool v.b,.bool v.n.neg,.str v.n.digits,.int .i64 v.n.exp,.str v.s,.nils,.sl false 9 (Q5 [])]) rfl ⟨AVle.refl _,AVle.refl _,AVle.refl _,AVle.refl _,AVle.refl _,AVle.refl _,AVle.refl _,Xt,trivial⟩ ?_
    refine Xv 3 6 8 4 rfl rfl rfl ?_
    have hko:jeO op nm last v=true:=by simpa using h3
    have hkn:=hkn hko
    refine Q4 ?_
    refine zv1 ?_
    refine Qa ?_
    refine Qs (ι:=Nat) (fun i=>i≤v.l.length+1∧(last=false→k < i→(jed op x r (v.l.getD k vz)).2=0)) (fun i=>⟨[],[(0,.int .i64 op),(2,.sl f 1 (Qy (nm :: r))),(5,.ptr (σ.length+0) 0),(7,.ptr (σ.length+1) 0),(8,.ptr (σ.length+2) 0),(9,.int .i64 0),(10,.ptr (σ.length+3) 0),(11,.bool last),(12,.int .i64 (k:Int)),(14,.int .i64 (i:Int))]⟩) (fun i=>σ++[.box [.int .i64 v.kind,.bool v.b,.bool v.n.neg,.str v.n.digits,.int .i64 v.n.exp,.str v.s,.sl false 8 (Q7 v.l),.sl false 9 (Q5 v.m)],.box [.int .i64 x.kind,.bool x.b,.bool x.n.neg,.str x.n.digits,.int .i64 x.n.exp,.str x.s,.sl false 8 (Q7 x.l),.sl false 9 (Q5 x.m)],.box [.int .i64 0,.bool false,.bool false,.str ⟨#[]⟩,.int .i64 0,.str ⟨#[]⟩,.nils,.nils],.box [.int .i64 v.kind,.bool v.b,.bool v.n.neg,.str v.n.digits,.int .i64 v.n.exp,.str v.s,.arr (σ.length+4) (eA last op k x (jed op x r (v.l.getD k vz)).1 v.l i).length 8 0 (eA last op k x (jed op x r (v.l.getD k vz)).1 v.l i).length,.sl false 9 (Q5 [])],.arr 8 (eA last op k x (jed op x r (v.l.getD k vz)).1 v.l i).length (Q7 (eA last op k x (jed op x r (v.l.getD k vz)).1 v.l i)).flatten]) (fun i=>v.l.length+1 - i) (0) (⟨Nat.zero_le _,fun _ h=>by omega⟩) ?_ rfl (fun i hi=>?_)
    ·exact ⟨rfl,rfl,rfl,rfl,rfl,rfl,rfl,rfl,rfl,rfl,rfl,trivial⟩
    obtain ⟨hi1,hi2⟩:=hi
    have hea:=Qdr (last:=last) (op:=op) (k:=k) (x:=x) (y:=(jed op x r (v.l.getD k vz)).1) (l:=v.l) i
    have hei:=Q9r (last:=last) (op:=op) (k:=k) (x:=x) (i:=i)
    have heb:((eA last op k x (jed op x r (v.l.getD k vz)).1 v.l i)++(XL last op k x i)).length=(eA last op k x (jed op x r (v.l.getD k vz)).1 v.l i).length+(XL last op k x i).length:=List.length_append
    refine Q0 ?_
    refine zw5 ?_
    refine Q2 rfl (fun h4=>?_) (fun h4=>?_)
    ·(try rw [h4]);replace h4:=zcl h4
     refine Q1 ?_
     refine Q0 ?_
     refine Qa ?_
     refine QE (ι:=Unit) (fun b=>True) (fun b=>⟨[],[(0,.int .i64 op),(2,.sl f 1 (Qy (nm :: r))),(5,.ptr (σ.length+0) 0),(7,.ptr (σ.length+1) 0),(8,.ptr (σ.length+2) 0),(9,.int .i64 0),(10,.ptr (σ.length+3) 0),(11,.bool last),(12,.int .i64 (k:Int)),(14,.int .i64 (i:Int))]⟩) (fun b=>σ++[.box [.int .i64 v.kind,.bool v.b,.bool v.n.neg,.str v.n.digits,.int .i64 v.n.exp,.str v.s,.sl false 8 (Q7 v.l),.sl false 9 (Q5 v.m)],.box [.int .i64 x.kind,.bool x.b,.bool x.n.neg,.str x.n.digits,.int .i64 x.n.exp,.str x.s,.sl false 8 (Q7 x.l),.sl false 9 (Q5 x.m)],.box [.int .i64 0,.bool false,.bool false,.str ⟨#[]⟩,.int .i64 0,.str ⟨#[]⟩,.nils,.nils],.box [.int .i64 v.kind,.bool v.b,.bool v.n.neg,.str v.n.digits,.int .i64 v.n.exp,.str v.s,.arr (σ.length+4) ((eA last op k x (jed op x r (v.l.getD k vz)).1 v.l i)++(XL last op k x i)).length 8 0 ((eA last op k x (jed op x r (v.l.getD k vz)).1 v.l i)++(XL last op k x i)).length,.sl false 9 (Q5 [])],.arr 8 ((eA last op k x (jed op x r (v.l.getD k vz)).1 v.l i)++(XL last op k x i)).length (Q7 ((eA last op k x (jed op x r (v.l.getD k vz)).1 v.l i)++(XL last op k x i))).flatten]) ?_ (fun b hj=>?_)
     ·skip
      refine zu4 ?_
      refine zsp 69 rfl (fun h5=>?_) fun h5=>?_
      ·rw [h5];replace h5:=zcl h5
       refine zg3 ?_
       refine zsp 72 rfl (fun h6=>?_) fun h6=>?_
       ·rw [h6];replace h6:=zcl h6
        subst h6
        refine zv3 ?_
        refine Q2 rfl (fun h7=>?_) (fun h7=>?_)
        ·(try rw [h7]);replace h7:=zcl h7
         refine Q4 ?_
         refine zg3 ?_
         refine zt rfl (Ql [[_,_,_,_,_,_,_,_]] rfl Tryz.underlying25 Tryz.sizeOf28 Tryz.zeroValue28 rfl (by decide) (by decide) rfl rfl rfl rfl rfl) ?_
         refine zt rfl (Qv rfl 4 (sz:=8) (m:=1) (len:=(eA true op k x (jed op x r (v.l.getD k vz)).1 v.l i).length) (cs:=_) rfl (.inr ⟨_,rfl⟩) Tryz.underlying25 Tryz.underlying25 Tryz.type28 rfl rfl rfl (by decide) rfl rfl (XC _).symm rfl rfl rfl (by show ((eA true op k x (jed op x r (v.l.getD k vz)).1 v.l i).length+1) * 112≤_;omega) (by omega) rfl) ?_
         refine zg1 ?_
         refine ztN rfl rfl (QX (r:=[.int .i64 v.kind,.bool v.b,.bool v.n.neg,.str v.n.digits,.int .i64 v.n.exp,.str v.s,.arr (σ.length+4) ((eA true op k x (jed op x r (v.l.getD k vz)).1 v.l i).length+1) 8 0 ((eA true op k x (jed op x r (v.l.getD k vz)).1 v.l i).length+1),.sl false 9 (Q5 [])]) rfl Tryz.sizeOf25 rfl rfl rfl rfl rfl (by decide)) ?_
         refine zon ?_
         have hin:=Q0q (x:=x) (last:=true) (op:=op) (k:=k) (i:=i) ⟨by omega,rfl,by omega⟩
         refine ⟨(),trivial,⟨rfl,rfl,rfl,rfl,rfl,rfl,rfl,rfl,rfl,rfl,rfl,trivial⟩,?_⟩
         rw [hin,ZO,List.length_append,Q3 x];rfl
        ·(try rw [h7]);replace h7:=zcl h7
         refine Q1 ?_
         have hin:=V0 (x:=x) (last:=true) (op:=op) (k:=k) (i:=i) (fun z=>by have:=z.2.2;omega)
         refine ⟨(),trivial,⟨rfl,rfl,rfl,rfl,rfl,rfl,rfl,rfl,rfl,rfl,rfl,trivial⟩,?_⟩
         rw [hin,List.append_nil]
       ·rw [h6];replace h6:=zcl h6
        subst h6
        refine zv3 ?_
        refine Qd rfl ?_
        refine Q1 ?_
        have hin:=V0 (x:=x) (last:=false) (op:=op) (k:=k) (i:=i) (fun z=>by cases z.2.1)
        refine ⟨(),trivial,⟨rfl,rfl,rfl,rfl,rfl,rfl,rfl,rfl,rfl,rfl,rfl,trivial⟩,?_⟩
        rw [hin,List.append_nil]
      ·rw [h5];replace h5:=zcl h5
       refine zv6 ?_
       refine Qd rfl ?_
       refine Q1 ?_
       have hin:=V0 (x:=x) (last:=last) (op:=op) (k:=k) (i:=i) (fun z=>by have:=z.1;omega)
       refine ⟨(),trivial,⟨rfl,rfl,rfl,rfl,rfl,rfl,rfl,rfl,rfl,rfl,rfl,trivial⟩,?_⟩
       rw [hin,List.append_nil]
     ·skip
      refine QE (ι:=Unit) (fun b=>i < v.l.length∧¬(i=k∧last=true∧¬op=1)) (fun b=>⟨[],[(0,.int .i64 op),(2,.sl f 1 (Qy (nm :: r))),(5,.ptr (σ.length+0) 0),(7,.ptr (σ.length+1) 0),(8,.ptr (σ.length+2) 0),(9,.int .i64 0),(10,.ptr (σ.length+3) 0),(11,.bool last),(12,.int .i64 (k:Int)),(14,.int .i64 (i:Int))]⟩) (fun b=>σ++[.box [.int .i64 v.kind,.bool v.b,.bool v.n.neg,.str v.n.digits,.int .i64 v.n.exp,.str v.s,.sl false 8 (Q7 v.l),.sl false 9 (Q5 v.m)],.box [.int .i64 x.kind,.bool x.b,.bool x.n.neg,.str x.n.digits,.int .i64 x.n.exp,.str x.s,.sl false 8 (Q7 x.l),.sl false 9 (Q5 x.m)],.box [.int .i64 0,.bool false,.bool false,.str ⟨#[]⟩,.int .i64 0,.str ⟨#[]⟩,.nils,.nils],.box [.int .i64 v.kind,.bool v.b,.bool v.n.neg,.str v.n.digits,.int .i64 v.n.exp,.str v.s,.arr (σ.length+4) ((eA last op k x (jed op x r (v.l.getD k vz)).1 v.l i)++(XL last op k x i)).length 8 0 ((eA last op k x (jed op x r (v.l.getD k vz)).1 v.l i)++(XL last op k x i)).length,.sl false 9 (Q5 [])],.arr 8 ((eA last op k x (jed op x r (v.l.getD k vz)).1 v.l i)++(XL last op k x i)).length (Q7 ((eA last op k x (jed op x r (v.l.getD k vz)).1 v.l i)++(XL last op k x i))).flatten]) ?_ (fun b hj=>?_)
      ·skip
       refine zu6 ?_
       refine zsp 87 rfl (fun h8=>?_) fun h8=>?_
       ·rw [h8];replace h8:=zcl h8
        refine J7 ?_
        refine zg1 ?_
        refine zon ?_
        refine Qj rfl ?_
        refine Qg ?_
        refine Q4 ?_
        refine zv3 ?_
        have hE1:(eA last op k x (jed op x r (v.l.getD k vz)).1 v.l (i+1))=((eA last op k x (jed op x r (v.l.getD k vz)).1 v.l i)++(XL last op k x i)):=by rw [eA,Hi (List.getElem?_eq_none (by omega)),List.append_nil]
        refine ⟨i+1,σ.length+5,⟨by omega,fun hl hlt=>hi2 hl (by have:=hkn.2 hl;omega)⟩,by omega,by simp,⟨rfl,rfl,rfl,rfl,rfl,rfl,rfl,rfl,rfl,rfl,rfl,trivial⟩,Qh 5 hcl ?_,?_,?_⟩
        ·simp [ownLt,AO.cells,AV.ltL,AV.lt,Z0,Y6]
        ·simp [ltE,AV.lt,AV.ltL]
        ·refine (Qo 5).trans ?_
         rw [hE1];rfl
       ·rw [h8];replace h8:=zcl h8
        refine zg4 ?_
        refine zsp 91 rfl (fun h9=>?_) fun h9=>?_
        ·rw [h9];replace h9:=zcl h9
         refine zg3 ?_
         refine zsp 94 rfl (fun h10=>?_) fun h10=>?_
         ·rw [h10];replace h10:=zcl h10
          subst h10
          refine zv4 ?_
          refine Q2 rfl (fun h11=>?_) (fun h11=>?_)
          ·(try rw [h11]);replace h11:=zcl h11
           refine Qg ?_
           refine Q4 ?_
           refine zv3 ?_
           have hE1:(eA true op k x (jed op x r (v.l.getD k vz)).1 v.l (i+1))=((eA true op k x (jed op x r (v.l.getD k vz)).1 v.l i)++(XL true op k x i)):=by rw [eA,Hh (by omega) rfl (by omega),List.append_nil]
           refine ⟨i+1,σ.length+5,⟨by omega,fun hl=>by cases hl⟩,by omega,by simp,⟨rfl,rfl,rfl,rfl,rfl,rfl,rfl,rfl,rfl,rfl,rfl,trivial⟩,Qh 5 hcl ?_,?_,?_⟩
           ·simp [ownLt,AO.cells,AV.ltL,AV.lt,Z0,Y6]
           ·simp [ltE,AV.lt,AV.ltL]
           ·refine (Qo 5).trans ?_
            rw [hE1];rfl
          ·(try rw [h11]);replace h11:=zcl h11
           refine Q1 ?_
           refine ⟨(),⟨by omega,?_⟩,⟨rfl,rfl,rfl,rfl,rfl,rfl,rfl,rfl,rfl,rfl,rfl,trivial⟩,rfl⟩
           rintro ⟨_,_,h⟩;omega
         ·rw [h10];replace h10:=zcl h10
          subst h10
          refine zv4 ?_
          refine Qd rfl ?_
          refine Q1 ?_
          refine ⟨(),⟨by omega,?_⟩,⟨rfl,rfl,rfl,rfl,rfl,rfl,rfl,rfl,rfl,rfl,rfl,trivial⟩,rfl⟩
          rintro ⟨_,h,_⟩;cases h
        ·rw [h9];replace h9:=zcl h9
         refine zv7 ?_
         refine Qd rfl ?_
         refine Q1 ?_
         refine ⟨(),⟨by omega,?_⟩,⟨rfl,rfl,rfl,rfl,rfl,rfl,rfl,rfl,rfl,rfl,rfl,trivial⟩,rfl⟩
         rintro ⟨h,_,_⟩;omega
      ·skip
       obtain ⟨hj1,hj2⟩:=hj
       obtain ⟨a,hx⟩:∃ a,v.l[i]? =some a:=⟨_,List.getElem?_eq_getElem hj1⟩
       refine zu4 ?_
       rw [Q3 a]
       refine zv3 ?_
       refine Q0 ?_
       refine zu4 ?_
       refine zsp 107 rfl (fun h12=>?_) fun h12=>?_
       ·rw [h12];replace h12:=zcl h12
        have hik:i=k:=by omega
        have hka:v.l[k]? =some a:=by rw [← hik];exact hx
        have hgd:v.l.getD k vz=a:=by rw [List.getD_eq_getElem?_getD,hka];rfl
        refine zv3 ?_
        refine Q2 rfl (fun h13=>?_) (fun h13=>?_)
        ·(try rw [h13]);replace h13:=zcl h13
         have hlf:last=false:=by simpa using h13
         refine Q0 ?_
         refine Qb #[0,0,0,4,0,31,63,127,127,0,767,2047] Tryz.mixed (by decide +kernel) (by decide +kernel) ?_
         refine zd1 ?_
         refine zp1 ?_
         refine zd1 ?_
         refine yA rfl rfl (fun _=>(by first|exact ZT _ _ rfl Tryz.underlying51 Tryz.sizeOf9 rfl (by first|exact ⟨_,rfl⟩|rfl) (by first|exact ⟨_,rfl⟩|rfl) (by omega) (by omega) (by omega)|exact QC _ _ rfl Tryz.underlying51 Tryz.sizeOf9 rfl GET (by first|exact ⟨_,rfl⟩|rfl) (by first|exact ⟨_,rfl⟩|rfl) (by omega) (by omega) (by omega))) ?_
         refine zp1 ?_
         refine yP rfl rfl (zc rfl (ih a _ _ _ (Q3 a) (YJ nm r) (Ys hb5 hx))) (trivial) ?_
         rw [Q3 (jed op x r a).1]
         refine zd3 ?_
         refine yE rfl rfl (zoa) (⟨.inr (by rw [← Q3 (jed op x r a).1];exact zc rfl (ih a _ _ _ (Q3 a) (YJ nm r) (Ys hb5 hx))),⟨.inr zoa,⟨.inr zoa,trivial⟩⟩⟩) (trivial) ?_
         refine yEN rfl rfl rfl (zoa) (⟨.inl rfl,⟨.inl rfl,⟨.inl rfl,trivial⟩⟩⟩) (⟨rfl,trivial⟩) ?_
         refine zd1 ?_
         refine RP.nil rfl ?_
         refine Q0 ?_
         refine zw2 ?_
         refine Q2 rfl (fun h14=>?_) (fun h14=>?_)
         ·(try rw [h14]);replace h14:=zcl h14
          refine zw4 ?_
          refine QN 2 (bs':=[.int .i64 vz.kind,.bool vz.b,.bool vz.n.neg,.str vz.n.digits,.int .i64 vz.n.exp,.str vz.s,.sl false 8 (Q7 vz.l),.sl false 9 (Q5 vz.m)]) rfl ⟨AVle.refl _,AVle.refl _,AVle.refl _,AVle.refl _,AVle.refl _,AVle.refl _,XA,Xt,trivial⟩ ?_
          refine zrt ?_
          rw [Q1P hlast hk4 hk hko hlf hka h14,Q3]
          exact QH (Q9 (QI rfl rfl rfl) (Q9 (Z3 rfl) rfl)) hcl (by simp [rks,AV.lt,AV.ltL]) ⟨rfl,rfl⟩
         ·(try rw [h14]);replace h14:=zcl h14
          refine Q1 ?_
          refine Q4 ?_
          refine zv2 ?_
          refine Q4 ?_
          refine zg3 ?_
          refine zt rfl (Ql [[_,_,_,_,_,_,_,_]] rfl Tryz.underlying25 Tryz.sizeOf28 Tryz.zeroValue28 rfl (by decide) (by decide) rfl rfl rfl rfl rfl) ?_
          refine zt rfl (Qv rfl 4 (sz:=8) (m:=1) (len:=((eA last op k x (jed op x r (v.l.getD k vz)).1 v.l i)++(XL last op k x i)).length) (cs:=_) rfl (.inr ⟨_,rfl⟩) Tryz.underlying25 Tryz.underlying25 Tryz.type28 rfl rfl rfl (by decide) rfl rfl (XC _).symm rfl rfl rfl (by show (((eA last op k x (jed op x r (v.l.getD k vz)).1 v.l i)++(XL last op k x i)).length+1) * 112≤_;omega) (by omega) rfl) ?_
          refine zg1 ?_
          refine ztN rfl rfl (QX (r:=[.int .i64 v.kind,.bool v.b,.bool v.n.neg,.str v.n.digits,.int .i64 v.n.exp,.str v.s,.arr (σ.length+4) (((eA last op k x (jed op x r (v.l.getD k vz)).1 v.l i)++(XL last op k x i)).length+1) 8 0 (((eA last op k x (jed op x r (v.l.getD k vz)).1 v.l i)++(XL last op k x i)).length+1),.sl false 9 (Q5 [])]) rfl Tryz.sizeOf25 rfl rfl rfl rfl rfl (by decide)) ?_
          refine zon ?_
          refine Q4 ?_
          refine zv3 ?_
          have hE1:(eA last op k x (jed op x r (v.l.getD k vz)).1 v.l (i+1))=((eA last op k x (jed op x r (v.l.getD k vz)).1 v.l i)++(XL last op k x i))++[(jed op x r a).1]:=by rw [eA,Q41 hx hik hlf,hgd]
          refine ⟨i+1,σ.length+5,⟨by omega,fun _ _=>by rw [hgd];omega⟩,by omega,by simp,⟨rfl,rfl,rfl,rfl,rfl,rfl,rfl,rfl,rfl,rfl,rfl,trivial⟩,Qh 5 hcl ?_,?_,?_⟩
          ·simp [ownLt,AO.cells,AV.ltL,AV.lt,Z0,Y6]
          ·simp [ltE,AV.lt,AV.ltL]
          ·refine (Qo 5).trans ?_
           rw [hE1,ZO,Yt,Q3 (jed op x r a).1];rfl
        ·(try rw [h13]);replace h13:=zcl h13
         have hlf:last=true:=by simpa using h13
         have hop1:op=1:=Classical.byContradiction fun z=>hj2 ⟨hik,hlf,z⟩
         refine Q1 ?_
         refine Q4 ?_
         refine zg3 ?_
         refine zt rfl (Ql [[_,_,_,_,_,_,_,_]] rfl Tryz.underlying25 Tryz.sizeOf28 Tryz.zeroValue28 rfl (by decide) (by decide) rfl rfl rfl rfl rfl) ?_
         refine zt rfl (Qv rfl 4 (sz:=8) (m:=1) (len:=((eA last op k x (jed op x r (v.l.getD k vz)).1 v.l i)++(XL last op k x i)).length) (cs:=_) rfl (.inr ⟨_,rfl⟩) Tryz.underlying25 Tryz.underlying25 Tryz.type28 rfl rfl rfl (by decide) rfl rfl (XC _).symm rfl rfl rfl (by show (((eA last op k x (jed op x r (v.l.getD k vz)).1 v.l i)++(XL last op k x i)).length+1) * 112≤_;omega) (by omega) rfl) ?_
         refine zg1 ?_
         refine ztN rfl rfl (QX (r:=[.int .i64 v.kind,.bool v.b,.bool v.n.neg,.str v.n.digits,.int .i64 v.n.exp,.str v.s,.arr (σ.length+4) (((eA last op k x (jed op x r (v.l.getD k vz)).1 v.l i)++(XL last op k x i)).length+1) 8 0 (((eA last op k x (jed op x r (v.l.getD k vz)).1 v.l i)++(XL last op k x i)).length+1),.sl false 9 (Q5 [])]) rfl Tryz.sizeOf25 rfl rfl rfl rfl rfl (by decide)) ?_
         refine zon ?_
         refine Q4 ?_
         refine zv3 ?_
         have hE1:(eA last op k x (jed op x r (v.l.getD k vz)).1 v.l (i+1))=((eA last op k x (jed op x r (v.l.getD k vz)).1 v.l i)++(XL last op k x i))++[a]:=by rw [eA,FL hx hlf hop1]
         refine ⟨i+1,σ.length+5,⟨by omega,fun hl=>by rw [hlf] at hl;cases hl⟩,by omega,by simp,⟨rfl,rfl,rfl,rfl,rfl,rfl,rfl,rfl,rfl,rfl,rfl,trivial⟩,Qh 5 hcl ?_,?_,?_⟩
         ·simp [ownLt,AO.cells,AV.ltL,AV.lt,Z0,Y6]
         ·simp [ltE,AV.lt,AV.ltL]
         ·refine (Qo 5).trans ?_
          rw [hE1,ZO,Yt,Q3 a];rfl
       ·rw [h12];replace h12:=zcl h12
        refine zv3 ?_
        refine Qd rfl ?_
        refine Q1 ?_
        refine Q4 ?_
        refine zg3 ?_
        refine zt rfl (Ql [[_,_,_,_,_,_,_,_]] rfl Tryz.underlying25 Tryz.sizeOf28 Tryz.zeroValue28 rfl (by decide) (by decide) rfl rfl rfl rfl rfl) ?_
        refine zt rfl (Qv rfl 4 (sz:=8) (m:=1) (len:=((eA last op k x (jed op x r (v.l.getD k vz)).1 v.l i)++(XL last op k x i)).length) (cs:=_) rfl (.inr ⟨_,rfl⟩) Tryz.underlying25 Tryz.underlying25 Tryz.type28 rfl rfl rfl (by decide) rfl rfl (XC _).symm rfl rfl rfl (by show (((eA last op k x (jed op x r (v.l.getD k vz)).1 v.l i)++(XL last op k x i)).length+1) * 112≤_;omega) (by omega) rfl) ?_
        refine zg1 ?_
        refine ztN rfl rfl (QX (r:=[.int .i64 v.kind,.bool v.b,.bool v.n.neg,.str v.n.digits,.int .i64 v.n.exp,.str v.s,.arr (σ.length+4) (((eA last op k x (jed op x r (v.l.getD k vz)).1 v.l i)++(XL last op k x i)).length+1) 8 0 (((eA last op k x (jed op x r (v.l.getD k vz)).1 v.l i)++(XL last op k x i)).length+1),.sl false 9 (Q5 [])]) rfl Tryz.sizeOf25 rfl rfl rfl rfl rfl (by decide)) ?_
        refine zon ?_
        refine Q4 ?_
        refine zv3 ?_
        have hE1:(eA last op k x (jed op x r (v.l.getD k vz)).1 v.l (i+1))=((eA last op k x (jed op x r (v.l.getD k vz)).1 v.l i)++(XL last op k x i))++[a]:=by rw [eA,Q0t hx (by omega)]
        refine ⟨i+1,σ.length+5,⟨by omega,fun hl hlt=>hi2 hl (by omega)⟩,by omega,by simp,⟨rfl,rfl,rfl,rfl,rfl,rfl,rfl,rfl,rfl,rfl,rfl,trivial⟩,Qh 5 hcl ?_,?_,?_⟩
        ·simp [ownLt,AO.cells,AV.ltL,AV.lt,Z0,Y6]
        ·simp [ltE,AV.lt,AV.ltL]
        ·refine (Qo 5).trans ?_
         rw [hE1,ZO,Yt,Q3 a];rfl
    ·(try rw [h4]);replace h4:=zcl h4
     refine Qg ?_
     refine Q0 ?_
     have hie:i=v.l.length+1:=by omega
     subst hie
     refine Xa 3 6 4 (eA last op k x (jed op x r (v.l.getD k vz)).1 v.l (v.l.length+1)).length 8 (eA last op k x (jed op x r (v.l.getD k vz)).1 v.l (v.l.length+1)).length rfl rfl rfl (Q7 (eA last op k x (jed op x r (v.l.getD k vz)).1 v.l (v.l.length+1))) rfl (Vb _) (QG _) (by decide) ?_
     refine Q4 ?_
     refine zv3 ?_
     refine zrt ?_
     rw [WC hlast hk4 hk hko (fun hl=>hi2 hl (by have:=hkn.1;omega)),Q3]
     exact QH (Q9 (QI rfl rfl rfl) (Q9 (Z3 rfl) rfl)) hcl (by simp [rks,AV.lt,AV.ltL]) ⟨rfl,rfl⟩
 ·(try rw [h1]);replace h1:=zcl h1
  exact absurd hk4 h1
end Lg
set_option maxRecDepth 20000
set_option maxHeartbeats 4000000
namespace Lg
open Go Go.Proofs Go.RowKit
variable [GLay]
theorem Qat (op:Int) (x:JV) (xs:List AV) (hxs:Qf x=xs) (r:List BL) (ih:∀ (v:JV) (cs:List AV) (es:List (List AV)) (σ:List AO),Qf v=cs→es=Qy r→jb v→ACalls Tryz.prog 69 [.int .i64 op,.agg cs,.sl false 1 es,.agg xs] σ (Ret (.tup [.agg (Qf (jed op x r v).1),.int .i64 (jed op x r v).2]) σ)) (f:Bool) (nm:BL) (v:JV) (cs:List AV) (σ:List AO) (hc:Qf v=cs) (hjb:jb v) (hop:1≤op∧op≤3) (hk4:¬v.kind=4):ACalls Tryz.prog 69 [.int .i64 op,.agg cs,.sl f 1 (Qy (nm :: r)),.agg xs] σ (Ret (.tup [.agg (Qf (jed op x (nm :: r) v).1),.int .i64 (jed op x (nm :: r) v).2]) σ):=by
 refine QS Tryz.func69 rfl Tryz.ntmps69 (by rw [Tryz.results69];exact (.ck Tryz.isAgg28 Tryz.sizeOf28 (.t .nil))) (Nat.le_of_ble_eq_true rfl) (fun hcl hal=>?_)
 subst hc
 obtain ⟨last,hlast⟩:∃ b,r.isEmpty=b:=⟨_,rfl⟩
 have hls:decide ((((Qy (nm :: r)).length:Nat):Int)=1)=last:=by rw [← hlast,Zd,List.length_cons];cases r<;>simp<;>omega
 obtain ⟨hb1,hb2,hb3,hb4,hb5,hb6⟩:=(Zy v).1 hjb
 have hll:=QG v.l
 have hml:=QK v.m
 have hsl:1≤(Qy (nm :: r)).length:=by rw [Zd,List.length_cons];omega
 rw [Q3 v,←hxs,Q3 x]
 rw [← hxs,Q3 x] at ih
 refine zw4 ?_
 refine Q0 ?_
 refine zu2 ?_
 refine zt rfl (Xx rfl rfl rfl (by rw [Zd,List.length_cons];omega)) ?_
 refine zon ?_
 refine Qd rfl ?_
 refine Q1 ?_
 refine zw3 ?_
 refine zw2 ?_
 refine zw2 ?_
 refine zu3 ?_
 rw [hls]
 refine zv1 ?_
 refine Q0 ?_
 refine zw3 ?_
 refine Q2 rfl (fun h1=>?_) (fun h1=>?_)
 ·(try rw [h1]);replace h1:=zcl h1
  exact absurd h1 hk4
 ·(try rw [h1]);replace h1:=zcl h1
  refine Q1 ?_
  refine Q0 ?_
  refine Qb #[0,0,2,6,15,31,63,63,0,383,1023] Tryz.mixed (by decide +kernel) (by decide +kernel) ?_
  refine zp1 ?_
  refine zd1 ?_
  refine yA rfl rfl (fun _=>Qe rfl Tryz.underlying51 Tryz.sizeOf9 rfl rfl (by omega) (rfl)) ?_
  refine zp1 ?_
  refine yP rfl rfl (zc rfl (YX v (ba nm) _ _ (Q3 v) hb4)) (trivial) ?_
  rw [Q3 (jfD v (ba nm))]
  refine zd3 ?_
  refine yE rfl rfl (zoa) (⟨.inr (by rw [← Q3 (jfD v (ba nm))];exact zc rfl (YX v (ba nm) _ _ (Q3 v) hb4)),⟨.inr zoa,⟨.inr zoa,trivial⟩⟩⟩) (trivial) ?_
  refine yEN rfl rfl rfl (zoa) (⟨.inl rfl,⟨.inl rfl,⟨.inl rfl,trivial⟩⟩⟩) (⟨rfl,trivial⟩) ?_
  refine zd1 ?_
  refine RP.nil rfl ?_
  refine Q0 ?_
  refine QE (ι:=Bool) (fun b=>b=decide (¬v.kind=5∨(jfB v (ba nm)=false∧(¬op=1∨last=false)))) (fun b=>⟨[],[(0,.int .i64 op),(2,.sl f 1 (Qy (nm :: r))),(5,.ptr (σ.length+0) 0),(7,.ptr (σ.length+1) 0),(8,.ptr (σ.length+2) 0),(9,.int .i64 0),(10,.ptr (σ.length+3) 0),(11,.bool last),(19,.bool (jfB v (ba nm))),(154,.bool b)]⟩) (fun b=>σ++[.box [.int .i64 v.kind,.bool v.b,.bool v.n.neg,.str v.n.digits,.int .i64 v.n.exp,.str v.s,.sl false 8 (Q7 v.l),.sl false 9 (Q5 v.m)],.box [.int .i64 x.kind,.bool x.b,.bool x.n.neg,.str x.n.digits,.int .i64 x.n.exp,.str x.s,.sl false 8 (Q7 x.l),.sl false 9 (Q5 x.m)],.box [.int .i64 0,.bool false,.bool false,.str ⟨#[]⟩,.int .i64 0,.str ⟨#[]⟩,.nils,.nils],.box [.int .i64 v.kind,.bool v.b,.bool v.n.neg,.str v.n.digits,.int .i64 v.n.exp,.str v.s,.nils,.nils],.box [.int .i64 (jfD v (ba nm)).kind,.bool (jfD v (ba nm)).b,.bool (jfD v (ba nm)).n.neg,.str (jfD v (ba nm)).n.digits,.int .i64 (jfD v (ba nm)).n.exp,.str (jfD v (ba nm)).s,.sl false 8 (Q7 (jfD v (ba nm)).l),.sl false 9 (Q5 (jfD v (ba nm)).m)]]) ?_ (fun b hj=>?_)
  ·skip
   refine Q4 ?_
   refine zg4 ?_
   refine zsp 143 rfl (fun h2=>?_) fun h2=>?_
   ·rw [h2];replace h2:=zcl h2
    refine J7 ?_
    refine zg1 ?_
    refine zon ?_
    refine ⟨_,?_,⟨rfl,rfl,rfl,rfl,rfl,rfl,rfl,rfl,rfl,rfl,rfl,trivial⟩,rfl⟩
    simp_all
   ·rw [h2];replace h2:=zcl h2
    refine zg3 ?_
    refine zsp 146 rfl (fun h3=>?_) fun h3=>?_
    ·rw [h3];replace h3:=zcl h3
     refine zg3 ?_
     refine zsp 149 rfl (fun h4=>?_) fun h4=>?_
     ·rw [h4];replace h4:=zcl h4
      refine zv5 ?_
      refine ⟨_,?_,⟨rfl,rfl,rfl,rfl,rfl,rfl,rfl,rfl,rfl,rfl,rfl,trivial⟩,rfl⟩
      simp_all
     ·rw [h4];replace h4:=zcl h4
      refine zv5 ?_
      refine ⟨_,?_,⟨rfl,rfl,rfl,rfl,rfl,rfl,rfl,rfl,rfl,rfl,rfl,trivial⟩,rfl⟩
      simp_all
    ·rw [h3];replace h3:=zcl h3
     refine zv8 ?_
     refine ⟨_,?_,⟨rfl,rfl,rfl,rfl,rfl,rfl,rfl,rfl,rfl,rfl,rfl,trivial⟩,rfl⟩
     simp_all
  ·skip
   subst hj
   refine Q2 rfl (fun h5=>?_) (fun h5=>?_)
   ·(try rw [h5]);replace h5:=zcl h5
    refine zw3 ?_
    refine QN 2 (bs':=[.int .i64 vz.kind,.bool vz.b,.bool vz.n.neg,.str vz.n.digits,.int .i64 vz.n.exp,.str vz.s,.sl false 8 (Q7 vz.l),.sl false 9 (Q5 vz.m)]) rfl ⟨AVle.refl _,AVle.refl _,AVle.refl _,AVle.refl _,AVle.refl _,AVle.refl _,XA,Xt,trivial⟩ ?_
    refine zrt ?_
    rw [JH hlast hk4 (by simpa using h5),Q3]
    exact QH (Q9 (QI rfl rfl rfl) (Q9 (Z3 rfl) rfl)) hcl (by simp [rks,AV.lt,AV.ltL]) ⟨rfl,rfl⟩
   ·(try rw [h5]);replace h5:=zcl h5
    refine Q1 ?_
    refine Q0 ?_
    obtain ⟨hk5,hh⟩:=no5 (by simpa using h5)
    refine QN 3 (bs':=[.int .i64 v.kind,.bool v.b,.bool v.n.neg,.str v.n.digits,.int .i64 v.n.exp,.str v.s,.sl false 8 (Q7 []),.nils]) rfl ⟨AVle.refl _,AVle.refl _,AVle.refl _,AVle.refl _,AVle.refl _,AVle.refl _,XA,AVle.refl _,trivial⟩ ?_
    refine Xv 3 7 9 5 rfl rfl rfl ?_
    refine Q4 ?_
    refine zv1 ?_
    refine Q0 ?_
    refine zw1 ?_
    refine Qa ?_
    refine Qs (ι:=Nat×Bool×List BJ) (fun z=>z.1≤v.m.length∧z.2.2++eM last op (ba nm) x (fun y=>(jed op x r y).1) (v.m.drop z.1) z.2.1=eM last op (ba nm) x (fun y=>(jed op x r y).1) v.m false∧(last=false→∀ p∈v.m.take z.1,p.1=ba nm→(jed op x r p.2).2=0)∧z.2.2.length≤z.1+(if z.2.1=true then 1 else 0)) (fun z=>⟨[],[(0,.int .i64 op),(2,.sl f 1 (Qy (nm :: r))),(5,.ptr (σ.length+0) 0),(7,.ptr (σ.length+1) 0),(8,.ptr (σ.length+2) 0),(9,.int .i64 0),(10,.ptr (σ.length+3) 0),(11,.bool last),(19,.bool (jfB v (ba nm))),(20,.bool z.2.1),(21,.int .i64 (z.1:Int))]⟩) (fun z=>σ++[.box [.int .i64 v.kind,.bool v.b,.bool v.n.neg,.str v.n.digits,.int .i64 v.n.exp,.str v.s,.sl false 8 (Q7 v.l),.sl false 9 (Q5 v.m)],.box [.int .i64 x.kind,.bool x.b,.bool x.n.neg,.str x.n.digits,.int .i64 x.n.exp,.str x.s,.sl false 8 (Q7 x.l),.sl false 9 (Q5 x.m)],.box [.int .i64 0,.bool false,.bool false,.str ⟨#[]⟩,.int .i64 0,.str ⟨#[]⟩,.nils,.nils],.box [.int .i64 v.kind,.bool v.b,.bool v.n.neg,.str v.n.digits,.int .i64 v.n.exp,.str v.s,.sl false 8 (Q7 []),.arr (σ.length+5) z.2.2.length 9 0 z.2.2.length],.box [.int .i64 (jfD v (ba nm)).kind,.bool (jfD v (ba nm)).b,.bool (jfD v (ba nm)).n.neg,.str (jfD v (ba nm)).n.digits,.int .i64 (jfD v (ba nm)).n.exp,.str (jfD v (ba nm)).s,.sl false 8 (Q7 (jfD v (ba nm)).l),.sl false 9 (Q5 (jfD v (ba nm)).m)],.arr 9 z.2.2.length (Q5 z.2.2).flatten]) (fun z=>v.m.length+1 - z.1) ((0,false,[])) (⟨Nat.zero_le _,rfl,(fun _ p hp=>by cases hp),Nat.zero_le _⟩) ?_ rfl (fun z hz=>?_)
    ·exact ⟨rfl,rfl,rfl,rfl,rfl,rfl,rfl,rfl,rfl,rfl,rfl,rfl,trivial⟩
    obtain ⟨i,put,acc⟩:=z
    obtain ⟨hi1,hi2,hi3,hi4⟩:=hz
    simp only at hi1 hi2 hi3 hi4 ⊢
    have hip:acc.length≤i+1:=by split at hi4<;>omega
    refine Q0 ?_
    refine zw5 ?_
    refine Q2 rfl (fun h6=>?_) (fun h6=>?_)
    ·(try rw [h6]);replace h6:=zcl h6
     refine Q1 ?_
     refine Q0 ?_
     refine Qa ?_
     refine QE (ι:=Unit) (fun b=>True) (fun b=>⟨[],[(0,.int .i64 op),(2,.sl f 1 (Qy (nm :: r))),(5,.ptr (σ.length+0) 0),(7,.ptr (σ.length+1) 0),(8,.ptr (σ.length+2) 0),(9,.int .i64 0),(10,.ptr (σ.length+3) 0),(11,.bool last),(19,.bool (jfB v (ba nm))),(20,.bool (put || eMh last op (ba nm) put v.m[i]?)),(21,.int .i64 (i:Int))]⟩) (fun b=>σ++[.box [.int .i64 v.kind,.bool v.b,.bool v.n.neg,.str v.n.digits,.int .i64 v.n.exp,.str v.s,.sl false 8 (Q7 v.l),.sl false 9 (Q5 v.m)],.box [.int .i64 x.kind,.bool x.b,.bool x.n.neg,.str x.n.digits,.int .i64 x.n.exp,.str x.s,.sl false 8 (Q7 x.l),.sl false 9 (Q5 x.m)],.box [.int .i64 0,.bool false,.bool false,.str ⟨#[]⟩,.int .i64 0,.str ⟨#[]⟩,.nils,.nils],.box [.int .i64 v.kind,.bool v.b,.bool v.n.neg,.str v.n.digits,.int .i64 v.n.exp,.str v.s,.sl false 8 (Q7 []),.arr (σ.length+5) (acc++eMn last op (ba nm) x put v.m[i]?).length 9 0 (acc++eMn last op (ba nm) x put v.m[i]?).length],.box [.int .i64 (jfD v (ba nm)).kind,.bool (jfD v (ba nm)).b,.bool (jfD v (ba nm)).n.neg,.str (jfD v (ba nm)).n.digits,.int .i64 (jfD v (ba nm)).n.exp,.str (jfD v (ba nm)).s,.sl false 8 (Q7 (jfD v (ba nm)).l),.sl false 9 (Q5 (jfD v (ba nm)).m)],.arr 9 (acc++eMn last op (ba nm) x put v.m[i]?).length (Q5 (acc++eMn last op (ba nm) x put v.m[i]?)).flatten]) ?_ (fun b hj=>?_)
     ·skip
      refine zu2 ?_
      refine zsp 164 rfl (fun h7=>?_) fun h7=>?_
      ·rw [h7];replace h7:=zcl h7
       subst h7
       refine zg4 ?_
       refine zsp 168 rfl (fun h8=>?_) fun h8=>?_
       ·rw [h8];replace h8:=zcl h8
        refine zv3 ?_
        refine Q2 rfl (fun h9=>?_) (fun h9=>?_)
        ·(try rw [h9]);replace h9:=zcl h9
         refine zw5 ?_
         refine Q2 rfl (fun h10=>?_) (fun h10=>?_)
         ·(try rw [h10]);replace h10:=zcl h10
          refine Q0 ?_
          refine Qb #[0,1,0,4,12,0,60,124,255,511,1023] Tryz.mixed (by decide +kernel) (by decide +kernel) ?_
          refine zd1 ?_
          refine zp1 ?_
          refine zd1 ?_
          refine yA rfl rfl (fun _=>Qe rfl Tryz.underlying51 Tryz.sizeOf9 rfl rfl (by omega) (rfl)) ?_
          refine zp2 ?_
          refine zd1 ?_
          refine yA rfl rfl (fun _=>Ql [[_,_,_,_,_,_,_,_,_]] rfl Tryz.underlying26 Tryz.sizeOf67 Tryz.zeroValue67 rfl (by decide) (by decide) rfl rfl rfl rfl rfl) ?_
          refine yE rfl rfl (Qv rfl 5 (sz:=9) (m:=1) (len:=acc.length) (cs:=_) rfl (.inr ⟨_,rfl⟩) Tryz.underlying26 Tryz.underlying26 Tryz.type67 rfl rfl rfl (by decide) rfl rfl (Zx _).symm rfl rfl rfl (by show (acc.length+1) * 128≤_;omega) (by omega) rfl) (⟨.inl rfl,⟨.inl rfl,⟨.inl rfl,trivial⟩⟩⟩) (trivial) ?_
          refine zd1 ?_
          refine yEN rfl rfl rfl (QX (r:=[.int .i64 v.kind,.bool v.b,.bool v.n.neg,.str v.n.digits,.int .i64 v.n.exp,.str v.s,.sl false 8 (Q7 []),.arr (σ.length+5) (acc.length+1) 9 0 (acc.length+1)]) rfl Tryz.sizeOf26 rfl rfl rfl rfl rfl (by decide)) (⟨.inl rfl,⟨.inl rfl,⟨.inl rfl,trivial⟩⟩⟩) (⟨rfl,trivial⟩) ?_
          refine RP.nil rfl ?_
          refine Q4 ?_
          refine zv1 ?_
          have he:eMh true op (ba nm) put v.m[i]? =true:=Q9s (List.getElem?_eq_none (by omega)) rfl h8 (by simpa using h9)
          obtain ⟨e1,e2⟩:=Qb8 (x:=x) he
          refine ⟨(),trivial,⟨rfl,rfl,rfl,rfl,rfl,rfl,rfl,rfl,rfl,rfl,by rw [e2];rfl,rfl,trivial⟩,?_⟩
          rw [e1,Ym,Yt,UB,Q3 x];rfl
         ·(try rw [h10]);replace h10:=zcl h10
          obtain ⟨q,hq⟩:∃ q,v.m[i]? =some q:=⟨_,List.getElem?_eq_getElem (show i < v.m.length by omega)⟩
          refine Q0 ?_
          refine Qb #[0,1,0,7,15,31,0,64,192,511] Tryz.mixed (by decide +kernel) (by decide +kernel) ?_
          refine zd1 ?_
          refine zp1 ?_
          refine zd3 ?_
          refine zp1 ?_
          refine zd1 ?_
          refine yA rfl rfl (fun _=>Qe rfl Tryz.underlying51 Tryz.sizeOf9 rfl rfl (by omega) (rfl)) ?_
          refine zp1 ?_
          refine zd1 ?_
          refine RP.nil rfl ?_
          refine Q2 rfl (fun h11=>?_) (fun h11=>?_)
          ·(try rw [h11]);replace h11:=zcl h11
           refine Q0 ?_
           refine Qb #[0,1,0,4,12,0,60,124,255,511,1023] Tryz.mixed (by decide +kernel) (by decide +kernel) ?_
           refine zd1 ?_
           refine zp1 ?_
           refine zd1 ?_
           refine yA rfl rfl (fun _=>Qe rfl Tryz.underlying51 Tryz.sizeOf9 rfl rfl (by omega) (rfl)) ?_
           refine zp2 ?_
           refine zd1 ?_
           refine yA rfl rfl (fun _=>Ql [[_,_,_,_,_,_,_,_,_]] rfl Tryz.underlying26 Tryz.sizeOf67 Tryz.zeroValue67 rfl (by decide) (by decide) rfl rfl rfl rfl rfl) ?_
           refine yE rfl rfl (Qv rfl 5 (sz:=9) (m:=1) (len:=acc.length) (cs:=_) rfl (.inr ⟨_,rfl⟩) Tryz.underlying26 Tryz.underlying26 Tryz.type67 rfl rfl rfl (by decide) rfl rfl (Zx _).symm rfl rfl rfl (by show (acc.length+1) * 128≤_;omega) (by omega) rfl) (⟨.inl rfl,⟨.inl rfl,⟨.inl rfl,trivial⟩⟩⟩) (trivial) ?_
           refine zd1 ?_
           refine yEN rfl rfl rfl (QX (r:=[.int .i64 v.kind,.bool v.b,.bool v.n.neg,.str v.n.digits,.int .i64 v.n.exp,.str v.s,.sl false 8 (Q7 []),.arr (σ.length+5) (acc.length+1) 9 0 (acc.length+1)]) rfl Tryz.sizeOf26 rfl rfl rfl rfl rfl (by decide)) (⟨.inl rfl,⟨.inl rfl,⟨.inl rfl,trivial⟩⟩⟩) (⟨rfl,trivial⟩) ?_
           refine RP.nil rfl ?_
           refine Q4 ?_
           refine zv1 ?_
           have he:eMh true op (ba nm) put v.m[i]? =true:=(Q6Z hq rfl h8 (by simpa using h9)).trans (by simpa using h11)
           obtain ⟨e1,e2⟩:=Qb8 (x:=x) he
           refine ⟨(),trivial,⟨rfl,rfl,rfl,rfl,rfl,rfl,rfl,rfl,rfl,rfl,by rw [e2];rfl,rfl,trivial⟩,?_⟩
           rw [e1,Ym,Yt,UB,Q3 x];rfl
          ·(try rw [h11]);replace h11:=zcl h11
           refine Q1 ?_
           have he:eMh true op (ba nm) put v.m[i]? =false:=(Q6Z hq rfl h8 (by simpa using h9)).trans (by simpa using h11)
           obtain ⟨e1,e2⟩:=Q40 (x:=x) he
           refine ⟨(),trivial,⟨rfl,rfl,rfl,rfl,rfl,rfl,rfl,rfl,rfl,rfl,by rw [e2];rfl,rfl,trivial⟩,?_⟩
           rw [e1,List.append_nil]
        ·(try rw [h9]);replace h9:=zcl h9
         refine Q1 ?_
         have he:eMh true op (ba nm) put v.m[i]? =false:=Q32 (.inr (.inr (by simpa using h9)))
         obtain ⟨e1,e2⟩:=Q40 (x:=x) he
         refine ⟨(),trivial,⟨rfl,rfl,rfl,rfl,rfl,rfl,rfl,rfl,rfl,rfl,by rw [e2];rfl,rfl,trivial⟩,?_⟩
         rw [e1,List.append_nil]
       ·rw [h8];replace h8:=zcl h8
        refine zv3 ?_
        refine Qd rfl ?_
        refine Q1 ?_
        have he:eMh true op (ba nm) put v.m[i]? =false:=Q32 (.inr (.inl h8))
        obtain ⟨e1,e2⟩:=Q40 (x:=x) he
        refine ⟨(),trivial,⟨rfl,rfl,rfl,rfl,rfl,rfl,rfl,rfl,rfl,rfl,by rw [e2];rfl,rfl,trivial⟩,?_⟩
        rw [e1,List.append_nil]
      ·rw [h7];replace h7:=zcl h7
       subst h7
       refine zv7 ?_
       refine Qd rfl ?_
       refine Q1 ?_
       have he:eMh false op (ba nm) put v.m[i]? =false:=Q32 (.inl rfl)
       obtain ⟨e1,e2⟩:=Q40 (x:=x) he
       refine ⟨(),trivial,⟨rfl,rfl,rfl,rfl,rfl,rfl,rfl,rfl,rfl,rfl,by rw [e2];rfl,rfl,trivial⟩,?_⟩
       rw [e1,List.append_nil]
     ·skip
      have hbd:=Qc2 (last:=last) (op:=op) (key:=ba nm) (x:=x) (put:=put) v.m[i]?
      have hlen:(acc++eMn last op (ba nm) x put v.m[i]?).length=acc.length+(eMn last op (ba nm) x put v.m[i]?).length:=List.length_append
      have hB:(acc++eMn last op (ba nm) x put v.m[i]?).length≤i+(if (put || eMh last op (ba nm) put v.m[i]?)=true then 1 else 0):=by omega
      have hB1:(acc++eMn last op (ba nm) x put v.m[i]?).length≤i+1:=by split at hB<;>omega
      clear hbd hlen
      refine Q0 ?_
      refine zw5 ?_
      refine Q2 rfl (fun h12=>?_) (fun h12=>?_)
      ·(try rw [h12]);replace h12:=zcl h12
       refine Qg ?_
       refine Q0 ?_
       have hin:v.m[i]? =none:=List.getElem?_eq_none (by omega)
       have hMM:(acc++eMn last op (ba nm) x put v.m[i]?)=eM last op (ba nm) x (fun y=>(jed op x r y).1) v.m false:=by rw [← hi2,Qc1 hin]
       refine Xa 3 7 5 (acc++eMn last op (ba nm) x put v.m[i]?).length 9 (acc++eMn last op (ba nm) x put v.m[i]?).length rfl rfl rfl (Q5 (acc++eMn last op (ba nm) x put v.m[i]?)) rfl (VB _) (QK _) (by decide) ?_
       refine Q4 ?_
       refine zv3 ?_
       refine zrt ?_
       rw [WD hlast hk4 hk5 hh (Q6W (fun hl p hp hk=>hi3 hl p (by rw [List.take_of_length_le (by omega)];exact hp) hk)),←hMM,Q3]
       exact QH (Q9 (QI rfl rfl rfl) (Q9 (Z3 rfl) rfl)) hcl (by simp [rks,AV.lt,AV.ltL]) ⟨rfl,rfl⟩
      ·(try rw [h12]);replace h12:=zcl h12
       obtain ⟨q,hq⟩:∃ q,v.m[i]? =some q:=⟨_,List.getElem?_eq_getElem (show i < v.m.length by omega)⟩
       refine Q1 ?_
       refine zu4 ?_
       rw [Q3 q.2]
       refine zv3 ?_
       refine Q0 ?_
       refine Q0 ?_
       refine Qb #[0,1,0,4,12,31] Tryz.mixed (by decide +kernel) (by decide +kernel) ?_
       refine zd1 ?_
       refine zp1 ?_
       refine zd1 ?_
       refine yA rfl rfl (fun _=>Qe rfl Tryz.underlying51 Tryz.sizeOf9 rfl rfl (by omega) (rfl)) ?_
       refine zp1 ?_
       refine zd1 ?_
       refine RP.nil rfl ?_
       refine Q2 rfl (fun h13=>?_) (fun h13=>?_)
       ·(try rw [h13]);replace h13:=zcl h13
        refine Q0 ?_
        refine zw1 ?_
        refine Q2 rfl (fun h14=>?_) (fun h14=>?_)
        ·(try rw [h14]);replace h14:=zcl h14
         subst h14
         refine Qg ?_
         refine Q4 ?_
         refine zv3 ?_
         refine ⟨(i+1,(put || eMh true op (ba nm) put v.m[i]?),(acc++eMn true op (ba nm) x put v.m[i]?)),σ.length+6,⟨by simp only;omega,?_,?_,?_⟩,by simp only;omega,by simp,⟨rfl,rfl,rfl,rfl,rfl,rfl,rfl,rfl,rfl,rfl,rfl,rfl,trivial⟩,Qh 6 hcl ?_,?_,?_⟩
         ·simp only;rw [← hi2,Q0s hq,if_pos h13,if_pos rfl];simp
         ·intro hl;cases hl
         ·simp only [];omega
         ·simp [ownLt,AO.cells,AV.ltL,AV.lt,Z0,K4]
         ·simp [ltE,AV.lt,AV.ltL]
         ·refine (Qo 6).trans ?_
          rfl
        ·(try rw [h14]);replace h14:=zcl h14
         subst h14
         refine Q1 ?_
         refine Q0 ?_
         refine Qb #[0,0,2,0,8,0,63,127,255,255,0,1535,4095] Tryz.mixed (by decide +kernel) (by decide +kernel) ?_
         refine zd2 ?_
         refine zp1 ?_
         refine zd1 ?_
         refine yA rfl rfl (fun _=>(by first|exact ZT _ _ rfl Tryz.underlying51 Tryz.sizeOf9 rfl (by first|exact ⟨_,rfl⟩|rfl) (by first|exact ⟨_,rfl⟩|rfl) (by omega) (by omega) (by omega)|exact QC _ _ rfl Tryz.underlying51 Tryz.sizeOf9 rfl GET (by first|exact ⟨_,rfl⟩|rfl) (by first|exact ⟨_,rfl⟩|rfl) (by omega) (by omega) (by omega))) ?_
         refine zp1 ?_
         refine yP rfl rfl (zc rfl (ih q.2 _ _ _ (Q3 q.2) (YJ nm r) (JR hb6 hq).2)) (trivial) ?_
         rw [Q3 (jed op x r q.2).1]
         refine zd3 ?_
         refine yE rfl rfl (zoa) (⟨.inr (by rw [← Q3 (jed op x r q.2).1];exact zc rfl (ih q.2 _ _ _ (Q3 q.2) (YJ nm r) (JR hb6 hq).2)),⟨.inr zoa,⟨.inr zoa,trivial⟩⟩⟩) (trivial) ?_
         refine yEN rfl rfl rfl (zoa) (⟨.inl rfl,⟨.inl rfl,⟨.inl rfl,trivial⟩⟩⟩) (⟨rfl,trivial⟩) ?_
         refine zd1 ?_
         refine RP.nil rfl ?_
         refine Q0 ?_
         refine zw2 ?_
         refine Q2 rfl (fun h15=>?_) (fun h15=>?_)
         ·(try rw [h15]);replace h15:=zcl h15
          refine zw4 ?_
          refine QN 2 (bs':=[.int .i64 vz.kind,.bool vz.b,.bool vz.n.neg,.str vz.n.digits,.int .i64 vz.n.exp,.str vz.s,.sl false 8 (Q7 vz.l),.sl false 9 (Q5 vz.m)]) rfl ⟨AVle.refl _,AVle.refl _,AVle.refl _,AVle.refl _,AVle.refl _,AVle.refl _,XA,Xt,trivial⟩ ?_
          refine zrt ?_
          rw [Q1Q hlast hk4 hk5 hh (Q3Z (g:=fun y=>(jed op x r y).2) hq (hi3 rfl) h13 h15) h15,Q3]
          exact QH (Q9 (QI rfl rfl rfl) (Q9 (Z3 rfl) rfl)) hcl (by simp [rks,AV.lt,AV.ltL]) ⟨rfl,rfl⟩
         ·(try rw [h15]);replace h15:=zcl h15
          refine Q1 ?_
          refine Q4 ?_
          refine zv3 ?_
          refine Q4 ?_
          refine zg3 ?_
          refine zt rfl (Ql [[_,_,_,_,_,_,_,_,_]] rfl Tryz.underlying26 Tryz.sizeOf67 Tryz.zeroValue67 rfl (by decide) (by decide) rfl rfl rfl rfl rfl) ?_
          refine zt rfl ((by first|exact Qv rfl 5 (sz:=9) (m:=1) (len:=(acc++eMn last op (ba nm) x put v.m[i]?).length) (cs:=_) rfl (.inr ⟨_,rfl⟩) Tryz.underlying26 Tryz.underlying26 Tryz.type67 rfl rfl rfl (by decide) rfl rfl (Zx _).symm rfl rfl rfl (by show ((acc++eMn last op (ba nm) x put v.m[i]?).length+1) * 128≤_;omega) (by omega) rfl|exact Qv rfl 5 (sz:=9) (m:=1) (len:=(acc++eMn false op (ba nm) x put v.m[i]?).length) (cs:=_) rfl (.inr ⟨_,rfl⟩) Tryz.underlying26 Tryz.underlying26 Tryz.type67 rfl rfl rfl (by decide) rfl rfl (Zx _).symm rfl rfl rfl (by show ((acc++eMn false op (ba nm) x put v.m[i]?).length+1) * 128≤_;omega) (by omega) rfl)) ?_
          refine zg1 ?_
          refine ztN rfl rfl ((by first|exact QX (r:=[.int .i64 v.kind,.bool v.b,.bool v.n.neg,.str v.n.digits,.int .i64 v.n.exp,.str v.s,.sl false 8 (Q7 []),.arr (σ.length+5) ((acc++eMn last op (ba nm) x put v.m[i]?).length+1) 9 0 ((acc++eMn last op (ba nm) x put v.m[i]?).length+1)]) rfl Tryz.sizeOf26 rfl rfl rfl rfl rfl (by decide)|exact QX (r:=[.int .i64 v.kind,.bool v.b,.bool v.n.neg,.str v.n.digits,.int .i64 v.n.exp,.str v.s,.sl false 8 (Q7 []),.arr (σ.length+5) ((acc++eMn false op (ba nm) x put v.m[i]?).length+1) 9 0 ((acc++eMn false op (ba nm) x put v.m[i]?).length+1)]) rfl Tryz.sizeOf26 rfl rfl rfl rfl rfl (by decide))) ?_
          refine zon ?_
          refine Q4 ?_
          refine zv3 ?_
          refine ⟨(i+1,(put || eMh false op (ba nm) put v.m[i]?),(acc++eMn false op (ba nm) x put v.m[i]?)++[(q.1,(jed op x r q.2).1)]),σ.length+6,⟨by simp only;omega,?_,?_,?_⟩,by simp only;omega,by simp,⟨rfl,rfl,rfl,rfl,rfl,rfl,rfl,rfl,rfl,rfl,rfl,rfl,trivial⟩,Qh 6 hcl ?_,?_,?_⟩
          ·simp only;rw [← hi2,Q0s hq,if_pos h13,if_neg (by decide)];simp
          ·intro hl p hp hk
           rcases VO hq hp with hp|rfl
           ·exact hi3 rfl p hp hk
           ·exact h15
          ·simp only [Yt];omega
          ·simp [ownLt,AO.cells,AV.ltL,AV.lt,Z0,K4]
          ·simp [ltE,AV.lt,AV.ltL]
          ·refine (Qo 6).trans ?_
           simp only;rw [Ym,Yt,UB,Q3 (jed op x r q.2).1];rfl
       ·(try rw [h13]);replace h13:=zcl h13
        refine Q1 ?_
        refine Q4 ?_
        refine zg3 ?_
        refine zt rfl (Ql [[_,_,_,_,_,_,_,_,_]] rfl Tryz.underlying26 Tryz.sizeOf67 Tryz.zeroValue67 rfl (by decide) (by decide) rfl rfl rfl rfl rfl) ?_
        refine zt rfl ((by first|exact Qv rfl 5 (sz:=9) (m:=1) (len:=(acc++eMn last op (ba nm) x put v.m[i]?).length) (cs:=_) rfl (.inr ⟨_,rfl⟩) Tryz.underlying26 Tryz.underlying26 Tryz.type67 rfl rfl rfl (by decide) rfl rfl (Zx _).symm rfl rfl rfl (by show ((acc++eMn last op (ba nm) x put v.m[i]?).length+1) * 128≤_;omega) (by omega) rfl|exact Qv rfl 5 (sz:=9) (m:=1) (len:=(acc++eMn false op (ba nm) x put v.m[i]?).length) (cs:=_) rfl (.inr ⟨_,rfl⟩) Tryz.underlying26 Tryz.underlying26 Tryz.type67 rfl rfl rfl (by decide) rfl rfl (Zx _).symm rfl rfl rfl (by show ((acc++eMn false op (ba nm) x put v.m[i]?).length+1) * 128≤_;omega) (by omega) rfl)) ?_
        refine zg1 ?_
        refine ztN rfl rfl ((by first|exact QX (r:=[.int .i64 v.kind,.bool v.b,.bool v.n.neg,.str v.n.digits,.int .i64 v.n.exp,.str v.s,.sl false 8 (Q7 []),.arr (σ.length+5) ((acc++eMn last op (ba nm) x put v.m[i]?).length+1) 9 0 ((acc++eMn last op (ba nm) x put v.m[i]?).length+1)]) rfl Tryz.sizeOf26 rfl rfl rfl rfl rfl (by decide)|exact QX (r:=[.int .i64 v.kind,.bool v.b,.bool v.n.neg,.str v.n.digits,.int .i64 v.n.exp,.str v.s,.sl false 8 (Q7 []),.arr (σ.length+5) ((acc++eMn false op (ba nm) x put v.m[i]?).length+1) 9 0 ((acc++eMn false op (ba nm) x put v.m[i]?).length+1)]) rfl Tryz.sizeOf26 rfl rfl rfl rfl rfl (by decide))) ?_
        refine zon ?_
        refine Q4 ?_
        refine zv3 ?_
        refine ⟨(i+1,(put || eMh last op (ba nm) put v.m[i]?),(acc++eMn last op (ba nm) x put v.m[i]?)++[q]),σ.length+6,⟨by simp only;omega,?_,?_,?_⟩,by simp only;omega,by simp,⟨rfl,rfl,rfl,rfl,rfl,rfl,rfl,rfl,rfl,rfl,rfl,rfl,trivial⟩,Qh 6 hcl ?_,?_,?_⟩
        ·simp only;rw [← hi2,Q0s hq,if_neg h13];simp
        ·intro hl p hp hk
         rcases VO hq hp with hp|rfl
         ·exact hi3 hl p hp hk
         ·exact absurd hk h13
        ·simp only [Yt];omega
        ·simp [ownLt,AO.cells,AV.ltL,AV.lt,Z0,K4]
        ·simp [ltE,AV.lt,AV.ltL]
        ·refine (Qo 6).trans ?_
         simp only;rw [Ym,Yt,UB,Q3 q.2];rfl
    ·(try rw [h6]);replace h6:=zcl h6
     exfalso;omega
end Lg
set_option maxRecDepth 20000
set_option maxHeartbeats 4000000
namespace Lg
open Go Go.Proofs Go.RowKit
variable [GLay]
theorem QcO (f:Bool) (v:JV) (cs:List AV) (σ:List AO) (hc:Qf v=cs):ACalls Tryz.prog 31 [.agg cs,.sl f 1 (Qy [])] σ (Ret (.tup [.agg (Qf (Qz [] v).1),.bool (Qz [] v).2]) σ):=by
 refine QS Tryz.func31 rfl Tryz.ntmps31 (by rw [Tryz.results31];exact (.ck Tryz.isAgg28 Tryz.sizeOf28 (.t .nil))) (Nat.le_of_ble_eq_true rfl) (fun hcl hal=>?_)
 subst hc
 rw [Q3 v]
 refine zw3 ?_
 refine Q0 ?_
 refine zu2 ?_
 refine zt rfl (JI rfl rfl rfl rfl) ?_
 refine zon ?_
 refine Qj rfl ?_
 refine zw3 ?_
 refine zrt ?_
 rw [Qz,Q3 v]
 exact QH (Q9 (QI rfl rfl rfl) (Q9 (Z3 rfl) rfl)) hcl (by simp [rks,AV.lt,AV.ltL]) ⟨rfl,rfl⟩

theorem QcP (r:List BL) (ih:∀ (v:JV) (cs:List AV) (es:List (List AV)) (σ:List AO),Qf v=cs→es=Qy r→jb v→ACalls Tryz.prog 31 [.agg cs,.sl false 1 es] σ (Ret (.tup [.agg (Qf (Qz r v).1),.bool (Qz r v).2]) σ)) (f:Bool) (nm:BL) (v:JV) (cs:List AV) (σ:List AO) (hc:Qf v=cs) (hjb:jb v) (hnm:nm.length≤1000000):ACalls Tryz.prog 31 [.agg cs,.sl f 1 (Qy (nm :: r))] σ (Ret (.tup [.agg (Qf (Qz (nm :: r) v).1),.bool (Qz (nm :: r) v).2]) σ):=by
 obtain ⟨hb1,hb2,hb3,hb4,hb5,hb6⟩:=(Zy v).1 hjb
 have hll:=QG v.l
 have hix:∀ (nm:BL) (τ:List AO),nm.length≤1000000→ACalls Tryz.prog 53 [.str (ba nm),.int .i64 ((Q7 v.l).length:Int),.bool false] τ (Ret (.tup [.int .i64 (ZF nm v.l.length false),.bool (Zr nm v.l.length false)]) τ):=by
  intro nm τ hm;rw [hll];exact Q8p nm v.l.length false τ hm (by omega)
 refine QS Tryz.func31 rfl Tryz.ntmps31 (by rw [Tryz.results31];exact (.ck Tryz.isAgg28 Tryz.sizeOf28 (.t .nil))) (Nat.le_of_ble_eq_true rfl) (fun hcl hal=>?_)
 subst hc
 rw [Q3 v]
 have hsl:1≤(Qy (nm :: r)).length:=by rw [Zd,List.length_cons];omega
 refine zw3 ?_
 refine Q0 ?_
 refine zu2 ?_
 refine zt rfl (Xx rfl rfl rfl (by rw [Zd,List.length_cons];omega)) ?_
 refine zon ?_
 refine Qd rfl ?_
 refine Q1 ?_
 refine Q0 ?_
 refine zw3 ?_
 refine Q2 rfl (fun h1=>?_) (fun h1=>?_)
 ·(try rw [h1]);replace h1:=zcl h1
  refine Q0 ?_
  refine Qb #[0,1,3,0,8,24,63,127,255,255,511,2047] Tryz.mixed (by decide +kernel) (by decide +kernel) ?_
  refine zd1 ?_
  refine yA rfl rfl (fun _=>Qe rfl Tryz.underlying51 Tryz.sizeOf9 rfl rfl (by omega) (rfl)) ?_
  refine zp1 ?_
  refine zd1 ?_
  refine zp1 ?_
  refine zd1 ?_
  refine yP rfl rfl (zc rfl (hix nm _ hnm)) (trivial) ?_
  refine zd5 ?_
  refine RP.nil rfl ?_
  refine Q0 ?_
  refine zw2 ?_
  refine Q2 rfl (fun h2=>?_) (fun h2=>?_)
  ·(try rw [h2]);replace h2:=zcl h2
   refine zw3 ?_
   refine QN 1 (bs':=[.int .i64 vz.kind,.bool vz.b,.bool vz.n.neg,.str vz.n.digits,.int .i64 vz.n.exp,.str vz.s,.sl false 8 (Q7 vz.l),.sl false 9 (Q5 vz.m)]) rfl ⟨AVle.refl _,AVle.refl _,AVle.refl _,AVle.refl _,AVle.refl _,AVle.refl _,XA,Xt,trivial⟩ ?_
   refine zrt ?_
   rw [V7 h1 (by simpa using h2),Q3]
   exact QH (Q9 (QI rfl rfl rfl) (Q9 (Z3 rfl) rfl)) hcl (by simp [rks,AV.lt,AV.ltL]) ⟨rfl,rfl⟩
  ·(try rw [h2]);replace h2:=zcl h2
   obtain ⟨k,hk,hkl⟩:=Xw (nm:=nm) (n:=v.l.length) (by simpa using h2)
   obtain ⟨a,ha⟩:∃ a,v.l[k]? =some a:=⟨_,List.getElem?_eq_getElem hkl⟩
   rw [hk]
   refine Q1 ?_
   refine Q0 ?_
   refine Qb #[0,1,0,7,15,0,32,127,255,255,1023,2047] Tryz.mixed (by decide +kernel) (by decide +kernel) ?_
   refine zd1 ?_
   refine zp1 ?_
   refine zd2 ?_
   rw [Q3 a]
   refine zp1 ?_
   refine zd1 ?_
   refine yA rfl rfl (fun _=>(by first|exact ZT _ _ rfl Tryz.underlying51 Tryz.sizeOf9 rfl (by first|exact ⟨_,rfl⟩|rfl) (by first|exact ⟨_,rfl⟩|rfl) (by omega) (by omega) (by omega)|exact QC _ _ rfl Tryz.underlying51 Tryz.sizeOf9 rfl GET (by first|exact ⟨_,rfl⟩|rfl) (by first|exact ⟨_,rfl⟩|rfl) (by omega) (by omega) (by omega))) ?_
   refine yP rfl rfl (zc rfl (ih a _ _ _ (Q3 a) (YJ nm r) (Ys hb5 ha))) (trivial) ?_
   rw [Q3 (Qz r a).1]
   refine zd2 ?_
   refine yEN rfl rfl rfl (zoa) (⟨.inl rfl,⟨.inl rfl,⟨.inl rfl,trivial⟩⟩⟩) (trivial) ?_
   refine zd1 ?_
   refine RP.nil rfl ?_
   refine zrt ?_
   rw [Hv h1 (by simpa using h2) hk ha,Q3]
   exact QH (Q9 (QI rfl rfl rfl) (Q9 (Z3 rfl) rfl)) hcl (by simp [rks,AV.lt,AV.ltL]) ⟨rfl,rfl⟩
 ·(try rw [h1]);replace h1:=zcl h1
  refine Q1 ?_
  refine Q0 ?_
  refine Qb #[0,0,2,6,15,31,63,63,0,383,1023] Tryz.mixed (by decide +kernel) (by decide +kernel) ?_
  refine zp1 ?_
  refine zd1 ?_
  refine yA rfl rfl (fun _=>Qe rfl Tryz.underlying51 Tryz.sizeOf9 rfl rfl (by omega) (rfl)) ?_
  refine zp1 ?_
  refine yP rfl rfl (zc rfl (YX v (ba nm) _ _ (Q3 v) hb4)) (trivial) ?_
  rw [Q3 (jfD v (ba nm))]
  refine zd3 ?_
  refine yE rfl rfl (zoa) (⟨.inr (by rw [← Q3 (jfD v (ba nm))];exact zc rfl (YX v (ba nm) _ _ (Q3 v) hb4)),⟨.inr zoa,⟨.inr zoa,trivial⟩⟩⟩) (trivial) ?_
  refine yEN rfl rfl rfl (zoa) (⟨.inl rfl,⟨.inl rfl,⟨.inl rfl,trivial⟩⟩⟩) (⟨rfl,trivial⟩) ?_
  refine zd1 ?_
  refine RP.nil rfl ?_
  refine Q0 ?_
  refine zw2 ?_
  refine Q2 rfl (fun h3=>?_) (fun h3=>?_)
  ·(try rw [h3]);replace h3:=zcl h3
   refine zw3 ?_
   refine QN 1 (bs':=[.int .i64 vz.kind,.bool vz.b,.bool vz.n.neg,.str vz.n.digits,.int .i64 vz.n.exp,.str vz.s,.sl false 8 (Q7 vz.l),.sl false 9 (Q5 vz.m)]) rfl ⟨AVle.refl _,AVle.refl _,AVle.refl _,AVle.refl _,AVle.refl _,AVle.refl _,XA,Xt,trivial⟩ ?_
   refine zrt ?_
   rw [Jn h1 (by simpa using h3),Q3]
   exact QH (Q9 (QI rfl rfl rfl) (Q9 (Z3 rfl) rfl)) hcl (by simp [rks,AV.lt,AV.ltL]) ⟨rfl,rfl⟩
  ·(try rw [h3]);replace h3:=zcl h3
   refine Q1 ?_
   refine Q0 ?_
   refine Qb #[0,0,2,7,15,15,63,127] Tryz.mixed (by decide +kernel) (by decide +kernel) ?_
   refine zp1 ?_
   refine zd1 ?_
   refine yA rfl rfl (fun _=>(by first|exact ZT _ _ rfl Tryz.underlying51 Tryz.sizeOf9 rfl (by first|exact ⟨_,rfl⟩|rfl) (by first|exact ⟨_,rfl⟩|rfl) (by omega) (by omega) (by omega)|exact QC _ _ rfl Tryz.underlying51 Tryz.sizeOf9 rfl GET (by first|exact ⟨_,rfl⟩|rfl) (by first|exact ⟨_,rfl⟩|rfl) (by omega) (by omega) (by omega))) ?_
   refine yP rfl rfl (zc rfl (ih (jfD v (ba nm)) _ _ _ (Q3 _) (YJ nm r) (W2 hjb))) (trivial) ?_
   rw [Q3 (Qz r (jfD v (ba nm))).1]
   refine zd2 ?_
   refine yEN rfl rfl rfl (zoa) (⟨.inl rfl,⟨.inl rfl,trivial⟩⟩) (trivial) ?_
   refine zd1 ?_
   refine RP.nil rfl ?_
   refine zrt ?_
   rw [Hw h1 (by simpa using h3),Q3]
   exact QH (Q9 (QI rfl rfl rfl) (Q9 (Z3 rfl) rfl)) hcl (by simp [rks,AV.lt,AV.ltL]) ⟨rfl,rfl⟩
end Lg
