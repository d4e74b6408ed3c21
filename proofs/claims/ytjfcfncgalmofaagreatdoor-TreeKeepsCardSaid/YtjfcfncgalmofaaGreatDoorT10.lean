/- A part of the proof of The tree's Apply, and what the reference says of it: the same answer and the same tree.: A0 J2 A15 A16 As9 As10 A17 J5 Q2 Q4 Q6 Y14 B5 Lt15 A22 VTa. -/
import Derived.Test.YtjfcfncgalmofaaGreatDoorT9
import Derived.Test.YtjfcfncgalmofaaGreatDoorT7
import Derived.Test.YtjfcfncgalmofaaGreatDoorT3
import Derived.Test.YtjfcfncgalmofaaGreatDoorT6
import Derived.Test.YtjfcfncgalmofaaGreatDoorT5
import Derived.Test.YtjfcfncgalmofaaGreatDoorT2
import Derived.Test.YtjfcfncgalmofaaGreatDoorT4
import Derived.Test.YtjfcfncgalmofaaGreatDoorT8
import Derived.Test.YtjfcfncgalmofaaGreatDoorProg
import Derived.WalkKit
import Derived.LaidEql
import Derived.Stop.Asserts
import Derived.RowKitTokens
import Derived.SizedLaws
import Derived.LaidHandle
set_option linter.unusedVariables false
set_option linter.unusedSimpArgs false
set_option linter.unusedSectionVars false
set_option maxRecDepth 20000
set_option maxHeartbeats 4000000
namespace Lg
open Go Go.Proofs Go.RowKit
variable [GLay]
theorem GV (op:Int) (x:JV) (xs:List AV) (hxs:Qf x=xs) (hop:1≤op∧op≤3):∀ (l:List BL) (f:Bool) (v:JV) (cs:List AV) (σ:List AO),(∀ nm∈l,nm.length≤1000000)→Qf v=cs→jb v→ACalls Tryz.prog 69 [.int .i64 op,.agg cs,.sl f 1 (Qy l),.agg xs] σ (Ret (.tup [.agg (Qf (jed op x l v).1),.int .i64 (jed op x l v).2]) σ)
 |[],f,v,cs,σ,_,hc,_=>Qar op x xs hxs f v cs σ hc
 |nm :: r,f,v,cs,σ,hl,hc,hb=>by
  have ih:∀ (v:JV) (cs:List AV) (es:List (List AV)) (σ:List AO),Qf v=cs→es=Qy r→jb v→ACalls Tryz.prog 69 [.int .i64 op,.agg cs,.sl false 1 es,.agg xs] σ (Ret (.tup [.agg (Qf (jed op x r v).1),.int .i64 (jed op x r v).2]) σ):=by
   rintro v cs es σ hc rfl hb
   exact GV op x xs hxs hop r false v cs σ (fun n hn=>hl n (List.mem_cons_of_mem _ hn)) hc hb
  by_cases h4:v.kind=4
  ·exact Qas op x xs hxs r ih f nm v cs σ hc hb hop (hl nm (List.mem_cons_self ..)) h4
  ·exact Qat op x xs hxs r ih f nm v cs σ hc hb hop h4
theorem Q8o:∀ (l:List BL) (f:Bool) (v:JV) (cs:List AV) (σ:List AO),(∀ nm∈l,nm.length≤1000000)→Qf v=cs→jb v→ACalls Tryz.prog 31 [.agg cs,.sl f 1 (Qy l)] σ (Ret (.tup [.agg (Qf (Qz l v).1),.bool (Qz l v).2]) σ)
 |[],f,v,cs,σ,_,hc,_=>QcO f v cs σ hc
 |nm :: r,f,v,cs,σ,hl,hc,hb=>QcP r (by
   rintro v cs es σ hc rfl hb
   exact Q8o r false v cs σ (fun n hn=>hl n (List.mem_cons_of_mem _ hn)) hc hb) f nm v cs σ hc hb (hl nm (List.mem_cons_self ..))
theorem Q5l {α:Type} {l:List α} {i:Nat} {x:α} (h:l[i]? =some x):l.drop i=x :: l.drop (i+1):=by
 have hi:=(List.getElem?_eq_some_iff.1 h).1
 rw [List.drop_eq_getElem_cons hi];congr 1
 have:=List.getElem?_eq_getElem hi
 rw [h] at this;exact (Option.some.inj this).symm
end Lg
set_option maxRecDepth 20000
set_option maxHeartbeats 4000000
namespace Lg
open Go Go.Proofs Go.RowKit
variable [GLay]
theorem Q8l (l:List BL) (f:Bool) (v:JV) (cs:List AV) (σ:List AO) (hl:∀ nm∈l,nm.length≤1000000) (hc:Qf v=cs) (hb:jb v):ACalls Tryz.prog 69 [.int .i64 2,.agg cs,.sl f 1 (Qy l),.agg [.int .i64 0,.bool false,.bool false,.str ⟨#[]⟩,.int .i64 0,.str ⟨#[]⟩,.nils,.nils]] σ (Ret (.tup [.agg (Qf (jed 2 vz l v).1),.int .i64 (jed 2 vz l v).2]) σ):=
  ACalls.conv (args':=[.int .i64 2,.agg cs,.sl f 1 (Qy l),.agg (Qf vz)]) ⟨AVle.refl _,AVle.refl _,AVle.refl _,AVle.agg (Qdi XA Xt),trivial⟩ (GV 2 vz _ rfl ⟨by decide,by decide⟩ l f v cs σ hl hc hb)
theorem Q8x (x y:JV) (cs ds:List AV) (σ:List AO) (hc:Qf x=cs) (hd:Qf y=ds) (hx:jb x) (hy:jb y):ACalls Tryz.prog 18 [.agg cs,.agg ds] σ (Ret (.bool (pb (x=y))) σ):=by
  subst hc;subst hd
  exact UU (Q6 x).toNat x y σ (by have:=Qi x;omega) hx hy
theorem Q8e (x y:JV) (cs ds:List AV) (σ:List AO) (hc:Qf x=cs) (hd:Qf y=ds) (hx:jb x) (hy:jb y):ACalls Tryz.prog 64 [.agg cs,.agg ds] σ (Ret (.bool (pb (x=y))) σ):=by
  subst hc;subst hd
  exact Q8D (Q6 x).toNat x y σ (by have:=Qi x;omega) hx hy
theorem Qbj (o:JOp) (os:List AV) (hos:XM o=os) (hob:OPB o) (v:JV) (cs:List AV) (σ:List AO) (hc:Qf v=cs) (hjb:jb v) (hst:jst v) (hsz:Q6 v≤3000):ACalls Tryz.prog 38 [.agg cs,.agg os] σ (Ret (.tup [.agg (Qf (jdo v o).1),.int .i64 (jdo v o).2]) σ):=by
 refine QS Tryz.func38 rfl Tryz.ntmps38 (by rw [Tryz.results38];exact (.ck Tryz.isAgg28 Tryz.sizeOf28 (.t .nil))) (Nat.le_of_ble_eq_true rfl) (fun hcl hal=>?_)
 subst hc
 subst hos
 rw [Q3 v,QP o]
 have hpl:=Zd o.pa
 have hfl:=Zd o.fr
 have hb1:=hob.pa
 have hb2:=hob.fr
 refine zw4 ?_
 refine Q0 ?_
 refine zw3 ?_
 refine Q2 rfl (fun h1=>?_) (fun h1=>?_)
 ·(try rw [h1]);replace h1:=zcl h1
  refine zu7 ?_
  refine zt rfl (zc rfl (GV o.op o.v _ (Q3 o.v) ⟨hob.lo,h1⟩ o.pa _ v _ _ hob.pan (Q3 v) hjb)) ?_
  rw [Q3 (jed o.op o.v o.pa v).1]
  refine zv4 ?_
  refine zrt ?_
  rw [Q9z h1,Q3]
  exact QH (Q9 (QI rfl rfl rfl) (Q9 (Z3 rfl) rfl)) hcl (by simp [rks,AV.lt,AV.ltL]) ⟨rfl,rfl⟩
 ·(try rw [h1]);replace h1:=zcl h1
  have h1:¬o.op≤3:=by omega
  refine Q1 ?_
  refine QE (ι:=Unit) (fun b=>¬(o.op=4∧o.fr.length < o.pa.length∧o.pa.take o.fr.length=o.fr)) (fun b=>⟨[],[(2,.ptr (σ.length+0) 0),(3,.ptr (σ.length+1) 0),(4,.ptr (σ.length+2) 0)]⟩) (fun b=>σ++[.box [.int .i64 v.kind,.bool v.b,.bool v.n.neg,.str v.n.digits,.int .i64 v.n.exp,.str v.s,.sl false 8 (Q7 v.l),.sl false 9 (Q5 v.m)],.box [.int .i64 o.op,.sl false 1 (Qy o.pa),.sl false 1 (Qy o.fr),.int .i64 o.v.kind,.bool o.v.b,.bool o.v.n.neg,.str o.v.n.digits,.int .i64 o.v.n.exp,.str o.v.s,.sl false 8 (Q7 o.v.l),.sl false 9 (Q5 o.v.m)],.box [.int .i64 0,.bool false,.bool false,.str ⟨#[]⟩,.int .i64 0,.str ⟨#[]⟩,.nils,.nils]]) ?_ (fun b hj=>?_)
  ·skip
   refine zu4 ?_
   refine zsp 30 rfl (fun h2=>?_) fun h2=>?_
   ·rw [h2];replace h2:=zcl h2
    refine zv8 ?_
    refine Q2 rfl (fun h3=>?_) (fun h3=>?_)
    ·(try rw [h3]);replace h3:=zcl h3
     refine Q0 ?_
     refine Qb #[0,1,0,4,12,31,0,64,255,511] Tryz.mixed (by decide +kernel) (by decide +kernel) ?_
     refine zd1 ?_
     refine zp1 ?_
     refine zd1 ?_
     refine zp1 ?_
     refine zd1 ?_
     refine yA rfl rfl (fun _=>(by first|exact ZT _ _ rfl Tryz.underlying51 Tryz.sizeOf9 rfl (by first|exact ⟨_,rfl⟩|rfl) (by first|exact ⟨_,rfl⟩|rfl) (by omega) (by omega) (by omega)|exact QC _ _ rfl Tryz.underlying51 Tryz.sizeOf9 rfl GET (by first|exact ⟨_,rfl⟩|rfl) (by first|exact ⟨_,rfl⟩|rfl) (by omega) (by omega) (by omega))) ?_
     refine zd1 ?_
     refine zp1 ?_
     refine yP rfl rfl (zc rfl (Qbk _ _ (o.pa.take o.fr.length) o.fr _ _ _ (by rw [hfl];simp [Qy,List.map_take]) rfl (by rw [List.length_take];omega) hb2 (fun x hx=>hob.pan x (List.mem_of_mem_take hx)) hob.frn)) (trivial) ?_
     refine zd1 ?_
     refine RP.nil rfl ?_
     refine zw1 ?_
     refine Q2 rfl (fun h4=>?_) (fun h4=>?_)
     ·(try rw [h4]);replace h4:=zcl h4
      refine zw3 ?_
      refine QN 2 (bs':=[.int .i64 vz.kind,.bool vz.b,.bool vz.n.neg,.str vz.n.digits,.int .i64 vz.n.exp,.str vz.s,.sl false 8 (Q7 vz.l),.sl false 9 (Q5 vz.m)]) rfl ⟨AVle.refl _,AVle.refl _,AVle.refl _,AVle.refl _,AVle.refl _,AVle.refl _,XA,Xt,trivial⟩ ?_
      refine zrt ?_
      rw [Q7i h1 ⟨h2,by omega,h4⟩,Q3]
      exact QH (Q9 (QI rfl rfl rfl) (Q9 (Z3 rfl) rfl)) hcl (by simp [rks,AV.lt,AV.ltL]) ⟨rfl,rfl⟩
     ·(try rw [h4]);replace h4:=zcl h4
      refine Q1 ?_
      exact ⟨(),fun z=>h4 z.2.2,⟨rfl,rfl,rfl,rfl,trivial⟩,rfl⟩
    ·(try rw [h3]);replace h3:=zcl h3
     refine Q1 ?_
     exact ⟨(),fun z=>by omega,⟨rfl,rfl,rfl,rfl,trivial⟩,rfl⟩
   ·rw [h2];replace h2:=zcl h2
    refine zv8 ?_
    refine Qd rfl ?_
    refine Q1 ?_
    exact ⟨(),fun z=>h2 z.1,⟨rfl,rfl,rfl,rfl,trivial⟩,rfl⟩
  ·skip
   have hni:=hj
   clear hj
   refine zw3 ?_
   refine QE (ι:=Unit) (fun b=>True) (fun b=>⟨[],[(2,.ptr (σ.length+0) 0),(3,.ptr (σ.length+1) 0),(4,.ptr (σ.length+2) 0),(7,.sl false 1 (Qy (if o.op=6 then o.pa else o.fr)))]⟩) (fun b=>σ++[.box [.int .i64 v.kind,.bool v.b,.bool v.n.neg,.str v.n.digits,.int .i64 v.n.exp,.str v.s,.sl false 8 (Q7 v.l),.sl false 9 (Q5 v.m)],.box [.int .i64 o.op,.sl false 1 (Qy o.pa),.sl false 1 (Qy o.fr),.int .i64 o.v.kind,.bool o.v.b,.bool o.v.n.neg,.str o.v.n.digits,.int .i64 o.v.n.exp,.str o.v.s,.sl false 8 (Q7 o.v.l),.sl false 9 (Q5 o.v.m)],.box [.int .i64 0,.bool false,.bool false,.str ⟨#[]⟩,.int .i64 0,.str ⟨#[]⟩,.nils,.nils]]) ?_ (fun b hj=>?_)
   ·skip
    refine zw3 ?_
    refine Q2 rfl (fun h5=>?_) (fun h5=>?_)
    ·(try rw [h5]);replace h5:=zcl h5
     refine Q4 ?_
     refine zv3 ?_
     rw [if_pos h5]
     exact ⟨(),trivial,⟨rfl,rfl,rfl,rfl,rfl,trivial⟩,rfl⟩
    ·(try rw [h5]);replace h5:=zcl h5
     refine Q1 ?_
     rw [if_neg h5]
     exact ⟨(),trivial,⟨rfl,rfl,rfl,rfl,rfl,trivial⟩,rfl⟩
   ·skip
    have hWn:∀ n∈(if o.op=6 then o.pa else o.fr),n.length≤1000000:=by split;exact hob.pan;exact hob.frn
    have hwj:=Vz (if o.op=6 then o.pa else o.fr) hjb
    refine zu2 ?_
    refine zt rfl (zc rfl (Q8o (if o.op=6 then o.pa else o.fr) _ v _ _ hWn (Q3 v) hjb)) ?_
    rw [Q3 (Qz (if o.op=6 then o.pa else o.fr) v).1]
    refine zv6 ?_
    refine Q0 ?_
    refine zw2 ?_
    refine Q2 rfl (fun h6=>?_) (fun h6=>?_)
    ·(try rw [h6]);replace h6:=zcl h6
     refine zw3 ?_
     refine QN 2 (bs':=[.int .i64 vz.kind,.bool vz.b,.bool vz.n.neg,.str vz.n.digits,.int .i64 vz.n.exp,.str vz.s,.sl false 8 (Q7 vz.l),.sl false 9 (Q5 vz.m)]) rfl ⟨AVle.refl _,AVle.refl _,AVle.refl _,AVle.refl _,AVle.refl _,AVle.refl _,XA,Xt,trivial⟩ ?_
     refine zrt ?_
     rw [Q7j h1 hni (by simpa using h6),Q3]
     exact QH (Q9 (QI rfl rfl rfl) (Q9 (Z3 rfl) rfl)) hcl (by simp [rks,AV.lt,AV.ltL]) ⟨rfl,rfl⟩
    ·(try rw [h6]);replace h6:=zcl h6
     have hg0:¬(Qz (if o.op=6 then o.pa else o.fr) v).2=false:=by simpa using h6
     refine Q1 ?_
     refine Q0 ?_
     refine zw3 ?_
     refine Q2 rfl (fun h7=>?_) (fun h7=>?_)
     ·(try rw [h7]);replace h7:=zcl h7
      refine Q0 ?_
      refine Qn (σ':=σ++[.box [.int .i64 v.kind,.bool v.b,.bool v.n.neg,.str v.n.digits,.int .i64 v.n.exp,.str v.s,.sl false 8 (Q7 v.l),.sl false 9 (Q5 v.m)],.box [.int .i64 o.op,.sl false 1 (Qy o.pa),.sl false 1 (Qy o.fr),.int .i64 o.v.kind,.bool o.v.b,.bool o.v.n.neg,.str o.v.n.digits,.int .i64 o.v.n.exp,.str o.v.s,.sl false 8 (Q7 o.v.l),.sl false 9 (Q5 o.v.m)],.box [.int .i64 0,.bool false,.bool false,.str ⟨#[]⟩,.int .i64 0,.str ⟨#[]⟩,.nils,.nils],.box [.int .i64 (Qz (if o.op=6 then o.pa else o.fr) v).1.kind,.bool (Qz (if o.op=6 then o.pa else o.fr) v).1.b,.bool (Qz (if o.op=6 then o.pa else o.fr) v).1.n.neg,.str (Qz (if o.op=6 then o.pa else o.fr) v).1.n.digits,.int .i64 (Qz (if o.op=6 then o.pa else o.fr) v).1.n.exp,.str (Qz (if o.op=6 then o.pa else o.fr) v).1.s,.sl false 8 (Q7 (Qz (if o.op=6 then o.pa else o.fr) v).1.l),.sl false 9 (Q5 (Qz (if o.op=6 then o.pa else o.fr) v).1.m)]]) rfl ?_
      refine Q4 ?_
      refine zg3 ?_
      refine zt rfl (zc rfl (Q8x (Qz (if o.op=6 then o.pa else o.fr) v).1 o.v _ _ _ (Q3 _) (Q3 _) hwj hob.jb)) ?_
      refine zv1 ?_
      refine Q0 ?_
      refine zw2 ?_
      refine Q2 rfl (fun h8=>?_) (fun h8=>?_)
      ·(try rw [h8]);replace h8:=zcl h8
       have hs8:¬(Qz o.pa v).1=o.v:=by
        have h8':pb ((Qz (if o.op=6 then o.pa else o.fr) v).1=o.v)=false:=by simpa using h8
        intro e;rw [if_pos h7,UP e] at h8';cases h8'
       refine zw3 ?_
       refine QN 2 (bs':=[.int .i64 vz.kind,.bool vz.b,.bool vz.n.neg,.str vz.n.digits,.int .i64 vz.n.exp,.str vz.s,.sl false 8 (Q7 vz.l),.sl false 9 (Q5 vz.m)]) rfl ⟨AVle.refl _,AVle.refl _,AVle.refl _,AVle.refl _,AVle.refl _,AVle.refl _,XA,Xt,trivial⟩ ?_
       refine zrt ?_
       rw [Qce h1 hni hg0 h7 hs8,Q3]
       exact QH (Q9 (QI rfl rfl rfl) (Q9 (Z3 rfl) rfl)) hcl (by simp [rks,AV.lt,AV.ltL]) ⟨rfl,rfl⟩
      ·(try rw [h8]);replace h8:=zcl h8
       have hs0:(Qz o.pa v).1=o.v:=by
        have h8':pb ((Qz (if o.op=6 then o.pa else o.fr) v).1=o.v)=true:=by simpa using h8
        rw [if_pos h7] at h8';exact (Yh _).1 h8'
       refine Q1 ?_
       refine zw3 ?_
       refine zrt ?_
       rw [Qcd h1 hni hg0 h7 hs0,Q3]
       exact QH (Q9 (QI rfl rfl rfl) (Q9 (Z3 rfl) rfl)) hcl (by simp [rks,AV.lt,AV.ltL]) ⟨rfl,rfl⟩
     ·(try rw [h7]);replace h7:=zcl h7
      refine Q1 ?_
      refine Q5a (ι:=JV) (fun u=>jdo v o=jed 1 (Qz (if o.op=6 then o.pa else o.fr) v).1 o.pa u∧jb u) (fun u=>⟨[],[(2,.ptr (σ.length+0) 0),(3,.ptr (σ.length+1) 0),(4,.ptr (σ.length+2) 0),(8,.ptr (σ.length+3) 0)]⟩) (fun u=>σ++[.box [.int .i64 u.kind,.bool u.b,.bool u.n.neg,.str u.n.digits,.int .i64 u.n.exp,.str u.s,.sl false 8 (Q7 u.l),.sl false 9 (Q5 u.m)],.box [.int .i64 o.op,.sl false 1 (Qy o.pa),.sl false 1 (Qy o.fr),.int .i64 o.v.kind,.bool o.v.b,.bool o.v.n.neg,.str o.v.n.digits,.int .i64 o.v.n.exp,.str o.v.s,.sl false 8 (Q7 o.v.l),.sl false 9 (Q5 o.v.m)],.box [.int .i64 0,.bool false,.bool false,.str ⟨#[]⟩,.int .i64 0,.str ⟨#[]⟩,.nils,.nils],.box [.int .i64 (Qz (if o.op=6 then o.pa else o.fr) v).1.kind,.bool (Qz (if o.op=6 then o.pa else o.fr) v).1.b,.bool (Qz (if o.op=6 then o.pa else o.fr) v).1.n.neg,.str (Qz (if o.op=6 then o.pa else o.fr) v).1.n.digits,.int .i64 (Qz (if o.op=6 then o.pa else o.fr) v).1.n.exp,.str (Qz (if o.op=6 then o.pa else o.fr) v).1.s,.sl false 8 (Q7 (Qz (if o.op=6 then o.pa else o.fr) v).1.l),.sl false 9 (Q5 (Qz (if o.op=6 then o.pa else o.fr) v).1.m)]]) ?_ (fun u hj=>?_)
      ·skip
       refine Q0 ?_
       refine Qn (σ':=σ++[.box [.int .i64 v.kind,.bool v.b,.bool v.n.neg,.str v.n.digits,.int .i64 v.n.exp,.str v.s,.sl false 8 (Q7 v.l),.sl false 9 (Q5 v.m)],.box [.int .i64 o.op,.sl false 1 (Qy o.pa),.sl false 1 (Qy o.fr),.int .i64 o.v.kind,.bool o.v.b,.bool o.v.n.neg,.str o.v.n.digits,.int .i64 o.v.n.exp,.str o.v.s,.sl false 8 (Q7 o.v.l),.sl false 9 (Q5 o.v.m)],.box [.int .i64 0,.bool false,.bool false,.str ⟨#[]⟩,.int .i64 0,.str ⟨#[]⟩,.nils,.nils],.box [.int .i64 (Qz (if o.op=6 then o.pa else o.fr) v).1.kind,.bool (Qz (if o.op=6 then o.pa else o.fr) v).1.b,.bool (Qz (if o.op=6 then o.pa else o.fr) v).1.n.neg,.str (Qz (if o.op=6 then o.pa else o.fr) v).1.n.digits,.int .i64 (Qz (if o.op=6 then o.pa else o.fr) v).1.n.exp,.str (Qz (if o.op=6 then o.pa else o.fr) v).1.s,.sl false 8 (Q7 (Qz (if o.op=6 then o.pa else o.fr) v).1.l),.sl false 9 (Q5 (Qz (if o.op=6 then o.pa else o.fr) v).1.m)]]) rfl ?_
       refine Q4 ?_
       refine zv3 ?_
       refine Q2 rfl (fun h9=>?_) (fun h9=>?_)
       ·(try rw [h9]);replace h9:=zcl h9
        refine zu4 ?_
        refine zt rfl (zc rfl (Qbk _ _ o.pa o.fr _ _ _ rfl rfl hb1 hb2 hob.pan hob.frn)) ?_
        refine zv1 ?_
        refine Q0 ?_
        refine zw1 ?_
        refine Q2 rfl (fun h10=>?_) (fun h10=>?_)
        ·(try rw [h10]);replace h10:=zcl h10
         refine zw3 ?_
         refine zrt ?_
         rw [Q7l h1 hni hg0 h7 h9 h10,Q3]
         exact QH (Q9 (QI rfl rfl rfl) (Q9 (Z3 rfl) rfl)) hcl (by simp [rks,AV.lt,AV.ltL]) ⟨rfl,rfl⟩
        ·(try rw [h10]);replace h10:=zcl h10
         refine Q1 ?_
         refine zu4 ?_
         refine zt rfl (zc rfl (Q8l o.fr _ v _ _ hob.frn (Q3 v) hjb)) ?_
         rw [Q3 (jed 2 vz o.fr v).1]
         refine zv6 ?_
         refine Q0 ?_
         refine Q0 ?_
         refine Qn (σ':=σ++[.box [.int .i64 v.kind,.bool v.b,.bool v.n.neg,.str v.n.digits,.int .i64 v.n.exp,.str v.s,.sl false 8 (Q7 v.l),.sl false 9 (Q5 v.m)],.box [.int .i64 o.op,.sl false 1 (Qy o.pa),.sl false 1 (Qy o.fr),.int .i64 o.v.kind,.bool o.v.b,.bool o.v.n.neg,.str o.v.n.digits,.int .i64 o.v.n.exp,.str o.v.s,.sl false 8 (Q7 o.v.l),.sl false 9 (Q5 o.v.m)],.box [.int .i64 0,.bool false,.bool false,.str ⟨#[]⟩,.int .i64 0,.str ⟨#[]⟩,.nils,.nils],.box [.int .i64 (Qz (if o.op=6 then o.pa else o.fr) v).1.kind,.bool (Qz (if o.op=6 then o.pa else o.fr) v).1.b,.bool (Qz (if o.op=6 then o.pa else o.fr) v).1.n.neg,.str (Qz (if o.op=6 then o.pa else o.fr) v).1.n.digits,.int .i64 (Qz (if o.op=6 then o.pa else o.fr) v).1.n.exp,.str (Qz (if o.op=6 then o.pa else o.fr) v).1.s,.sl false 8 (Q7 (Qz (if o.op=6 then o.pa else o.fr) v).1.l),.sl false 9 (Q5 (Qz (if o.op=6 then o.pa else o.fr) v).1.m)],.box [.int .i64 (jed 2 vz o.fr v).1.kind,.bool (jed 2 vz o.fr v).1.b,.bool (jed 2 vz o.fr v).1.n.neg,.str (jed 2 vz o.fr v).1.n.digits,.int .i64 (jed 2 vz o.fr v).1.n.exp,.str (jed 2 vz o.fr v).1.s,.sl false 8 (Q7 (jed 2 vz o.fr v).1.l),.sl false 9 (Q5 (jed 2 vz o.fr v).1.m)]]) rfl ?_
         refine Q4 ?_
         refine zv2 ?_
         refine Q2 rfl (fun h11=>?_) (fun h11=>?_)
         ·(try rw [h11]);replace h11:=zcl h11
          refine zw4 ?_
          refine QN 2 (bs':=[.int .i64 vz.kind,.bool vz.b,.bool vz.n.neg,.str vz.n.digits,.int .i64 vz.n.exp,.str vz.s,.sl false 8 (Q7 vz.l),.sl false 9 (Q5 vz.m)]) rfl ⟨AVle.refl _,AVle.refl _,AVle.refl _,AVle.refl _,AVle.refl _,AVle.refl _,XA,Xt,trivial⟩ ?_
          refine zrt ?_
          rw [Q7k h1 hni hg0 h7 h9 h10 h11,Q3]
          exact QH (Q9 (QI rfl rfl rfl) (Q9 (Z3 rfl) rfl)) hcl (by simp [rks,AV.lt,AV.ltL]) ⟨rfl,rfl⟩
         ·(try rw [h11]);replace h11:=zcl h11
          refine Q1 ?_
          refine Q4 ?_
          refine zv2 ?_
          refine ⟨(jed 2 vz o.fr v).1,σ.length+4,⟨?_,(Hu (op:=2) (.inr (.inl rfl)) XF o.fr hob.frn (by omega) hjb hst).1⟩,by simp,⟨rfl,rfl,rfl,rfl,rfl,trivial⟩,Qh 4 hcl ?_,?_,?_⟩
          ·rw [Qcc h1 hni hg0 h7 h9 h10 h11,if_neg h7]
          ·simp [ownLt,AO.cells,AV.ltL,AV.lt]
          ·simp [ltE,AV.lt,AV.ltL]
          ·exact Qo 4
       ·(try rw [h9]);replace h9:=zcl h9
        refine Q1 ?_
        refine ⟨v,σ.length+4,⟨?_,hjb⟩,by simp,⟨rfl,rfl,rfl,rfl,rfl,trivial⟩,Qh 4 hcl ?_,?_,?_⟩
        ·rw [Qcb h1 hni hg0 h7 h9,if_neg h7]
        ·simp [ownLt,AO.cells,AV.ltL,AV.lt]
        ·simp [ltE,AV.lt,AV.ltL]
        ·exact Qo 4
      ·skip
       obtain ⟨hj1,hj2⟩:=hj
       refine zu4 ?_
       refine zt rfl (zc rfl (GV 1 (Qz (if o.op=6 then o.pa else o.fr) v).1 _ (Q3 _) ⟨by decide,by decide⟩ o.pa _ u _ _ hob.pan (Q3 u) hj2)) ?_
       rw [Q3 (jed 1 (Qz (if o.op=6 then o.pa else o.fr) v).1 o.pa u).1]
       refine zv4 ?_
       refine zrt ?_
       rw [hj1,Q3]
       exact QH (Q9 (QI rfl rfl rfl) (Q9 (Z3 rfl) rfl)) hcl (by simp [rks,AV.lt,AV.ltL]) ⟨rfl,rfl⟩
end Lg
set_option maxRecDepth 20000
set_option maxHeartbeats 4000000
namespace Lg
open Go Go.Proofs Go.RowKit
variable [GLay]
theorem Q8M (l:List BL) (hl:∀ n∈l,n.length≤1000000) (hll:l.length≤2000000) (x:JT) (f:Bool) (t:JT) (nx:Int) (p:Nat) (σ:List AO) (hw:TW t) (hs:Q6 (tv t)≤10000) (hσ:σ[p]? =some (.box [.int .i64 nx])) (hn0:0≤nx) (hn1:nx≤500000000000):ACalls Tryz.prog 58 [.ptr p 0,.pp (tc t),.sl f 1 (Qy l),.pp (tc x)] σ (Ret (.tup [trA (ZR l x t nx),KT (tE (ZR l x t nx)).2.2]) (σ.set p (.box [.int .i64 (tE (ZR l x t nx)).2.1]))):=by
  show ACalls _ _ _ _ (Ret (.tup [trA (ZR l x t nx),KT (eC (ZR l x t nx).2.2)]) (σ.set p (.box [.int .i64 (ZR l x t nx).2.1])))
  rcases List.eq_nil_or_concat l with rfl|⟨l0,nm,rfl⟩
  · exact QaH x f t nx p σ hw hs hσ hn0 hn1
  · rw [List.concat_eq_append] at *
    have e:ZR (l0++[nm]) x t nx=twi (YB nm x) l0 t nx:=by
      unfold ZR;rw [if_neg (by simp),List.dropLast_concat,List.getLastD_concat]
    rw [e,←Q2Y]
    exact QaI x l0 nm (fun n hn=>hl n (List.mem_append_left _ hn)) (by rw [List.length_append] at hll;omega) (hl nm (by simp)) f t nx p σ hw hs hσ hn0 hn1
theorem QbD (l:List BL) (hl:∀ n∈l,n.length≤1000000) (hll:l.length≤2000000) (f:Bool) (t:JT) (nx:Int) (p:Nat) (σ:List AO) (hw:TW t) (hs:Q6 (tv t)≤10000) (hσ:σ[p]? =some (.box [.int .i64 nx])) (hn0:0≤nx) (hn1:nx≤500000000000):ACalls Tryz.prog 59 [.ptr p 0,.pp (tc t),.sl f 1 (Qy l)] σ (Ret (.tup [cA (Z8 l t nx),KT (Z8 l t nx).2.2]) (σ.set p (.box [.int .i64 (Z8 l t nx).2.1]))):=by
  rcases List.eq_nil_or_concat l with rfl|⟨l0,nm,rfl⟩
  · exact QaU f t nx p σ hw hs hσ hn0 hn1
  · rw [List.concat_eq_append] at *
    have e:Z8 (l0++[nm]) t nx=((twi (XJ nm) l0 t nx).1,(twi (XJ nm) l0 t nx).2.1,eC (twi (XJ nm) l0 t nx).2.2):=by
      unfold Z8;rw [if_neg (by simp),List.dropLast_concat,List.getLastD_concat]
    have e2:cA (Z8 (l0++[nm]) t nx)=trA (twi (XJ nm) l0 t nx):=by
      rw [e]
      cases hb:(twi (XJ nm) l0 t nx).2.2 with
      |true=>rw [Q4V hb,QbN rfl]
      |false=>rw [Q2x hb,cA_n (show ¬eC false=0 by decide)]
    rw [e2,e]
    show ACalls _ _ _ _ (Ret (.tup [trA (twi (XJ nm) l0 t nx),KT (eC (twi (XJ nm) l0 t nx).2.2)]) (σ.set p (.box [.int .i64 (twi (XJ nm) l0 t nx).2.1])))
    rw [← Q2Y]
    exact QaV l0 nm (fun n hn=>hl n (List.mem_append_left _ hn)) (by rw [List.length_append] at hll;omega) (hl nm (by simp)) f t nx p σ hw hs hσ hn0 hn1
theorem Qed (o:JOp) (os:List AV) (hos:XM o=os) (hob:OPB o) (t:JT) (nx:Int) (p:Nat) (σ:List AO) (hw:TW t) (hjb:jb (tv t)) (hs:Q6 (tv t)≤3000) (hσ:σ[p]? =some (.box [.int .i64 nx])) (hn0:0≤nx) (hn1:nx≤400000000000):ACalls Tryz.prog 62 [.ptr p 0,.pp (tc t),.agg os] σ (Ret (.tup [tmA t o nx,KT (tmv t o nx).2.2]) (σ.set p (.box [.int .i64 (tmv t o nx).2.1]))):=by
 have hp:p < σ.length:=(List.getElem?_eq_some_iff.1 hσ).1
 refine Qc Tryz.func62 rfl Tryz.ntmps62 (J5 Tryz.results62) (Nat.le_of_ble_eq_true rfl) (fun hcl hal=>?_)
 subst hos
 rw [QP o]
 have hpl:=Zd o.pa
 have hfl:=Zd o.fr
 have hb1:=hob.pa
 have hb2:=hob.fr
 have hst:=Jx t hw
 have hz10:Q6 (tv t)≤10000:=by omega
 refine Qn (QO hσ) ?_
 refine zw3 ?_
 refine QE (ι:=Unit) (fun b=>¬(o.fr.length < o.pa.length∧o.pa.take o.fr.length=o.fr)) (fun b=>⟨[],[(0,.ptr p 0),(1,.pp (tc t)),(5,.ptr (σ.length+0) 0)]⟩) (fun b=>σ.set p (.box [.int .i64 nx])++[.box [.int .i64 o.op,.sl false 1 (Qy o.pa),.sl false 1 (Qy o.fr),.int .i64 o.v.kind,.bool o.v.b,.bool o.v.n.neg,.str o.v.n.digits,.int .i64 o.v.n.exp,.str o.v.s,.sl false 8 (Q7 o.v.l),.sl false 9 (Q5 o.v.m)]]) ?_ (fun b hj=>?_)
 ·skip
  refine Q0 ?_
  refine Qb #[0,1,3,0,8,24,63,127,255,511,255,1279,3327,8191,255,16639,65535,131071] Tryz.mixed (by decide +kernel) (by decide +kernel) ?_
  refine zd1 ?_
  refine zp1 ?_
  refine zd2 ?_
  refine zp1 ?_
  refine zd3 ?_
  refine Q1u 18 rfl (fun h1=>?_) fun h1=>?_
  ·rw [h1];replace h1:=zcl h1
   refine zd1 ?_
   refine zp1 ?_
   refine zd1 ?_
   refine zp1 ?_
   refine zd1 ?_
   refine yAG rfl rfl rfl (fun _=>(by first|exact ZT _ _ rfl Tryz.underlying51 Tryz.sizeOf9 rfl (by first|exact ⟨_,rfl⟩|rfl) (by first|exact ⟨_,rfl⟩|rfl) (by omega) (by omega) (by omega)|exact QC _ _ rfl Tryz.underlying51 Tryz.sizeOf9 rfl GET (by first|exact ⟨_,rfl⟩|rfl) (by first|exact ⟨_,rfl⟩|rfl) (by omega) (by omega) (by omega))) ?_
   refine zd1 ?_
   refine zp1 ?_
   refine yPG rfl rfl rfl (zc rfl (Qbl _ _ (o.pa.take o.fr.length) o.fr _ _ _ (by rw [hfl];simp [Qy,List.map_take]) rfl (by rw [List.length_take];omega) (by omega))) (trivial) ?_
   refine zd1 ?_
   refine RP.nil rfl ?_
   refine Q2 rfl (fun h2=>?_) (fun h2=>?_)
   ·(try rw [h2]);replace h2:=zcl h2
    refine zw3 ?_
    refine zrt ?_
    obtain ⟨e1,e2⟩:=Qby (t:=t) (nx:=nx) ⟨by omega,h2⟩
    rw [e1,e2]
    exact Zt (x:=.box [.int .i64 nx]) rfl hcl ⟨trivial,trivial⟩ ⟨trivial,YL _ 9,trivial⟩ (Q8 rfl)
   ·(try rw [h2]);replace h2:=zcl h2
    refine Q1 ?_
    exact ⟨(),fun z=>h2 z.2,⟨rfl,rfl,rfl,rfl,trivial⟩,rfl⟩
  ·rw [h1];replace h1:=zcl h1
   refine Uh ?_
   refine RP.nil rfl ?_
   refine Qd rfl ?_
   refine Q1 ?_
   exact ⟨(),fun z=>by omega,⟨rfl,rfl,rfl,rfl,trivial⟩,rfl⟩
 ·skip
  have hni:=hj
  clear hj
  refine zu3 ?_
  refine zt rfl (zc rfl (Q8V o.fr _ t _ hw hz10 hb2 hob.frn)) ?_
  refine zv5 ?_
  refine Q0 ?_
  refine zu1 ?_
  refine zt rfl (UK rfl Tryz.underlying43 rfl) ?_
  refine zg1 ?_
  refine zsp 39 rfl (fun h3=>?_) fun h3=>?_
  ·rw [h3];replace h3:=zcl h3
   have hx:Xi o.fr t=none:=by cases e:Xi o.fr t with
    |none=>rfl
    |some x=>rw [e] at h3;simp at h3
   rw [hx]
   refine zv6 ?_
   refine Qj rfl ?_
   refine zw4 ?_
   refine zrt ?_
   obtain ⟨e1,e2⟩:=Qbz (nx:=nx) hni hx
   rw [e1,e2]
   exact Zt (x:=.box [.int .i64 nx]) rfl hcl ⟨trivial,trivial⟩ ⟨VU _ _,Yq _ false,trivial⟩ (Q8 rfl)
  ·rw [h3];replace h3:=zcl h3
   obtain ⟨x,hx⟩:∃ x,Xi o.fr t=some x:=by cases e:Xi o.fr t with
    |none=>rw [e] at h3;simp at h3
    |some x=>exact ⟨x,rfl⟩
   rw [hx,show tgA (some x)= .pp (tc x) from rfl]
   refine zg4 ?_
   refine ztG rfl rfl (zc rfl (Qbl _ _ o.pa o.fr _ _ _ rfl rfl (by omega) (by omega))) ?_
   refine zv1 ?_
   refine Q2 rfl (fun h4=>?_) (fun h4=>?_)
   ·(try rw [h4]);replace h4:=zcl h4
    refine zw4 ?_
    refine zrt ?_
    obtain ⟨e1,e2⟩:=QbA (nx:=nx) hni hx h4
    rw [e1,e2]
    exact Zt (x:=.box [.int .i64 nx]) rfl hcl ⟨trivial,trivial⟩ ⟨VU _ _,Yq _ true,trivial⟩ (Q8 rfl)
   ·(try rw [h4]);replace h4:=zcl h4
    refine Q1 ?_
    refine zu4 ?_
    refine zt rfl (zc rfl (Z6 hp (QbD o.fr hob.frn hb2 _ t nx p _ hw hz10 (Qt hp) hn0 (by omega)))) ?_
    refine zv5 ?_
    refine Q0 ?_
    refine zu1 ?_
    refine zt rfl (Q27 rfl Tryz.underlying43 rfl) ?_
    refine zon ?_
    refine Q2 rfl (fun h5=>?_) (fun h5=>?_)
    ·(try rw [h5]);replace h5:=zcl h5
     refine zw3 ?_
     refine zrt ?_
     obtain ⟨e1,e2⟩:=QbB (nx:=nx) hni hx h4 h5
     rw [e1,e2]
     exact Zt (x:=.box [.int .i64 (Z8 o.fr t nx).2.1]) rfl hcl ⟨trivial,trivial⟩ ⟨trivial,YL _ _,trivial⟩ (Q8 rfl)
    ·(try rw [h5]);replace h5:=zcl h5
     have h5:(Z8 o.fr t nx).2.2=0:=h5
     rw [QbN h5]
     obtain ⟨r1,r2⟩:=G7 o.fr nx hw
     obtain ⟨r3,hrw⟩:=r2 h5
     have hrz:Q6 (tv (Z8 o.fr t nx).1)≤10000:=by rw [r3];have:=V6 (op:=2) (.inr (.inl rfl)) vz o.fr hst;rw [XW] at this;omega
     have hcb:=U7 o.fr t nx
     refine Q1 ?_
     refine zu5 ?_
     refine zt rfl (zc rfl (Z6 hp (Q8M o.pa hob.pan hb1 x _ (Z8 o.fr t nx).1 (Z8 o.fr t nx).2.1 p _ hrw hrz (Qt hp) (by omega) (by omega)))) ?_
     refine zv4 ?_
     refine zrt ?_
     obtain ⟨e1,e2⟩:=QbC (nx:=nx) hni hx h4 h5
     rw [e1,e2]
     exact Zt (x:=.box [.int .i64 (tE (ZR o.pa x (Z8 o.fr t nx).1 (Z8 o.fr t nx).2.1)).2.1]) rfl hcl ⟨trivial,trivial⟩ ⟨Vn _ _,YL _ _,trivial⟩ (Q8 rfl)
end Lg
set_option maxRecDepth 20000
set_option maxHeartbeats 4000000
namespace Lg
open Go Go.Proofs Go.RowKit
variable [GLay]
theorem Qeb (o:JOp) (os:List AV) (hos:XM o=os) (hob:OPB o) (t:JT) (nx:Int) (p:Nat) (σ:List AO) (hw:TW t) (hjb:jb (tv t)) (hs:Q6 (tv t)≤3000) (hσ:σ[p]? =some (.box [.int .i64 nx])) (hn0:0≤nx) (hn1:nx≤400000000000):ACalls Tryz.prog 35 [.ptr p 0,.pp (tc t),.agg os] σ (Ret (.tup [tdA t o nx,KT (tdo t o nx).2.2]) (σ.set p (.box [.int .i64 (tdo t o nx).2.1]))):=by
 have hp:p < σ.length:=(List.getElem?_eq_some_iff.1 hσ).1
 refine Qc Tryz.func35 rfl Tryz.ntmps35 (J5 Tryz.results35) (Nat.le_of_ble_eq_true rfl) (fun hcl hal=>?_)
 subst hos
 rw [QP o]
 have hpl:=Zd o.pa
 have hfl:=Zd o.fr
 have hb1:=hob.pa
 have hb2:=hob.fr
 have hsz:=hob.sz
 have hvp:=Qi o.v
 have hlo:=hob.lo
 have hhi:=hob.hi
 have hz10:Q6 (tv t)≤10000:=by omega
 refine Qn (QO hσ) ?_
 refine zw4 ?_
 refine Q0 ?_
 refine zw2 ?_
 refine Qa ?_
 refine zw2 ?_
 refine Q2 rfl (fun h1=>?_) (fun h1=>?_)
 ·(try rw [h1]);replace h1:=zcl h1
  refine Q0 ?_
  refine Qb #[0,0,0,4,0,0,32,112,255,511,511,2047,4095] Tryz.mixed (by decide +kernel) (by decide +kernel) ?_
  refine zp1 ?_
  refine zd2 ?_
  refine zp2 ?_
  refine zd1 ?_
  refine zp1 ?_
  refine yE rfl rfl (zc rfl (Z6 hp (Q3R o.v nx p _ _ (Q3 o.v) hob.jb (Qt hp) hn0 (by omega)))) (⟨.inl rfl,⟨.inl rfl,⟨.inr zoa,⟨.inr zoa,trivial⟩⟩⟩⟩) (trivial) ?_
  refine yE rfl rfl (zc rfl (Z6 hp (Q8M o.pa hob.pan hb1 (tj o.v nx) _ t (nx+Q6 o.v) p _ hw hz10 (Qt hp) (by omega) (by omega)))) (⟨.inl rfl,⟨.inl rfl,⟨.inl rfl,⟨.inl rfl,trivial⟩⟩⟩⟩) (⟨rfl,trivial⟩) ?_
  refine zd4 ?_
  refine RP.nil rfl ?_
  refine zrt ?_
  obtain ⟨e1,e2⟩:=Qbq (t:=t) (nx:=nx) h1
  rw [e1,e2]
  exact Zt (x:=.box [.int .i64 (tE (ZR o.pa (tj o.v nx) t (nx+Q6 o.v))).2.1]) rfl hcl ⟨trivial,trivial⟩ ⟨Vn _ _,YL _ _,trivial⟩ (Q8 rfl)
 ·(try rw [h1]);replace h1:=zcl h1
  refine zw2 ?_
  refine Q2 rfl (fun h2=>?_) (fun h2=>?_)
  ·(try rw [h2]);replace h2:=zcl h2
   refine zu4 ?_
   refine zt rfl (zc rfl (Z6 hp (QbD o.pa hob.pan hb1 _ t nx p _ hw hz10 (Qt hp) hn0 (by omega)))) ?_
   refine zv4 ?_
   refine zrt ?_
   obtain ⟨e1,e2⟩:=Qbr (t:=t) (nx:=nx) h2
   rw [e1,e2]
   exact Zt (x:=.box [.int .i64 (Z8 o.pa t nx).2.1]) rfl hcl ⟨trivial,trivial⟩ ⟨Qdn _ _,YL _ _,trivial⟩ (Q8 rfl)
  ·(try rw [h2]);replace h2:=zcl h2
   refine zw2 ?_
   refine Q2 rfl (fun h3=>?_) (fun h3=>?_)
   ·(try rw [h3]);replace h3:=zcl h3
    refine Q0 ?_
    refine QT 5 1 rfl rfl ?_ (by decide)
    refine QT 3 0 rfl rfl ?_ (by decide)
    refine Q4 ?_
    refine zg5 ?_
    refine zt rfl (zc rfl (Z6 hp (H2 p 61 _ [.pp [.ptr p 0],.pp [.int .i64 o.op,.sl false 1 (Qy o.pa),.sl false 1 (Qy o.fr),.int .i64 o.v.kind,.bool o.v.b,.bool o.v.n.neg,.str o.v.n.digits,.int .i64 o.v.n.exp,.str o.v.s,.sl false 8 (Q7 o.v.l),.sl false 9 (Q5 o.v.m)]] Tryz.func61 rfl rfl (fun _ n=>(tj o.v n,n+Q6 o.v,true)) (Q6 o.v) (by omega) (by omega) (fun t nx=>by simp only;omega) (fun t nx τ hw hs hσ h0 h1=>Qd2 o _ (QP o) hob t nx p τ hw hs hσ h0 h1) o.pa _ t nx _ _ hob.pan hb1 hw hz10 rfl (Qt hp) hn0 (by omega)))) ?_
    refine zv4 ?_
    refine zrt ?_
    obtain ⟨e1,e2⟩:=Qbs (t:=t) (nx:=nx) h3
    rw [e1,e2]
    show Wj _ _ (Ret (.tup [trA (Kn o.pa o.v t nx),KT (eC (Kn o.pa o.v t nx).2.2)]) _) _ _ _
    rw [← Q2Y]
    exact Zt (x:=.box [.int .i64 (Kn o.pa o.v t nx).2.1]) rfl hcl ⟨trivial,trivial⟩ ⟨Vn _ _,Yq _ _,trivial⟩ (Q8 rfl)
   ·(try rw [h3]);replace h3:=zcl h3
    refine zw2 ?_
    refine Q2 rfl (fun h4=>?_) (fun h4=>?_)
    ·(try rw [h4]);replace h4:=zcl h4
     refine zu3 ?_
     refine zt rfl (zc rfl (Z6 hp (Qed o _ (QP o) hob t nx p _ hw hjb hs (Qt hp) hn0 hn1))) ?_
     refine zv4 ?_
     refine zrt ?_
     obtain ⟨e1,e2⟩:=Qbt (t:=t) (nx:=nx) h4
     rw [e1,e2]
     exact Zt (x:=.box [.int .i64 (tmv t o nx).2.1]) rfl hcl ⟨trivial,trivial⟩ ⟨Qd8 _,YL _ _,trivial⟩ (Q8 rfl)
    ·(try rw [h4]);replace h4:=zcl h4
     refine Q1 ?_
     refine zw3 ?_
     refine QE (ι:=Unit) (fun b=>True) (fun b=>⟨[],[(0,.ptr p 0),(1,.pp (tc t)),(3,.ptr (σ.length+0) 0),(5,.ptr (σ.length+1) 0),(8,.sl false 1 (Qy (if o.op=6 then o.pa else o.fr)))]⟩) (fun b=>σ.set p (.box [.int .i64 nx])++[.box [.ptr p 0],.box [.int .i64 o.op,.sl false 1 (Qy o.pa),.sl false 1 (Qy o.fr),.int .i64 o.v.kind,.bool o.v.b,.bool o.v.n.neg,.str o.v.n.digits,.int .i64 o.v.n.exp,.str o.v.s,.sl false 8 (Q7 o.v.l),.sl false 9 (Q5 o.v.m)]]) ?_ (fun b hj=>?_)
     ·skip
      refine zw3 ?_
      refine Q2 rfl (fun h5=>?_) (fun h5=>?_)
      ·(try rw [h5]);replace h5:=zcl h5
       refine Q4 ?_
       refine zv3 ?_
       rw [if_pos h5]
       exact ⟨(),trivial,⟨rfl,rfl,rfl,rfl,rfl,rfl,trivial⟩,rfl⟩
      ·(try rw [h5]);replace h5:=zcl h5
       refine Q1 ?_
       rw [if_neg h5]
       exact ⟨(),trivial,⟨rfl,rfl,rfl,rfl,rfl,rfl,trivial⟩,rfl⟩
     ·skip
      have hWn:∀ n∈(if o.op=6 then o.pa else o.fr),n.length≤1000000:=by split;exact hob.pan;exact hob.frn
      have hWl:(if o.op=6 then o.pa else o.fr).length≤2000000:=by split;exact hb1;exact hb2
      refine zu2 ?_
      refine zt rfl (zc rfl (Q8V (if o.op=6 then o.pa else o.fr) _ t _ hw hz10 hWl hWn)) ?_
      refine zv5 ?_
      refine Q0 ?_
      refine Qa ?_
      refine zu1 ?_
      refine zt rfl (UK rfl Tryz.underlying43 rfl) ?_
      refine zv1 ?_
      refine Q2 rfl (fun h6=>?_) (fun h6=>?_)
      ·(try rw [h6]);replace h6:=zcl h6
       have hx:Xi (if o.op=6 then o.pa else o.fr) t=none:=by cases e:Xi (if o.op=6 then o.pa else o.fr) t with
        |none=>rfl
        |some x=>rw [e] at h6;simp at h6
       rw [hx]
       refine zw3 ?_
       refine zrt ?_
       obtain ⟨e1,e2⟩:=Qbu (nx:=nx) h1 h2 h3 h4 hx
       rw [e1,e2]
       exact Zt (x:=.box [.int .i64 nx]) rfl hcl ⟨trivial,trivial⟩ ⟨trivial,Yq _ false,trivial⟩ (Q8 rfl)
      ·(try rw [h6]);replace h6:=zcl h6
       obtain ⟨x,hx⟩:∃ x,Xi (if o.op=6 then o.pa else o.fr) t=some x:=by cases e:Xi (if o.op=6 then o.pa else o.fr) t with
        |none=>rw [e] at h6;simp at h6
        |some x=>exact ⟨x,rfl⟩
       rw [hx,show tgA (some x)= .pp (tc x) from rfl]
       have hg:=Km (if o.op=6 then o.pa else o.fr) hw
       rw [hx] at hg;simp only at hg
       obtain ⟨hg1,hxw⟩:=hg
       have hxj:jb (tv x):=by have:=Vz (if o.op=6 then o.pa else o.fr) hjb;rw [hg1] at this;exact this
       have hxz:Q6 (tv x)≤3000:=by have:=K0 (if o.op=6 then o.pa else o.fr) hs (by decide);rw [hg1] at this;exact this
       refine zw4 ?_
       refine Q2 rfl (fun h7=>?_) (fun h7=>?_)
       ·(try rw [h7]);replace h7:=zcl h7
        refine zu5 ?_
        refine zt rfl (zc rfl (Z6 hp (Q8M o.pa hob.pan hb1 x _ t nx p _ hw hz10 (Qt hp) hn0 (by omega)))) ?_
        refine zv4 ?_
        refine zrt ?_
        obtain ⟨e1,e2⟩:=Qbv (nx:=nx) h1 h2 h3 h4 hx h7
        rw [e1,e2]
        exact Zt (x:=.box [.int .i64 (tE (ZR o.pa x t nx)).2.1]) rfl hcl ⟨trivial,trivial⟩ ⟨Vn _ _,YL _ _,trivial⟩ (Q8 rfl)
       ·(try rw [h7]);replace h7:=zcl h7
        refine Q0 ?_
        refine Qb #[0,1,0,4,15,31,63] Tryz.mixed (by decide +kernel) (by decide +kernel) ?_
        refine zd1 ?_
        refine yP rfl rfl (zc rfl (G8 3000 x _ hxz hxj hxw)) (trivial) ?_
        rw [Q3 (tv x)]
        refine zd1 ?_
        refine zp1 ?_
        refine yP rfl rfl (zc rfl (Q8e (tv x) o.v _ _ _ (Q3 _) (Q3 _) hxj hob.jb)) (trivial) ?_
        refine zd2 ?_
        refine RP.nil rfl ?_
        refine Q2 rfl (fun h8=>?_) (fun h8=>?_)
        ·(try rw [h8]);replace h8:=zcl h8
         have h8:¬tv x=o.v:=fun e=>by rw [UP e] at h8;simp at h8
         refine zw3 ?_
         refine zrt ?_
         obtain ⟨e1,e2⟩:=Qbw (nx:=nx) h1 h2 h3 h4 hx h7 h8
         rw [e1,e2]
         exact Zt (x:=.box [.int .i64 nx]) rfl hcl ⟨trivial,trivial⟩ ⟨trivial,YL _ 8,trivial⟩ (Q8 rfl)
        ·(try rw [h8]);replace h8:=zcl h8
         have h8:tv x=o.v:=(Yh _).1 (by simpa using h8)
         refine Q1 ?_
         refine zw3 ?_
         refine zrt ?_
         obtain ⟨e1,e2⟩:=Qbx (nx:=nx) h1 h2 h3 h4 hx h7 h8
         rw [e1,e2]
         exact Zt (x:=.box [.int .i64 nx]) rfl hcl ⟨trivial,trivial⟩ ⟨VU _ _,YL _ 0,trivial⟩ (Q8 rfl)
end Lg
set_option maxRecDepth 100000
namespace Lg
open Go Go.Proofs Go.RowKit Go.Extern.Stop Go.Stop Go.Extern
theorem Q0i (t:Addr) (w:World):(ReflectliteValue.unpack (.iface 98 (.pointer (some t)))).run Tryz.prog w
  = .ok (.agg #[.pointer (some ⟨9,98,none⟩),.pointer (some ⟨w.heap.size,0,none⟩),.int .u64 150]) (w.alloc (.cells #[.pointer (some t)] 98)):=by kernel_rfl
theorem Q5f (a:Addr) (w:World):(ReflectliteValue.methodAny (ReflectliteValue.valueError "reflectlite.Value.Type" 0) (fun t _ _ _=>ReflectliteType.toType t) #[.agg #[.pointer (some ⟨9,98,none⟩),.pointer (some a),.int .u64 150]]).run Tryz.prog w
  = .ok (.iface 201 (.agg #[.pointer (some ⟨9,98,none⟩)])) w:=by kernel_rfl
theorem Fm (h:Value) (w:World):(Go.method 488 201 (.agg #[h]) "Kind").run Tryz.prog w= .ok (320,h) w:=by kernel_rfl
theorem Q5e (w:World):((ReflectliteType.abiMethod fun t=>(fun a:Nat=>Value.int IntKind.u8 (a:Int)) <$> Rtype.kind t) #[.pointer (some ⟨9,98,none⟩)]).run Tryz.prog w= .ok (.int .u8 22) w:=by kernel_rfl
theorem Q5d (w:World):((ReflectliteType.abiMethod fun t=>(fun a:Nat=>Value.int IntKind.u8 (a:Int)) <$> Rtype.kind t) #[.pointer (some ⟨9,96,none⟩)]).run Tryz.prog w= .ok (.int .u8 2) w:=by kernel_rfl

theorem rlm (z:Sem Value) (f:TypeId→Addr→Nat→Nat→Sem Value) (v:Value):
  ReflectliteValue.method z f #[v]=(do match ←ReflectliteValue.parts v with|none=>z|some (t,a,fl)=>f t a fl (fl % 32)):=rfl
theorem H6 (a:Addr) (w:World):(ReflectliteValue.parts (.agg #[.pointer (some ⟨9,98,none⟩),.pointer (some a),.int .u64 150])).run Tryz.prog w= .ok (some (98,a,150)) w:=by kernel_rfl
theorem Q2S (a p:Addr) (W:World) (ha:W.cell? a=some (.pointer (some p))):
  (ReflectliteValue.method (ReflectliteValue.valueError "reflectlite.Value.IsNil" 0) ReflectliteValue.isNil #[.agg #[.pointer (some ⟨9,98,none⟩),.pointer (some a),.int .u64 150]]).run Tryz.prog W= .ok (.bool false) W:=by
 rw [rlm]
 simp only [Sem.run_bind,H6,Result.andThen]
 simp [ReflectliteValue.isNil,loadVar,isAgg,underlying,Tryz.underlying98,ha,Result.andThen]

theorem Fl (h:Value) (w:World):(Go.method 488 201 (.agg #[h]) "Elem").run Tryz.prog w= .ok (333,.agg #[h]) w:=by kernel_rfl
theorem VH (h:Value) (w:World):(Go.method 488 201 (.agg #[h]) "Implements").run Tryz.prog w= .ok (334,.agg #[h]) w:=by kernel_rfl
theorem KS (h:Value) (w:World):(Go.method 488 201 (.agg #[h]) "AssignableTo").run Tryz.prog w= .ok (331,.agg #[h]) w:=by kernel_rfl
theorem Q5c (w:World):(ReflectliteType.method ReflectliteType.elem #[.agg #[.pointer (some ⟨9,98,none⟩)]]).run Tryz.prog w= .ok (.iface 201 (.agg #[.pointer (some ⟨9,96,none⟩)])) w:=by kernel_rfl
theorem Gx (w:World):(ReflectliteType.relation "Implements" ReflectliteType.implements_ #[.agg #[.pointer (some ⟨9,96,none⟩)],.iface 201 (.agg #[.pointer (some ⟨9,43,none⟩)])]).run Tryz.prog w= .ok (.bool true) w:=by kernel_rfl
theorem Q1D (v:Value) (w:World):(ReflectliteType.typeOf #[.iface 96 v]).run Tryz.prog w= .ok (.iface 201 (.agg #[.pointer (some ⟨9,96,none⟩)])) w:=by kernel_rfl
theorem Gw (w:World):(ReflectliteType.relation "AssignableTo" ReflectliteType.assignableTo #[.agg #[.pointer (some ⟨9,96,none⟩)],.iface 201 (.agg #[.pointer (some ⟨9,96,none⟩)])]).run Tryz.prog w= .ok (.bool true) w:=by kernel_rfl
theorem Q0h (e:Int) (w:World):(ReflectliteValue.unpack (.iface 96 (.int .i64 e))).run Tryz.prog w
  = .ok (.agg #[.pointer (some ⟨9,96,none⟩),.pointer (some ⟨w.heap.size,0,none⟩),.int .u64 130]) (w.alloc (.cells #[.int .i64 e] 96)):=by kernel_rfl

theorem Q1B (w:World):(Rtype.elem? 98).run Tryz.prog w= .ok (some 96) w:=by kernel_rfl
theorem Q9i (p:Addr) (w:World):(ReflectliteValue.mk 96 p ReflectliteValue.flagAddr).run Tryz.prog w= .ok (.agg #[.pointer (some ⟨9,96,none⟩),.pointer (some p),.int .u64 386]) w:=by kernel_rfl
theorem Q2R (a p:Addr) (W:World) (ha:W.cell? a=some (.pointer (some p))):
  (ReflectliteValue.method (ReflectliteValue.valueError "reflectlite.Value.Elem" 0) ReflectliteValue.elem #[.agg #[.pointer (some ⟨9,98,none⟩),.pointer (some a),.int .u64 150]]).run Tryz.prog W
   = .ok (.agg #[.pointer (some ⟨9,96,none⟩),.pointer (some p),.int .u64 386]) W:=by
 rw [rlm]
 simp only [Sem.run_bind,H6,Result.andThen]
 simp [ReflectliteValue.elem,loadVar,isAgg,underlying,Tryz.underlying98,ha,Result.andThen,Q1B,Q9i]
theorem rls (v x:Value):ReflectliteValue.set #[v,x]=(do
  let (some (dst,a,fl),some (src,b,_)):=(← ReflectliteValue.parts v,←ReflectliteValue.parts x)
   |unsupported (.noEntry "extern/(internal/reflectlite.Value).Set.zeroValue")
  if fl / ReflectliteValue.flagAddr % 2 == 0 then unsupported (.noEntry "extern/(internal/reflectlite.Value).Set.unaddressable")
  let val ←loadVar src b
  if ←Rtype.directlyAssignable dst src then storeVar dst a val
  else if ←Rtype.implements dst src then
   if (← Rtype.kind src) == 20 then
    match val with
    | .nilIface=>unsupported (.noEntry "extern/reflectlite: a nil value of one interface type handed on as a value of another")
    |_=>storeVar dst a val
   else storeVar dst a (.iface src val)
  else panicString ("reflectlite.Set: value of type " ++(← Rtype.spelt src)++ " is not assignable to type " ++(← Rtype.spelt dst))
  pure (.tuple #[])):=rfl
theorem Q1C (a:Addr) (w:World):(ReflectliteValue.parts (.agg #[.pointer (some ⟨9,96,none⟩),.pointer (some a),.int .u64 386])).run Tryz.prog w= .ok (some (96,a,386)) w:=by kernel_rfl
theorem Q2T (a:Addr) (w:World):(ReflectliteValue.parts (.agg #[.pointer (some ⟨9,96,none⟩),.pointer (some a),.int .u64 130])).run Tryz.prog w= .ok (some (96,a,130)) w:=by kernel_rfl
theorem Q1A (w:World):(Rtype.directlyAssignable 96 96).run Tryz.prog w= .ok true w:=by kernel_rfl
theorem Q6w (ta b:Addr) (e:Int) (old:Value) (W:World) (hb:W.cell? b=some (.int .i64 e)) (ht:W.cell? ta=some old) (hf:W.frozen? ta=false):
  (ReflectliteValue.set #[.agg #[.pointer (some ⟨9,96,none⟩),.pointer (some ta),.int .u64 386],.agg #[.pointer (some ⟨9,96,none⟩),.pointer (some b),.int .u64 130]]).run Tryz.prog W
   = .ok (.tuple #[]) (W.setCell ta (.int .i64 e)):=by
 rw [rls]
 simp only [Sem.run_bind,Q1C,Q2T,Result.andThen]
 simp [ReflectliteValue.flagAddr,loadVar,isAgg,underlying,Tryz.underlying96,hb,Result.andThen,Q1A,storeVar,Value.cells,storeCells,Addr.add]
 rw [run_store Tryz.prog W ta _ _ (by rfl)]
 simp [ht,hf]

set_option maxHeartbeats 4000000 in
theorem QbH (e:Int) (t:Addr) (old:Value) (w:World) (hg:w.cell? ⟨0,0,none⟩=some (.iface 201 (.agg #[.pointer (some ⟨9,43,none⟩)]))) (ht0:w.cell? t=some old) (hf0:w.frozen? t=false):
  Calls Tryz.prog 37 #[.iface 96 (.int .i64 e),.iface 98 (.pointer (some t))] w fun ev w'=>ev= .returned (.bool true)∧w'=((((w.alloc (.cells #[.pointer (some t)] 98)).alloc (.cells #[.pointer (some ⟨9,98,none⟩),.pointer (some ⟨w.heap.size,0,none⟩),.int .u64 150] 148)).alloc (.cells #[.pointer (some ⟨9,98,none⟩),.pointer (some ⟨w.heap.size,0,none⟩),.int .u64 150] 148)).alloc (.cells #[.int .i64 e] 96)).setCell t (.int .i64 e):=by
 have h6:=@run_callFunc_extern Tryz.prog 65 _ (fun args=>ReflectliteValue.unpack (args.getD 0 (.tuple #[]))) Tryz.func65 (by kernel_rfl) (by kernel_rfl) (by kernel_rfl) (by kernel_rfl)
 have h7:=@run_callFunc_extern Tryz.prog 66 _ (ReflectliteValue.methodAny (ReflectliteValue.valueError "reflectlite.Value.Type" 0) (fun t _ _ _=>ReflectliteType.toType t)) Tryz.func66 (by kernel_rfl) (by kernel_rfl) (by kernel_rfl) (by kernel_rfl)
 have h8:=@run_callFunc_extern Tryz.prog 67 _ (ReflectliteValue.method (ReflectliteValue.valueError "reflectlite.Value.IsNil" 0) ReflectliteValue.isNil) Tryz.func67 (by kernel_rfl) (by kernel_rfl) (by kernel_rfl) (by kernel_rfl)
 have h27:=@run_callFunc_extern Tryz.prog 320 _ (ReflectliteType.abiMethod fun t=>do pure (.int .u8 (← Rtype.kind t))) Tryz.func320 (by kernel_rfl) (by kernel_rfl) (by kernel_rfl) (by kernel_rfl)
 have h37:=@run_callFunc_extern Tryz.prog 333 _ (ReflectliteType.method ReflectliteType.elem) Tryz.func333 (by kernel_rfl) (by kernel_rfl) (by kernel_rfl) (by kernel_rfl)
 have h38:=@run_callFunc_extern Tryz.prog 334 _ (ReflectliteType.relation "Implements" ReflectliteType.implements_) Tryz.func334 (by kernel_rfl) (by kernel_rfl) (by kernel_rfl) (by kernel_rfl)
 have h10:=@run_callFunc_extern Tryz.prog 113 _ ReflectliteType.typeOf Tryz.func113 (by kernel_rfl) (by kernel_rfl) (by kernel_rfl) (by kernel_rfl)
 have h35:=@run_callFunc_extern Tryz.prog 331 _ (ReflectliteType.relation "AssignableTo" ReflectliteType.assignableTo) Tryz.func331 (by kernel_rfl) (by kernel_rfl) (by kernel_rfl) (by kernel_rfl)
 have h11:=@run_callFunc_extern Tryz.prog 114 _ (ReflectliteValue.method (ReflectliteValue.valueError "reflectlite.Value.Elem" 0) ReflectliteValue.elem) Tryz.func114 (by kernel_rfl) (by kernel_rfl) (by kernel_rfl) (by kernel_rfl)
 have h12:=@run_callFunc_extern Tryz.prog 115 _ ReflectliteValue.set Tryz.func115 (by kernel_rfl) (by kernel_rfl) (by kernel_rfl) (by kernel_rfl)
 have tO:=Q1D
 have mA:=KS
 have a25:=Gw
 have v25:=Q0h
 have f6:=Q0i
 have f7:=Q5f
 have mK:=Fm
 have mE:=Fl
 have mI:=VH
 have k27:=Q5e
 have k25:=Q5d
 have e27:=Q5c
 have i25:=Gx
 have n8:=Q2S ⟨w.heap.size,0,none⟩ t ((w.alloc (.cells #[.pointer (some t)] 98)).alloc (.cells #[.pointer (some ⟨9,98,none⟩),.pointer (some ⟨w.heap.size,0,none⟩),.int .u64 150] 148)) (by simp)
 have hlt:0 < w.heap.size:=by
  rcases Nat.eq_zero_or_pos w.heap.size with h0|h
  ·simp [World.cell?,h0] at hg
  ·exact h
 have hg2:((w.alloc (.cells #[.pointer (some t)] 98)).alloc (.cells #[.pointer (some ⟨9,98,none⟩),.pointer (some ⟨w.heap.size,0,none⟩),.int .u64 150] 148)).cell? ⟨0,0,none⟩=some (.iface 201 (.agg #[.pointer (some ⟨9,43,none⟩)])):=by
  rw [World.cell?_alloc_lt _ _ ⟨0,0,none⟩ (by simp),World.cell?_alloc_lt _ _ ⟨0,0,none⟩ hlt];exact hg
 have htl:t.block < w.heap.size:=by
  rcases Nat.lt_or_ge t.block w.heap.size with h|h
  ·exact h
  ·simp [World.cell?,Array.getElem?_eq_none h] at ht0
 have el:=Q2R ⟨w.heap.size,0,none⟩ t (((w.alloc (.cells #[.pointer (some t)] 98)).alloc (.cells #[.pointer (some ⟨9,98,none⟩),.pointer (some ⟨w.heap.size,0,none⟩),.int .u64 150] 148)).alloc (.cells #[.pointer (some ⟨9,98,none⟩),.pointer (some ⟨w.heap.size,0,none⟩),.int .u64 150] 148)) (by rw [World.cell?_alloc_lt _ _ ⟨w.heap.size,0,none⟩ (by simp;omega)];simp)
 have st:=Q6w t ⟨w.heap.size+1+1+1,0,none⟩ e old ((((w.alloc (.cells #[.pointer (some t)] 98)).alloc (.cells #[.pointer (some ⟨9,98,none⟩),.pointer (some ⟨w.heap.size,0,none⟩),.int .u64 150] 148)).alloc (.cells #[.pointer (some ⟨9,98,none⟩),.pointer (some ⟨w.heap.size,0,none⟩),.int .u64 150] 148)).alloc (.cells #[.int .i64 e] 96))
  (by rw [World.cell?_alloc_at _ _ _ _ (by simp)];rfl)
  (by rw [World.cell?_alloc_lt _ _ t (by simp;omega),World.cell?_alloc_lt _ _ t (by simp;omega),World.cell?_alloc_lt _ _ t (by simp;omega),World.cell?_alloc_lt _ _ t htl];exact ht0)
  (by rw [World.frozen?_alloc_old _ _ t (by simp;omega),World.frozen?_alloc_old _ _ t (by simp;omega),World.frozen?_alloc_old _ _ t (by simp;omega),World.frozen?_alloc_old _ _ t (Nat.ne_of_lt htl)];exact hf0)
 go_enter Tryz.func37,Tryz.ntmps37
 go_wp2
 refine wp_loop_rounds 1 ?_
 rw [rounds_succ]
 go_wp2
 go_ret
 exact ⟨rfl,rfl⟩
end Lg
namespace Lg
open Go Go.Proofs Go.RowKit
class ET [GLay]:Prop where
 cell:∀ w:World,Q6u w→w.cell? ⟨0,0,none⟩=some (.iface 201 (.agg #[.pointer (some ⟨9,43,none⟩)]))
theorem ET.of [g:GLay] {W:World} (hc:W.cell? ⟨0,0,none⟩=some (.iface 201 (.agg #[.pointer (some ⟨9,43,none⟩)]))) (hg:∀ b,g.f b=W.heap[b]?):ET:=⟨fun w hl=>by
 cases h:W.heap[0]? with
 |none=>simp [World.cell?,h] at hc
 |some ob=>
  have h1:=hl 0 ob ((hg 0).trans h)
  unfold World.cell? at hc ⊢
  simp only at hc ⊢
  rw [h1];rw [h] at hc;exact hc⟩
theorem Q2r {w:World} {b:Nat} {old v:Value} {T:TypeId} (h:w.heap[b]? =some (.cells #[old] T (0,0))):w.setCell ⟨b,0,none⟩ v=w.setRow b #[v]:=by
 unfold World.setCell World.setRow
 congr 1
 apply Array.ext_getElem?
 intro i
 rw [Array.getElem?_modify,Array.getElem?_modify]
 by_cases e:b=i
 ·subst e;rw [if_pos rfl,if_pos rfl,h];rfl
 ·rw [if_neg e,if_neg e]
variable [GLay] [ET]
theorem as_c (k old:Int) (p:Nat) (σ:List AO) (hp:σ[p]? =some (.box [.int .i64 old])):ACalls Tryz.prog 37 [.iface 96 (.int .i64 k),.iface 98 (.ptr p 0)] σ (Ret (.bool true) (σ.set p (.box [.int .i64 k]))):=fun s cargs hs g hv=>by
 subst hs
 obtain ⟨c1,r1,rfl,h1,hv2⟩:=hv.inv_cons
 obtain ⟨c2,r2,rfl,h2,hv3⟩:=hv2.inv_cons
 obtain rfl:=hv3.inv_nil
 obtain ⟨x1,rfl,hx1⟩:=h1.inv_iface
 obtain ⟨x2,rfl,hx2⟩:=h2.inv_iface
 obtain rfl:=hx1.inv_int
 obtain rfl:=hx2.inv_ptr
 have hlive:s.live p:=by unfold CS.live;rw [hp];trivial
 obtain ⟨hnok,vs,T,hb,hpw⟩:=g.obj p _ hp
 obtain ⟨v0,vr,rfl,hv0,hvr⟩:=PW.inv_cons hpw
 obtain rfl:=PW.inv_nil hvr
 obtain rfl:=hv0.inv_int
 have hlt:=(g.live_lt hlive).1
 have hc:=ET.cell s.w g.laid
 have hcell:s.w.cell? ⟨(s.μ p).b,0,none⟩=some (.int .i64 old):=by unfold World.cell?;simp only;rw [hb];rfl
 have hfz:s.w.frozen? ⟨(s.μ p).b,0,none⟩=false:=by unfold World.frozen?;simp only;rw [hb];rfl
 refine (QbH k ⟨(s.μ p).b,0,none⟩ (.int .i64 old) s.w hc hcell hfz).mono fun ed w' hh=>?_
 obtain ⟨rfl,rfl⟩:=hh
 obtain ⟨w4,hw4⟩:∃ w4:World,w4=(((s.w.alloc (.cells #[.pointer (some ⟨(s.μ p).b,0,none⟩)] 98)).alloc (.cells #[.pointer (some ⟨9,98,none⟩),.pointer (some ⟨s.w.heap.size,0,none⟩),.int .u64 150] 148)).alloc (.cells #[.pointer (some ⟨9,98,none⟩),.pointer (some ⟨s.w.heap.size,0,none⟩),.int .u64 150] 148)).alloc (.cells #[.int .i64 k] 96):=⟨_,rfl⟩
 rw [← hw4]
 have hbel:Below s.w.heap.size s.w w4:=by
  rw [hw4]
  exact ((((Below.refl s.w.heap.size s.w).alloc (Nat.le_refl _) _).alloc (by simp) _).alloc (by simp;omega) _).alloc (by simp;omega) _
 obtain ⟨g1,x1⟩:=g.grow hbel
 have hb4:w4.heap[(s.μ p).b]? =some (.cells #[.int .i64 old] T (0,0)):=(hbel.block _ hlt).trans hb
 obtain ⟨s',e1,e2,g',x',_⟩:=g1.setObj (s:={ s with w:=w4}) (p:=p) (o:=.box [.int .i64 old]) (o':=.box [.int .i64 k]) hp (by unfold CS.live;rw [show ({ s with w:=w4}:CS).σ[p]? =_ from hp];trivial) (.box _ _ rfl) trivial (vs:=[.int .i64 k]) (PW.cons (.int _ _) PW.nil)
 refine ⟨s',?_,g',x1.trans x',_,.bool _,rfl,e1⟩
 rw [e2,Q2r hb4]
end Lg
set_option maxRecDepth 20000
set_option maxHeartbeats 4000000
namespace Lg
open Go Go.Proofs Go.RowKit
variable [GLay] [ET]
theorem Qdk (k old:Int) (j:Nat) (σ l:List AO) (hl:l[j]? =some (.box [.int .i64 old])):ACalls Tryz.prog 37 [.iface 96 (.int .i64 k),.iface 98 (.ptr (σ.length+j) 0)] (σ++l) (Ret (.bool true) (σ++l.set j (.box [.int .i64 k]))):=by
  have h:=as_c k old (σ.length+j) (σ++l) (by rw [Zz];exact hl)
  rw [KI] at h;exact h
theorem QbQ {k:Int} (h:¬k=0):KT k= .iface 96 (.int .i64 k):=by unfold KT;rw [if_neg h]
theorem Q7Q {P:Program} {σ:List AO} {e:Env} {o:Oper} {T T':TypeId} {x:Operand} {ms:Array (String×TypeId)} {k:Int} (ho:o.op= .binOp .eql T x (.const .nilIface) T') (hu:P.underlying T=some (.interface ms)) (hx:opO e x=some (KT k)):AOp P σ e o (.bool (decide (k=0))) σ:=by
  by_cases h:k=0
  · subst h;exact FS ho hu hx
  · rw [decide_eq_false h];unfold KT at hx;rw [if_neg h] at hx;exact Q4t ho hu hx
theorem QcZ (l:List JOp) (f:Bool) (hl:l.length≤1000) (hob:∀ o∈l,OPB o) (t:JT) (nx:Int) (σ:List AO) (hw:TW t) (hjb:jb (tv t)) (hs:Q6 (tv t)≤3000) (hn0:0≤nx) (hn1:nx+Xf l≤400000000000):ACalls Tryz.prog 14 [.pp (tc t),.sl f 11 (ZP l),.int .i64 nx] σ (Ret (.tup [tpA l t nx,.int .i64 (tpN l t nx),Q9t (jE (vz,(tap l t nx 0).2.2))]) σ):=by
 refine Qc Tryz.func14 rfl Tryz.ntmps14 (QdZ Tryz.results14) (Nat.le_of_ble_eq_true rfl) (fun hcl hal=>?_)
 have hol:=K9 l
 have hmn:=Vd l
 refine zw3 ?_
 refine zw4 ?_
 refine Q0 ?_
 refine zw3 ?_
 refine Qa ?_
 refine Qs (ι:=Nat×JT×Int) (fun z=>z.1≤l.length∧tap (l.drop z.1) z.2.1 z.2.2 z.1=tap l t nx 0∧TW z.2.1∧jb (tv z.2.1)∧Q6 (tv z.2.1)≤3000∧nx≤z.2.2∧z.2.2+Xf (l.drop z.1)≤nx+Xf l) (fun z=>⟨[],[(0,.pp (tc z.2.1)),(2,.int .i64 nx),(9,.ptr (σ.length+0) 0),(20,.sl f 11 (ZP l)),(21,.int .i64 ((ZP l).length:Int)),(22,.int .i64 (z.1:Int))]⟩) (fun z=>σ++[.box [.int .i64 z.2.2]]) (fun z=>l.length - z.1) ((0,t,nx)) (⟨Nat.zero_le _,by rw [List.drop_zero],hw,hjb,hs,Int.le_refl _,by rw [List.drop_zero];exact Int.le_refl _⟩) ?_ rfl (fun z hz=>?_)
 ·exact ⟨rfl,rfl,rfl,rfl,rfl,rfl,rfl,trivial⟩
 obtain ⟨i,u,n⟩:=z
 obtain ⟨hz1,hz2,hz3,hz4,hz5,hz6,hz7⟩:=hz
 simp only at hz1 hz2 hz3 hz4 hz5 hz6 hz7 ⊢
 refine zw1 ?_
 refine Q0 ?_
 refine Q2 rfl (fun h1=>?_) (fun h1=>?_)
 ·(try rw [h1]);replace h1:=zcl h1
  obtain ⟨o,hx⟩:∃ o,l[i]? =some o:=⟨_,List.getElem?_eq_getElem (show i < l.length by omega)⟩
  have hxr:=UN hx
  have hoo:=hob o (List.mem_of_getElem? hx)
  rw [Hf hx] at hz2
  have hmd:=Q3d hx
  have hmo:=GQ o
  have hmr:=Vd (l.drop (i+1))
  have hcb:=Q8S u o n
  have hrg:=QaN (nx:=n) hoo hz3 hz4 hz5
  obtain ⟨hdk1,hdk2⟩:=Q4S hoo n hz3
  have hpo:=Q10 hoo hz4 (Jx u hz3) hz5
  refine Q1 ?_
  refine Q0 ?_
  refine Qa ?_
  refine zu1 ?_
  refine zt rfl (Qe rfl Tryz.underlying31 Tryz.sizeOf53 rfl rfl (by omega) (hxr)) ?_
  rw [QP o]
  refine zv4 ?_
  refine Q0 ?_
  refine Qn (σ':=σ++[.box [.int .i64 n],.box [.int .i64 o.op,.sl false 1 (Qy o.pa),.sl false 1 (Qy o.fr),.int .i64 o.v.kind,.bool o.v.b,.bool o.v.n.neg,.str o.v.n.digits,.int .i64 o.v.n.exp,.str o.v.s,.sl false 8 (Q7 o.v.l),.sl false 9 (Q5 o.v.m)]]) rfl ?_
  refine Q4 ?_
  refine zg3 ?_
  refine zt rfl (zc rfl (Q3S 0 (Qeb o _ (QP o) hoo u n _ _ hz3 hz4 hz5 (Zz 0) (by omega) (by omega)))) ?_
  refine zv5 ?_
  refine QE (ι:=Unit) (fun b=>True) (fun b=>⟨[],[(0,.pp (tc u)),(2,.int .i64 nx),(9,.ptr (σ.length+0) 0),(10,.int .i64 (i:Int)),(12,tdA u o n),(13,KT (tck u o n)),(20,.sl f 11 (ZP l)),(21,.int .i64 ((ZP l).length:Int)),(22,.int .i64 (i:Int))]⟩) (fun b=>σ++[.box [.int .i64 (tdo u o n).2.1],.box [.int .i64 o.op,.sl false 1 (Qy o.pa),.sl false 1 (Qy o.fr),.int .i64 o.v.kind,.bool o.v.b,.bool o.v.n.neg,.str o.v.n.digits,.int .i64 o.v.n.exp,.str o.v.s,.sl false 8 (Q7 o.v.l),.sl false 9 (Q5 o.v.m)]]) ?_ (fun b hj=>?_)
  ·skip
   refine zu1 ?_
   refine zt rfl (Q7Q rfl Tryz.underlying43 rfl) ?_
   refine zon ?_
   refine Q2 rfl (fun h2=>?_) (fun h2=>?_)
   ·(try rw [h2]);replace h2:=zcl h2
    have h2:(tdo u o n).2.2=0:=h2
    obtain ⟨hd1,hd2⟩:=hdk2 h2
    rw [Qbp h2]
    have hds:Q6 (tv (tdo u o n).1)≤9000:=by rw [hd1];exact hpo.1.2.2
    refine zu1 ?_
    refine zt rfl (zc rfl (Q6j 9000 (tdo u o n).1 _ hds (by omega) hd2)) ?_
    refine zv5 ?_
    refine Qa ?_
    refine zw3 ?_
    refine Q2 rfl (fun h3=>?_) (fun h3=>?_)
    ·(try rw [h3]);replace h3:=zcl h3
     refine Q4 ?_
     refine zv2 ?_
     rw [Qe9 h2 h3]
     exact ⟨(),trivial,⟨rfl,rfl,rfl,rfl,rfl,rfl,rfl,rfl,rfl,rfl,trivial⟩,rfl⟩
    ·(try rw [h3]);replace h3:=zcl h3
     refine zw3 ?_
     refine Q2 rfl (fun h4=>?_) (fun h4=>?_)
     ·(try rw [h4]);replace h4:=zcl h4
      refine Q4 ?_
      refine zv2 ?_
      rw [Qe8 h2 (by omega) (by omega)]
      exact ⟨(),trivial,⟨rfl,rfl,rfl,rfl,rfl,rfl,rfl,rfl,rfl,rfl,trivial⟩,rfl⟩
     ·(try rw [h4]);replace h4:=zcl h4
      refine Q1 ?_
      rw [Qd1 h2 (by omega) (by omega)]
      refine ⟨(),trivial,⟨rfl,rfl,rfl,rfl,rfl,rfl,?_,rfl,rfl,rfl,trivial⟩,rfl⟩
      first|rfl|(rw [h2];rfl)
   ·(try rw [h2]);replace h2:=zcl h2
    refine Q1 ?_
    rw [Qea h2]
    exact ⟨(),trivial,⟨rfl,rfl,rfl,rfl,rfl,rfl,rfl,rfl,rfl,rfl,trivial⟩,rfl⟩
  ·skip
   refine Q0 ?_
   refine Q0 ?_
   refine Qn (σ':=σ++[.box [.int .i64 (tdo u o n).2.1],.box [.int .i64 o.op,.sl false 1 (Qy o.pa),.sl false 1 (Qy o.fr),.int .i64 o.v.kind,.bool o.v.b,.bool o.v.n.neg,.str o.v.n.digits,.int .i64 o.v.n.exp,.str o.v.s,.sl false 8 (Q7 o.v.l),.sl false 9 (Q5 o.v.m)]]) rfl ?_
   refine Q4 ?_
   refine zg1 ?_
   refine zt rfl (Q27 rfl Tryz.underlying43 rfl) ?_
   refine zon ?_
   refine Q2 rfl (fun h5=>?_) (fun h5=>?_)
   ·(try rw [h5]);replace h5:=zcl h5
    rw [QbQ h5]
    refine zw1 ?_
    refine zu2 ?_
    refine ztR rfl (zcR rfl (Qdk (tck u o n) 0 2 σ [.box [.int .i64 (tdo u o n).2.1],.box [.int .i64 o.op,.sl false 1 (Qy o.pa),.sl false 1 (Qy o.fr),.int .i64 o.v.kind,.bool o.v.b,.bool o.v.n.neg,.str o.v.n.digits,.int .i64 o.v.n.exp,.str o.v.s,.sl false 8 (Q7 o.v.l),.sl false 9 (Q5 o.v.m)],.box [.int .i64 0]] rfl)) (fun v14_2 s14_2 hr=>?_) (fun v14_2 s14_2 hr=>?_)
    rotate_left
    ·exact nomatch hr.1
    obtain ⟨hv,hh⟩:=hr
    cases hv
    subst hh
    refine zon ?_
    refine Q0 ?_
    refine Qb #[0,0,0,6,14,30,0,65,255] Tryz.mixed (by decide +kernel) (by decide +kernel) ?_
    refine zd2 ?_
    refine zp1 ?_
    refine zd1 ?_
    refine yE rfl rfl (zoa) (⟨.inl rfl,trivial⟩) (trivial) ?_
    refine zd4 ?_
    refine RP.nil rfl ?_
    refine Qn (σ':=σ++[.box [.int .i64 (tdo u o n).2.1],.box [.int .i64 o.op,.sl false 1 (Qy o.pa),.sl false 1 (Qy o.fr),.int .i64 o.v.kind,.bool o.v.b,.bool o.v.n.neg,.str o.v.n.digits,.int .i64 o.v.n.exp,.str o.v.s,.sl false 8 (Q7 o.v.l),.sl false 9 (Q5 o.v.m)],.box [.int .i64 (tck u o n)],.box [.int .i64 (i:Int),.int .i64 (tck u o n)]]) rfl ?_
    refine Q1w (cs:=[.int .i64 (i:Int),.int .i64 (tck u o n)]) 8 (σ.length+3) 0 99 rfl (by rw [Zz];rfl) ?_ (by decide)
    rw [KI]
    refine zrt ?_
    have hb0:=Q1j (r:=l.drop (i+1)) (i:=i) h5
    rw [hz2] at hb0
    have hc0:¬(tap l t nx 0).2.2.1=0:=by rw [hb0];exact h5
    obtain ⟨e1,e2⟩:=Q8Z hc0
    rw [e1,e2,hb0,Qdx h5]
    exact Uj rfl rfl rfl hcl (by simp [AV.lt,AV.ltL,Q9t]) (Q8 rfl)
   ·(try rw [h5]);replace h5:=zcl h5
    have h5:tck u o n=0:=h5
    obtain ⟨hk0,hk1,hk2⟩:=Qe7 h5
    obtain ⟨hd1,hd2⟩:=hdk2 hk0
    rw [Qbp hk0]
    refine Q1 ?_
    refine Q4 ?_
    refine zv2 ?_
    refine Q4 ?_
    refine zv2 ?_
    refine ⟨(i+1,(tdo u o n).1,(tdo u o n).2.1),σ.length+1,⟨by simp only;omega,?_,hd2,?_,hk1,by simp only;omega,by simp only;omega⟩,by simp only;omega,by simp,⟨rfl,rfl,rfl,rfl,rfl,rfl,rfl,trivial⟩,Qh 1 hcl ?_,?_,?_⟩
    ·simp only;rw [← hz2,Q3I h5]
    ·simp only;rw [hd1];exact hpo.1.1
    ·simp [ownLt,AO.cells,AV.ltL,AV.lt]
    ·simp [ltE,AV.lt,AV.ltL]
    ·exact Qo 1
 ·(try rw [h1]);replace h1:=zcl h1
  have hie:i=l.length:=by omega
  subst hie
  rw [List.drop_length] at hz2
  refine Qg ?_
  refine Q0 ?_
  refine Qb #[0,0,2,6,14,1,63,127] Tryz.mixed (by decide +kernel) (by decide +kernel) ?_
  refine zd4 ?_
  refine zp1 ?_
  refine zd3 ?_
  refine RP.nil rfl ?_
  refine zrt ?_
  have hb0:tap l t nx 0=(u,n,0,0):=by rw [← hz2,tap]
  obtain ⟨e1,e2⟩:=Q8Y (l:=l) (t:=t) (nx:=nx) (by rw [hb0])
  rw [e1,e2,hb0,Qdw rfl]
  exact Uj rfl rfl rfl hcl (by simp [AV.lt,AV.ltL,Q9t]) (Q8 rfl)
end Lg
set_option maxRecDepth 20000
set_option maxHeartbeats 4000000
namespace Lg
open Go Go.Proofs Go.RowKit
variable [GLay]
theorem QdY (l:List JOp) (f:Bool) (hl:l.length≤1000000) (hob:∀ o∈l,OPB o) (v:JV) (cs:List AV) (σ:List AO) (hc:Qf v=cs) (hjb:jb v) (hst:jst v) (hsz:Q6 v≤3000):ACalls Tryz.prog 15 [.agg cs,.sl f 11 (ZP l)] σ (Ret (.tup [.agg (Qf (jap l v 0).1),.int .i64 (jap l v 0).2.1,.int .i64 (jap l v 0).2.2]) σ):=by
 refine QS Tryz.func15 rfl Tryz.ntmps15 (by rw [Tryz.results15];exact (.ck Tryz.isAgg28 Tryz.sizeOf28 (.t (.t .nil)))) (Nat.le_of_ble_eq_true rfl) (fun hcl hal=>?_)
 subst hc
 rw [Q3 v]
 have hol:=K9 l
 refine zw4 ?_
 refine Q0 ?_
 refine zw1 ?_
 refine Qa ?_
 refine Qs (ι:=Nat×JV) (fun z=>z.1≤l.length∧jap (l.drop z.1) z.2 z.1=jap l v 0∧jb z.2∧jst z.2∧Q6 z.2≤3000) (fun z=>⟨[],[(1,.sl f 11 (ZP l)),(2,.ptr (σ.length+0) 0),(4,.ptr (σ.length+1) 0),(7,.int .i64 (z.1:Int))]⟩) (fun z=>σ++[.box [.int .i64 z.2.kind,.bool z.2.b,.bool z.2.n.neg,.str z.2.n.digits,.int .i64 z.2.n.exp,.str z.2.s,.sl false 8 (Q7 z.2.l),.sl false 9 (Q5 z.2.m)],.box [.int .i64 0,.bool false,.bool false,.str ⟨#[]⟩,.int .i64 0,.str ⟨#[]⟩,.nils,.nils]]) (fun z=>l.length - z.1) ((0,v)) (⟨Nat.zero_le _,by rw [List.drop_zero],hjb,hst,hsz⟩) ?_ rfl (fun z hz=>?_)
 ·exact ⟨rfl,rfl,rfl,rfl,rfl,trivial⟩
 obtain ⟨i,u⟩:=z
 obtain ⟨hz1,hz2,hz3,hz4,hz5⟩:=hz
 simp only at hz1 hz2 hz3 hz4 hz5 ⊢
 refine Q0 ?_
 refine zw4 ?_
 refine Q2 rfl (fun h1=>?_) (fun h1=>?_)
 ·(try rw [h1]);replace h1:=zcl h1
  obtain ⟨o,hx⟩:∃ o,l[i]? =some o:=⟨_,List.getElem?_eq_getElem (show i < l.length by omega)⟩
  have hxr:=UN hx
  have hoo:=hob o (List.mem_of_getElem? hx)
  rw [Q5l hx] at hz2
  have hpo:=Q10 hoo hz3 hz4 hz5
  have hpc:=GT (v:=u) hoo
  have hrg:=Q1O hoo hz3 hz4 hz5
  refine Q1 ?_
  refine Q0 ?_
  refine Qa ?_
  refine Q0 ?_
  refine Qb #[0,0,0,6,14,31,63,127,127,0,767,2047] Tryz.mixed (by decide +kernel) (by decide +kernel) ?_
  refine zp1 ?_
  refine zd2 ?_
  refine yA rfl rfl (fun _=>Qe rfl Tryz.underlying31 Tryz.sizeOf53 rfl rfl (by omega) (hxr)) ?_
  rw [QP o]
  refine zp1 ?_
  refine yP rfl rfl (zc rfl (Qbj o _ (QP o) hoo u _ _ (Q3 u) hz3 hz4 hz5)) (trivial) ?_
  rw [Q3 (jdo u o).1]
  refine zd3 ?_
  refine yE rfl rfl (zoa) (⟨.inr (by rw [← Q3 (jdo u o).1];exact zc rfl (Qbj o _ (QP o) hoo u _ _ (Q3 u) hz3 hz4 hz5)),⟨.inr zoa,⟨.inr zoa,trivial⟩⟩⟩) (trivial) ?_
  refine yEN rfl rfl rfl (zoa) (⟨.inl rfl,⟨.inl rfl,⟨.inl rfl,trivial⟩⟩⟩) (⟨rfl,trivial⟩) ?_
  refine zd1 ?_
  refine RP.nil rfl ?_
  refine QE (ι:=Unit) (fun b=>True) (fun b=>⟨[],[(1,.sl f 11 (ZP l)),(2,.ptr (σ.length+0) 0),(4,.ptr (σ.length+1) 0),(7,.int .i64 (i:Int)),(8,.ptr (σ.length+2) 0),(9,.int .i64 (Fq (jdo u o)))]⟩) (fun b=>σ++[.box [.int .i64 u.kind,.bool u.b,.bool u.n.neg,.str u.n.digits,.int .i64 u.n.exp,.str u.s,.sl false 8 (Q7 u.l),.sl false 9 (Q5 u.m)],.box [.int .i64 0,.bool false,.bool false,.str ⟨#[]⟩,.int .i64 0,.str ⟨#[]⟩,.nils,.nils],.box [.int .i64 (jdo u o).1.kind,.bool (jdo u o).1.b,.bool (jdo u o).1.n.neg,.str (jdo u o).1.n.digits,.int .i64 (jdo u o).1.n.exp,.str (jdo u o).1.s,.sl false 8 (Q7 (jdo u o).1.l),.sl false 9 (Q5 (jdo u o).1.m)]]) ?_ (fun b hj=>?_)
  ·skip
   refine Q0 ?_
   refine Qn (σ':=σ++[.box [.int .i64 u.kind,.bool u.b,.bool u.n.neg,.str u.n.digits,.int .i64 u.n.exp,.str u.s,.sl false 8 (Q7 u.l),.sl false 9 (Q5 u.m)],.box [.int .i64 0,.bool false,.bool false,.str ⟨#[]⟩,.int .i64 0,.str ⟨#[]⟩,.nils,.nils],.box [.int .i64 (jdo u o).1.kind,.bool (jdo u o).1.b,.bool (jdo u o).1.n.neg,.str (jdo u o).1.n.digits,.int .i64 (jdo u o).1.n.exp,.str (jdo u o).1.s,.sl false 8 (Q7 (jdo u o).1.l),.sl false 9 (Q5 (jdo u o).1.m)]]) rfl ?_
   refine Q4 ?_
   refine zg3 ?_
   refine zsp 27 rfl (fun h2=>?_) fun h2=>?_
   ·rw [h2];replace h2:=zcl h2
    have hjc:Q6 (jdo u o).1≤9000:=by rw [← (Q4z (v:=u) hoo.lo hoo.hi).2 h2];exact hpo.1.2.2
    refine zg1 ?_
    refine ztG rfl rfl (zc rfl (Q3 (jdo u o).1 ▸ FX 9000 (jdo u o).1 _ (by omega) (by decide))) ?_
    refine zv2 ?_
    refine Q2 rfl (fun h3=>?_) (fun h3=>?_)
    ·(try rw [h3]);replace h3:=zcl h3
     refine Q4 ?_
     refine zv1 ?_
     rw [Q35 h2 (by omega)]
     exact ⟨(),trivial,⟨rfl,rfl,rfl,rfl,rfl,rfl,rfl,trivial⟩,rfl⟩
    ·(try rw [h3]);replace h3:=zcl h3
     refine Q1 ?_
     rw [Q7h h2 (by omega)]
     refine ⟨(),trivial,⟨rfl,rfl,rfl,rfl,rfl,rfl,?_,trivial⟩,rfl⟩
     first|rfl|(rw [h2];rfl)
   ·rw [h2];replace h2:=zcl h2
    refine zv4 ?_
    refine Qd rfl ?_
    refine Q1 ?_
    rw [Q36 h2]
    exact ⟨(),trivial,⟨rfl,rfl,rfl,rfl,rfl,rfl,rfl,trivial⟩,rfl⟩
  ·skip
   refine QE (ι:=Unit) (fun b=>True) (fun b=>⟨[],[(1,.sl f 11 (ZP l)),(2,.ptr (σ.length+0) 0),(4,.ptr (σ.length+1) 0),(7,.int .i64 (i:Int)),(8,.ptr (σ.length+2) 0),(9,.int .i64 (Xm (jdo u o)))]⟩) (fun b=>σ++[.box [.int .i64 u.kind,.bool u.b,.bool u.n.neg,.str u.n.digits,.int .i64 u.n.exp,.str u.s,.sl false 8 (Q7 u.l),.sl false 9 (Q5 u.m)],.box [.int .i64 0,.bool false,.bool false,.str ⟨#[]⟩,.int .i64 0,.str ⟨#[]⟩,.nils,.nils],.box [.int .i64 (jdo u o).1.kind,.bool (jdo u o).1.b,.bool (jdo u o).1.n.neg,.str (jdo u o).1.n.digits,.int .i64 (jdo u o).1.n.exp,.str (jdo u o).1.s,.sl false 8 (Q7 (jdo u o).1.l),.sl false 9 (Q5 (jdo u o).1.m)]]) ?_ (fun b hj=>?_)
   ·skip
    refine zu3 ?_
    refine zsp 34 rfl (fun h4=>?_) fun h4=>?_
    ·rw [h4];replace h4:=zcl h4
     obtain ⟨h40,h41⟩:=Qca h4
     have hjc:Q6 (jdo u o).1≤9000:=by omega
     refine zg1 ?_
     refine ztG rfl rfl (zc rfl (Q3 (jdo u o).1 ▸ Q3C 9000 (jdo u o).1 _ (by omega) (by decide))) ?_
     refine zv2 ?_
     refine Q2 rfl (fun h5=>?_) (fun h5=>?_)
     ·(try rw [h5]);replace h5:=zcl h5
      refine Q4 ?_
      refine zv1 ?_
      rw [Q7f h40 h41 (by omega)]
      exact ⟨(),trivial,⟨rfl,rfl,rfl,rfl,rfl,rfl,rfl,trivial⟩,rfl⟩
     ·(try rw [h5]);replace h5:=zcl h5
      refine Q1 ?_
      rw [Q47 h40 h41 (by omega)]
      refine ⟨(),trivial,⟨rfl,rfl,rfl,rfl,rfl,rfl,?_,trivial⟩,rfl⟩
      first|rfl|(rw [h4];rfl)
    ·rw [h4];replace h4:=zcl h4
     refine zv4 ?_
     refine Qd rfl ?_
     refine Q1 ?_
     rw [Qc9 h4]
     exact ⟨(),trivial,⟨rfl,rfl,rfl,rfl,rfl,rfl,rfl,trivial⟩,rfl⟩
   ·skip
    refine Q0 ?_
    refine zw2 ?_
    refine Q2 rfl (fun h6=>?_) (fun h6=>?_)
    ·(try rw [h6]);replace h6:=zcl h6
     refine zw6 ?_
     refine QN 1 (bs':=[.int .i64 vz.kind,.bool vz.b,.bool vz.n.neg,.str vz.n.digits,.int .i64 vz.n.exp,.str vz.s,.sl false 8 (Q7 vz.l),.sl false 9 (Q5 vz.m)]) rfl ⟨AVle.refl _,AVle.refl _,AVle.refl _,AVle.refl _,AVle.refl _,AVle.refl _,XA,Xt,trivial⟩ ?_
     refine zrt ?_
     have hjb0:=WA (r:=l.drop (i+1)) (i:=i) rfl h6
     rw [hz2] at hjb0
     rw [hjb0,Q3]
     exact QH (Q9 (QI rfl rfl rfl) (Q9 (Z3 rfl) (Q9 (Z3 rfl) rfl))) hcl (by simp [rks,AV.lt,AV.ltL]) ⟨rfl,rfl⟩
    ·(try rw [h6]);replace h6:=zcl h6
     have hj0:Xm (jdo u o)=0:=h6
     refine Q1 ?_
     refine Q4 ?_
     refine zv2 ?_
     refine Q4 ?_
     refine zv3 ?_
     have hje:=hpc.2 hj0
     refine ⟨(i+1,(jdo u o).1),σ.length+2,⟨by simp only;omega,?_,?_,?_,?_⟩,by simp only;omega,by simp,⟨rfl,rfl,rfl,rfl,rfl,trivial⟩,Qh 2 hcl ?_,?_,?_⟩
     ·simp only;rw [← hz2,Ht hj0]
     ·simp only;rw [← hje];exact hpo.1.1
     ·simp only;rw [← hje];exact hpo.1.2.1
     ·simp only;exact (Q0z hj0).2.1
     ·simp [ownLt,AO.cells,AV.ltL,AV.lt]
     ·simp [ltE,AV.lt,AV.ltL]
     ·exact Qo 2
 ·(try rw [h1]);replace h1:=zcl h1
  have hie:i=l.length:=by omega
  subst hie
  rw [List.drop_length] at hz2
  refine Qg ?_
  refine zw4 ?_
  refine zrt ?_
  rw [← hz2,jap,Q3]
  exact QH (Q9 (QI rfl rfl rfl) (Q9 (Z3 rfl) (Q9 (Z3 rfl) rfl))) hcl (by simp [rks,AV.lt,AV.ltL]) ⟨rfl,rfl⟩
end Lg
set_option maxRecDepth 20000
set_option maxHeartbeats 4000000
namespace Lg
open Go Go.Proofs Go.RowKit
variable [GLay]

theorem VD (v:JV) (key:ByteArray) (cs:List AV) (σ:List AO) (hc:Qf v=cs) (hb:v.m.length≤1000000) (hs:(jfD v key).s.size≤1000000):ACalls Tryz.prog 99 [.agg cs,.str key] σ (Ret (.tup [.sl false 1 (Qy (Yz v key)),.bool (KV v key)]) σ):=by
 refine Qc Tryz.func99 rfl Tryz.ntmps99 (J5 Tryz.results99) (Nat.le_of_ble_eq_true rfl) (fun hcl hal=>?_)
 subst hc
 rw [Q3 v]
 refine zw3 ?_
 refine zu2 ?_
 refine zt rfl (zc rfl (YX v key _ _ (Q3 v) hb)) ?_
 rw [Q3 (jfD v key)]
 refine zv6 ?_
 refine Q0 ?_
 refine zu3 ?_
 refine zsp 18 rfl (fun h1=>?_) fun h1=>?_
 ·rw [h1];replace h1:=zcl h1
  refine zv4 ?_
  refine Qj rfl ?_
  refine zw2 ?_
  refine Zb 4 rfl (AVle.nils false 1) ?_ (by decide)
  refine zrt ?_
  have hp:=Q0D (v:=v) (key:=key) (.inl (by simpa using h1))
  rw [hp.1,hp.2]
  exact JN rfl rfl hcl (by simp [AV.lt,AV.ltL,AV.ltLL]) (Q8 rfl)
 ·rw [h1];replace h1:=zcl h1
  refine zv4 ?_
  refine Q2 rfl (fun h2=>?_) (fun h2=>?_)
  ·(try rw [h2]);replace h2:=zcl h2
   refine zw2 ?_
   refine Zb 4 rfl (AVle.nils false 1) ?_ (by decide)
   refine zrt ?_
   have hp:=Q0D (v:=v) (key:=key) (.inr h2)
   rw [hp.1,hp.2]
   exact JN rfl rfl hcl (by simp [AV.lt,AV.ltL,AV.ltLL]) (Q8 rfl)
  ·(try rw [h2]);replace h2:=zcl h2
   have hp:=Q4a (key:=key) (by simpa using h1) h2
   refine Q1 ?_
   refine zu2 ?_
   refine zt rfl (zc rfl (Qay (jfD v key).s _ hs)) ?_
   refine zv5 ?_
   refine zw5 ?_
   refine zrt ?_
   rw [hp.1,hp.2]
   exact JN rfl rfl hcl (by simp [AV.lt,AV.ltL]) (Q8 (by rw [QcG]))

end Lg
set_option maxRecDepth 20000
set_option maxHeartbeats 4000000
namespace Lg
open Go Go.Proofs Go.RowKit
variable [GLay]
theorem Qe1 (v:JV) (cs:List AV) (σ:List AO) (hc:Qf v=cs) (hjb:jb v):ACalls Tryz.prog 56 [.agg cs] σ (OpR v σ):=by
 have hmz:=((Zy v).1 hjb).2.2.2.1
 have hjp:=((Zy _).1 (W2 (key:=XG) hjb)).2.1
 have hjf:=((Zy _).1 (W2 (key:=YR) hjb)).2.1
 refine QS Tryz.func56 rfl Tryz.ntmps56 (by rw [Tryz.results56];exact (.ck Tryz.isAgg53 Tryz.sizeOf53 (.t .nil))) (Nat.le_of_ble_eq_true rfl) (fun hcl hal=>?_)
 subst hc
 rw [Q3 v]
 refine zw3 ?_
 refine zsr ?_
 refine zt rfl (Ql [[_],[_],[_],[_],[_],[_],[_]] rfl Tryz.underlying51 Tryz.sizeOf9 Tryz.zeroValue9 rfl (by decide) (by decide) rfl rfl rfl rfl rfl) ?_
 refine zv1 ?_
 refine zw1 ?_
 refine zu1 ?_
 refine zt rfl (zc rfl (YX v bOp _ _ (Q3 v) hmz)) ?_
 rw [Q3 (jfD v bOp)]
 refine zv6 ?_
 refine Q0 ?_
 refine zw1 ?_
 refine Qa ?_
 refine Qn (σ':=σ++[.box [.int .i64 v.kind,.bool v.b,.bool v.n.neg,.str v.n.digits,.int .i64 v.n.exp,.str v.s,.sl false 8 (Q7 v.l),.sl false 9 (Q5 v.m)],.box [.int .i64 0,.nils,.nils,.int .i64 0,.bool false,.bool false,.str ⟨#[]⟩,.int .i64 0,.str ⟨#[]⟩,.nils,.nils],.box [.int .i64 (opc v 1),.nils,.nils,.int .i64 0,.bool false,.bool false,.str ⟨#[]⟩,.int .i64 0,.str ⟨#[]⟩,.nils,.nils],.box [.int .i64 (jfD v bOp).kind,.bool (jfD v bOp).b,.bool (jfD v bOp).n.neg,.str (jfD v bOp).n.digits,.int .i64 (jfD v bOp).n.exp,.str (jfD v bOp).s,.sl false 8 (Q7 (jfD v bOp).l),.sl false 9 (Q5 (jfD v bOp).m)]]) (by rw [QdI];rfl) ?_
 refine Qs (ι:=Nat) (fun i=>1≤i∧i≤7) (fun i=>⟨[],[(1,.ptr (σ.length+0) 0),(2,.ptr (σ.length+1) 0),(4,.sl true 1 (opNm.map fun x=>[AV.str x])),(5,.ptr (σ.length+2) 0),(6,.ptr (σ.length+3) 0),(7,.bool (jfB v bOp)),(8,.int .i64 (i:Int))]⟩) (fun i=>σ++[.box [.int .i64 v.kind,.bool v.b,.bool v.n.neg,.str v.n.digits,.int .i64 v.n.exp,.str v.s,.sl false 8 (Q7 v.l),.sl false 9 (Q5 v.m)],.box [.int .i64 0,.nils,.nils,.int .i64 0,.bool false,.bool false,.str ⟨#[]⟩,.int .i64 0,.str ⟨#[]⟩,.nils,.nils],.box [.int .i64 (opc v i),.nils,.nils,.int .i64 0,.bool false,.bool false,.str ⟨#[]⟩,.int .i64 0,.str ⟨#[]⟩,.nils,.nils],.box [.int .i64 (jfD v bOp).kind,.bool (jfD v bOp).b,.bool (jfD v bOp).n.neg,.str (jfD v bOp).n.digits,.int .i64 (jfD v bOp).n.exp,.str (jfD v bOp).s,.sl false 8 (Q7 (jfD v bOp).l),.sl false 9 (Q5 (jfD v bOp).m)]]) (fun i=>7 - i) (1) (⟨Nat.le_refl _,by decide⟩) ?_ rfl (fun i hi=>?_)
 ·exact ⟨rfl,rfl,rfl,rfl,rfl,rfl,rfl,rfl,trivial⟩
 obtain ⟨hi1,hi7⟩:=hi
 refine Q0 ?_
 refine zu3 ?_
 refine zsp 23 rfl (fun h1=>?_) fun h1=>?_
 ·rw [h1];replace h1:=zcl h1
  obtain ⟨t,ht⟩:∃ t,opNm[i]? =some t:=⟨_,List.getElem?_eq_getElem (show i < opNm.length from (show i < 7 by omega))⟩
  have htr:(opNm.map fun x=>[AV.str x])[i]? =some [.str t]:=by rw [List.getElem?_map,ht];rfl
  refine zv2 ?_
  refine Q2 rfl (fun h2=>?_) (fun h2=>?_)
  ·(try rw [h2]);replace h2:=zcl h2
   refine Q1 ?_
   refine Q0 ?_
   refine Qa ?_
   refine Q0 ?_
   refine Qb #[0,1,3,7,15,31,15,15,207,463,1023,2047] Tryz.mixed (by decide +kernel) (by decide +kernel) ?_
   refine zd1 ?_
   refine zp1 ?_
   refine zd2 ?_
   refine Q1u 31 rfl (fun h3=>?_) fun h3=>?_
   ·rw [h3];replace h3:=zcl h3
    refine zd1 ?_
    refine zp1 ?_
    refine zd2 ?_
    refine yAG rfl rfl rfl (fun _=>Qe rfl Tryz.underlying51 Tryz.sizeOf9 rfl rfl (by omega) (htr)) ?_
    refine zp1 ?_
    refine zd2 ?_
    refine RP.nil rfl ?_
    refine Q2 rfl (fun h4=>?_) (fun h4=>?_)
    ·(try rw [h4]);replace h4:=zcl h4
     refine Q4 ?_
     refine zv3 ?_
     refine Q4 ?_
     refine zv3 ?_
     refine ⟨i+1,σ.length+4,by omega,by omega,by simp,⟨rfl,rfl,rfl,rfl,rfl,rfl,rfl,rfl,trivial⟩,Qh 4 hcl ?_,?_,?_⟩
     ·simp [ownLt,AO.cells,AV.ltL,AV.lt]
     ·simp [ltE,AV.lt,AV.ltL,K3];(try exact K3 _ _)
     ·rw [Qak h2 h3 ht hi1 h4];exact Qo 4
    ·(try rw [h4]);replace h4:=zcl h4
     refine Q1 ?_
     refine Q4 ?_
     refine zv3 ?_
     refine ⟨i+1,σ.length+4,by omega,by omega,by simp,⟨rfl,rfl,rfl,rfl,rfl,rfl,rfl,rfl,trivial⟩,Qh 4 hcl ?_,?_,?_⟩
     ·simp [ownLt,AO.cells,AV.ltL,AV.lt]
     ·simp [ltE,AV.lt,AV.ltL,K3];(try exact K3 _ _)
     ·rw [Q80 ht hi1 h4];exact Qo 4
   ·rw [h3];replace h3:=zcl h3
    refine zd8 ?_
    refine RP.nil rfl ?_
    refine Qd rfl ?_
    refine Q1 ?_
    refine Q4 ?_
    refine zv3 ?_
    refine ⟨i+1,σ.length+4,by omega,by omega,by simp,⟨rfl,rfl,rfl,rfl,rfl,rfl,rfl,rfl,trivial⟩,Qh 4 hcl ?_,?_,?_⟩
    ·simp [ownLt,AO.cells,AV.ltL,AV.lt]
    ·simp [ltE,AV.lt,AV.ltL,K3];(try exact K3 _ _)
    ·rw [QdJ h3];exact Qo 4
  ·(try rw [h2]);replace h2:=zcl h2
   refine Qg ?_
   refine Q0 ?_
   have hex:opc v i=Xn v:=by first|exact Q81 (by simpa using h2) i|(rw [show i=7 by omega];exact Qbh v)
   rw [hex]
   have hor:=W3 v
   refine Q4 ?_
   refine zg1 ?_
   refine zt rfl (zc rfl (VD v XG _ _ (Q3 v) hmz hjp)) ?_
   refine zv5 ?_
   refine Q0 ?_
   refine zu4 ?_
   refine zsp 50 rfl (fun h5=>?_) fun h5=>?_
   ·rw [h5];replace h5:=zcl h5
    refine zv3 ?_
    refine Qj rfl ?_
    refine zw3 ?_
    refine zrt ?_
    refine QH (Q9 (QI rfl rfl rfl) (Q9 (Z3 rfl) rfl)) hcl (by simp [rks,AV.lt,AV.ltL]) ⟨rfl,_,⟨0,[],[],vz⟩,false,rfl,oz,(fun h=>by cases h),fun _=>Q38 h5⟩
   ·rw [h5];replace h5:=zcl h5
    refine zv3 ?_
    refine Q2 rfl (fun h6=>?_) (fun h6=>?_)
    ·(try rw [h6]);replace h6:=zcl h6
     refine zw3 ?_
     refine zrt ?_
     refine QH (Q9 (QI rfl rfl rfl) (Q9 (Z3 rfl) rfl)) hcl (by simp [rks,AV.lt,AV.ltL]) ⟨rfl,_,⟨0,[],[],vz⟩,false,rfl,oz,(fun h=>by cases h),fun _=>Q39 (by simpa using h6)⟩
    ·(try rw [h6]);replace h6:=zcl h6
     refine Q1 ?_
     refine zw3 ?_
     refine Q0 ?_
     refine zu4 ?_
     refine zsp 60 rfl (fun h7=>?_) fun h7=>?_
     ·rw [h7];replace h7:=zcl h7
      refine zv4 ?_
      refine Qj rfl ?_
      refine zu1 ?_
      refine zt rfl (zc rfl (VD v YR _ _ (Q3 v) hmz hjf)) ?_
      refine zv5 ?_
      refine zw3 ?_
      refine zw4 ?_
      refine zrt ?_
      refine QH (Q9 (QI rfl rfl rfl) (Q9 (Z3 rfl) rfl)) hcl (by simp [rks,AV.lt,AV.ltL]) ⟨rfl,_,⟨Xn v,Yz v XG,Yz v YR,vz⟩,KV v YR,rfl,?_,?_,?_⟩
      ·rw [QP];exact ⟨AVle.refl _,AVle.refl _,AVle.refl _,AVle.refl _,AVle.refl _,AVle.refl _,AVle.refl _,AVle.refl _,AVle.refl _,XA,Xt,trivial⟩
      ·intro h;rw [Kv (by simpa using h6) (by omega),if_pos h]
      ·intro h;rw [Kv (by simpa using h6) (by omega),if_neg (by rw [h];decide)]
     ·rw [h7];replace h7:=zcl h7
      refine zv4 ?_
      refine Q2 rfl (fun h8=>?_) (fun h8=>?_)
      ·(try rw [h8]);replace h8:=zcl h8
       refine zu1 ?_
       refine zt rfl (zc rfl (VD v YR _ _ (Q3 v) hmz hjf)) ?_
       refine zv5 ?_
       refine zw3 ?_
       refine zw4 ?_
       refine zrt ?_
       refine QH (Q9 (QI rfl rfl rfl) (Q9 (Z3 rfl) rfl)) hcl (by simp [rks,AV.lt,AV.ltL]) ⟨rfl,_,⟨Xn v,Yz v XG,Yz v YR,vz⟩,KV v YR,rfl,?_,?_,?_⟩
       ·rw [QP];exact ⟨AVle.refl _,AVle.refl _,AVle.refl _,AVle.refl _,AVle.refl _,AVle.refl _,AVle.refl _,AVle.refl _,AVle.refl _,XA,Xt,trivial⟩
       ·intro h;rw [Kv (by simpa using h6) (by omega),if_pos h]
       ·intro h;rw [Kv (by simpa using h6) (by omega),if_neg (by rw [h];decide)]
      ·(try rw [h8]);replace h8:=zcl h8
       refine Q1 ?_
       refine Q0 ?_
       refine zw3 ?_
       refine Q2 rfl (fun h9=>?_) (fun h9=>?_)
       ·(try rw [h9]);replace h9:=zcl h9
        refine zu1 ?_
        refine zt rfl (zc rfl (YX v YZ _ _ (Q3 v) hmz)) ?_
        rw [Q3 (jfD v YZ)]
        refine zv6 ?_
        refine zw3 ?_
        refine zw4 ?_
        refine zrt ?_
        refine QH (Q9 (QI rfl rfl rfl) (Q9 (Z3 rfl) rfl)) hcl (by simp [rks,AV.lt,AV.ltL]) ⟨rfl,_,⟨Xn v,Yz v XG,[],jfD v YZ⟩,jfB v YZ,rfl,?_,?_,?_⟩
        ·rw [QP];exact ⟨AVle.refl _,AVle.refl _,AVle.nils false 1,AVle.refl _,AVle.refl _,AVle.refl _,AVle.refl _,AVle.refl _,AVle.refl _,AVle.refl _,AVle.refl _,trivial⟩
        ·intro h;rw [Hx (by simpa using h6) (by omega) (by omega) (by omega),if_pos h]
        ·intro h;rw [Hx (by simpa using h6) (by omega) (by omega) (by omega),if_neg (by rw [h];decide)]
       ·(try rw [h9]);replace h9:=zcl h9
        refine Q1 ?_
        refine zw3 ?_
        refine zrt ?_
        refine QH (Q9 (QI rfl rfl rfl) (Q9 (Z3 rfl) rfl)) hcl (by simp [rks,AV.lt,AV.ltL]) ⟨rfl,_,⟨Xn v,Yz v XG,[],vz⟩,true,rfl,?_,?_,?_⟩
        ·rw [QP];exact ⟨AVle.refl _,AVle.refl _,AVle.nils false 1,AVle.refl _,AVle.refl _,AVle.refl _,AVle.refl _,AVle.refl _,AVle.refl _,XA,Xt,trivial⟩
        ·intro _;rw [Q3a (by simpa using h6) (by omega),show Xn v=2 by omega]
        ·intro h;cases h
 ·rw [h1];replace h1:=zcl h1
  refine zv2 ?_
  refine Qd rfl ?_
  refine Qg ?_
  refine Q0 ?_
  have hex:opc v i=Xn v:=by first|exact Q81 (by simpa using h2) i|(rw [show i=7 by omega];exact Qbh v)
  rw [hex]
  have hor:=W3 v
  refine Q4 ?_
  refine zg1 ?_
  refine zt rfl (zc rfl (VD v XG _ _ (Q3 v) hmz hjp)) ?_
  refine zv5 ?_
  refine Q0 ?_
  refine zu4 ?_
  refine zsp 50 rfl (fun h10=>?_) fun h10=>?_
  ·rw [h10];replace h10:=zcl h10
   refine zv3 ?_
   refine Qj rfl ?_
   refine zw3 ?_
   refine zrt ?_
   refine QH (Q9 (QI rfl rfl rfl) (Q9 (Z3 rfl) rfl)) hcl (by simp [rks,AV.lt,AV.ltL]) ⟨rfl,_,⟨0,[],[],vz⟩,false,rfl,oz,(fun h=>by cases h),fun _=>Q38 h10⟩
  ·rw [h10];replace h10:=zcl h10
   refine zv3 ?_
   refine Q2 rfl (fun h11=>?_) (fun h11=>?_)
   ·(try rw [h11]);replace h11:=zcl h11
    refine zw3 ?_
    refine zrt ?_
    refine QH (Q9 (QI rfl rfl rfl) (Q9 (Z3 rfl) rfl)) hcl (by simp [rks,AV.lt,AV.ltL]) ⟨rfl,_,⟨0,[],[],vz⟩,false,rfl,oz,(fun h=>by cases h),fun _=>Q39 (by simpa using h11)⟩
   ·(try rw [h11]);replace h11:=zcl h11
    refine Q1 ?_
    refine zw3 ?_
    refine Q0 ?_
    refine zu4 ?_
    refine zsp 60 rfl (fun h12=>?_) fun h12=>?_
    ·rw [h12];replace h12:=zcl h12
     refine zv4 ?_
     refine Qj rfl ?_
     refine zu1 ?_
     refine zt rfl (zc rfl (VD v YR _ _ (Q3 v) hmz hjf)) ?_
     refine zv5 ?_
     refine zw3 ?_
     refine zw4 ?_
     refine zrt ?_
     refine QH (Q9 (QI rfl rfl rfl) (Q9 (Z3 rfl) rfl)) hcl (by simp [rks,AV.lt,AV.ltL]) ⟨rfl,_,⟨Xn v,Yz v XG,Yz v YR,vz⟩,KV v YR,rfl,?_,?_,?_⟩
     ·rw [QP];exact ⟨AVle.refl _,AVle.refl _,AVle.refl _,AVle.refl _,AVle.refl _,AVle.refl _,AVle.refl _,AVle.refl _,AVle.refl _,XA,Xt,trivial⟩
     ·intro h;rw [Kv (by simpa using h11) (by omega),if_pos h]
     ·intro h;rw [Kv (by simpa using h11) (by omega),if_neg (by rw [h];decide)]
    ·rw [h12];replace h12:=zcl h12
     refine zv4 ?_
     refine Q2 rfl (fun h13=>?_) (fun h13=>?_)
     ·(try rw [h13]);replace h13:=zcl h13
      refine zu1 ?_
      refine zt rfl (zc rfl (VD v YR _ _ (Q3 v) hmz hjf)) ?_
      refine zv5 ?_
      refine zw3 ?_
      refine zw4 ?_
      refine zrt ?_
      refine QH (Q9 (QI rfl rfl rfl) (Q9 (Z3 rfl) rfl)) hcl (by simp [rks,AV.lt,AV.ltL]) ⟨rfl,_,⟨Xn v,Yz v XG,Yz v YR,vz⟩,KV v YR,rfl,?_,?_,?_⟩
      ·rw [QP];exact ⟨AVle.refl _,AVle.refl _,AVle.refl _,AVle.refl _,AVle.refl _,AVle.refl _,AVle.refl _,AVle.refl _,AVle.refl _,XA,Xt,trivial⟩
      ·intro h;rw [Kv (by simpa using h11) (by omega),if_pos h]
      ·intro h;rw [Kv (by simpa using h11) (by omega),if_neg (by rw [h];decide)]
     ·(try rw [h13]);replace h13:=zcl h13
      refine Q1 ?_
      refine Q0 ?_
      refine zw3 ?_
      refine Q2 rfl (fun h14=>?_) (fun h14=>?_)
      ·(try rw [h14]);replace h14:=zcl h14
       refine zu1 ?_
       refine zt rfl (zc rfl (YX v YZ _ _ (Q3 v) hmz)) ?_
       rw [Q3 (jfD v YZ)]
       refine zv6 ?_
       refine zw3 ?_
       refine zw4 ?_
       refine zrt ?_
       refine QH (Q9 (QI rfl rfl rfl) (Q9 (Z3 rfl) rfl)) hcl (by simp [rks,AV.lt,AV.ltL]) ⟨rfl,_,⟨Xn v,Yz v XG,[],jfD v YZ⟩,jfB v YZ,rfl,?_,?_,?_⟩
       ·rw [QP];exact ⟨AVle.refl _,AVle.refl _,AVle.nils false 1,AVle.refl _,AVle.refl _,AVle.refl _,AVle.refl _,AVle.refl _,AVle.refl _,AVle.refl _,AVle.refl _,trivial⟩
       ·intro h;rw [Hx (by simpa using h11) (by omega) (by omega) (by omega),if_pos h]
       ·intro h;rw [Hx (by simpa using h11) (by omega) (by omega) (by omega),if_neg (by rw [h];decide)]
      ·(try rw [h14]);replace h14:=zcl h14
       refine Q1 ?_
       refine zw3 ?_
       refine zrt ?_
       refine QH (Q9 (QI rfl rfl rfl) (Q9 (Z3 rfl) rfl)) hcl (by simp [rks,AV.lt,AV.ltL]) ⟨rfl,_,⟨Xn v,Yz v XG,[],vz⟩,true,rfl,?_,?_,?_⟩
       ·rw [QP];exact ⟨AVle.refl _,AVle.refl _,AVle.nils false 1,AVle.refl _,AVle.refl _,AVle.refl _,AVle.refl _,AVle.refl _,AVle.refl _,XA,Xt,trivial⟩
       ·intro _;rw [Q3a (by simpa using h11) (by omega),show Xn v=2 by omega]
       ·intro h;cases h
end Lg
set_option maxRecDepth 20000
set_option maxHeartbeats 4000000
namespace Lg
open Go Go.Proofs Go.RowKit
variable [GLay]
theorem Qaz (v:JV) (cs:List AV) (σ:List AO) (hc:Qf v=cs) (hjb:jb v):ACalls Tryz.prog 33 [.agg cs] σ (Ret (.tup [.sl false 11 (ZP (jrd v)),.int .i64 (Uv v),.int .i64 (Q0E v)]) σ):=by
 obtain ⟨hb1,hb2,hb3,hb4,hb5,hb6⟩:=(Zy v).1 hjb
 refine Qc Tryz.func33 rfl Tryz.ntmps33 (QdZ Tryz.results33) (Nat.le_of_ble_eq_true rfl) (fun hcl hal=>?_)
 subst hc
 rw [Q3 v]
 have hll0:=QG v.l
 refine zw4 ?_
 refine Q0 ?_
 refine zw3 ?_
 refine Q2 rfl (fun h1=>?_) (fun h1=>?_)
 ·(try rw [h1]);replace h1:=zcl h1
  refine zw3 ?_
  refine Zb 2 rfl (AVle.nils false 11) ?_ (by decide)
  refine zrt ?_
  have hq:=Qcg h1
  rw [hq.1,hq.2.1,hq.2.2]
  exact Uj rfl rfl rfl hcl (by simp [AV.lt,AV.ltL,AV.ltLL]) (Q8 rfl)
 ·(try rw [h1]);replace h1:=zcl h1
  refine Q1 ?_
  refine Q0 ?_
  refine zw4 ?_
  refine Q2 rfl (fun h2=>?_) (fun h2=>?_)
  ·(try rw [h2]);replace h2:=zcl h2
   refine zw3 ?_
   refine Zb 2 rfl (AVle.nils false 11) ?_ (by decide)
   refine zrt ?_
   have hq:=Q7q h1 (by omega)
   rw [hq.1,hq.2.1,hq.2.2]
   exact Uj rfl rfl rfl hcl (by simp [AV.lt,AV.ltL,AV.ltLL]) (Q8 rfl)
  ·(try rw [h2]);replace h2:=zcl h2
   refine Q1 ?_
   refine zw1 ?_
   refine Q0 ?_
   refine Q0 ?_
   refine Q1x 5 11 1 rfl rfl ?_ (by decide)
   refine Q4 ?_
   refine zv1 ?_
   refine Qa ?_
   refine Qs (ι:=Nat×List JOp) (fun z=>z.1≤v.l.length∧YU (v.l.take z.1)=some z.2) (fun z=>⟨[],[(1,.ptr (σ.length+0) 0),(5,.arr (σ.length+1) z.1 11 0 z.1),(6,.int .i64 (z.1:Int))]⟩) (fun z=>σ++[.box [.int .i64 v.kind,.bool v.b,.bool v.n.neg,.str v.n.digits,.int .i64 v.n.exp,.str v.s,.sl false 8 (Q7 v.l),.sl false 9 (Q5 v.m)],.arr 11 z.1 (ZP z.2).flatten]) (fun z=>v.l.length - z.1) ((0,[])) (⟨Nat.zero_le _,rfl⟩) ?_ rfl (fun z hz=>?_)
   ·repeat' first|rfl|trivial|constructor
   obtain ⟨i,os⟩:=z
   obtain ⟨hi1,hos⟩:=hz
   simp only at hi1 hos ⊢
   have hol:os.length=i:=by have:=Q1S hos;rw [List.length_take] at this;omega
   have hll:=QG v.l
   refine Q0 ?_
   refine zw5 ?_
   refine Q2 rfl (fun h3=>?_) (fun h3=>?_)
   ·(try rw [h3]);replace h3:=zcl h3
    obtain ⟨x,hx⟩:∃ x,v.l[i]? =some x:=⟨_,List.getElem?_eq_getElem (show i < v.l.length by omega)⟩
    refine Q1 ?_
    refine Q0 ?_
    refine Qa ?_
    refine zu4 ?_
    rw [Q3 x]
    refine zg1 ?_
    refine ztR rfl (zcR rfl (Q3 x ▸ OpR.strong (Qe1 x _ _ rfl (Ys hb5 hx)))) (fun v9_5 s9_5 hr=>?_) (fun v9_5 s9_5 hr=>?_)
    rotate_left
    ·obtain ⟨_,_,_,hv,_⟩:=hr;cases hv
    obtain ⟨hh,xo,ob,hv,ht,hf⟩:=hr
    cases hv
    subst hh
    rw [QP xo]
    refine zv6 ?_
    refine Q0 ?_
    refine zw2 ?_
    refine Q2 rfl (fun h4=>?_) (fun h4=>?_)
    ·(try rw [h4]);replace h4:=zcl h4
     have hxn:=hf (by simpa using h4)
     refine zw4 ?_
     refine Zb 2 rfl (AVle.nils false 11) ?_ (by decide)
     refine zrt ?_
     have hq:=Q9G h1 (by omega) hos hx hxn
     rw [hq.1,hq.2.1,hq.2.2]
     exact Uj rfl rfl rfl hcl (by simp [AV.lt,AV.ltL,AV.ltLL]) (Q8 rfl)
    ·(try rw [h4]);replace h4:=zcl h4
     have hob:ob=true:=by simpa using h4
     subst hob
     refine Q1 ?_
     refine Q4 ?_
     refine zg2 ?_
     refine zt rfl (Ql [[_,_,_,_,_,_,_,_,_,_,_]] rfl Tryz.underlying31 Tryz.sizeOf53 Tryz.zeroValue53 rfl (by decide) (by decide) rfl rfl rfl rfl rfl) ?_
     refine zt rfl (Qv rfl 1 (sz:=11) (m:=1) (len:=i) (cs:=_) rfl (.inr ⟨_,rfl⟩) Tryz.underlying31 Tryz.underlying31 Tryz.type53 rfl rfl rfl (by decide) rfl rfl (by rw [Q5L,hol]) rfl rfl rfl (by show (i+1) * 168≤_;omega) (by omega) rfl) ?_
     refine zv1 ?_
     refine Q4 ?_
     refine zv3 ?_
     have hos2:YU (v.l.take (i+1))=some (os++[xo]):=by rw [QV hx,Q5y hos,ht rfl];rfl
     refine ⟨(i+1,os++[xo]),σ.length+2,⟨by simp only;omega,hos2⟩,by simp only;omega,by simp,⟨rfl,rfl,rfl,rfl,trivial⟩,Qh 2 hcl ?_,?_,?_⟩
     ·simp [ownLt,AO.cells,AV.ltL,AV.lt,Z0]
     ·simp [ltE,AV.lt,AV.ltL]
     ·refine (Qo 2).trans ?_
      rw [Q3x,QP xo];rfl
   ·(try rw [h3]);replace h3:=zcl h3
    refine Qg ?_
    refine Q0 ?_
    have hie:i=v.l.length:=by omega
    subst hie
    rw [List.take_length] at hos
    refine Wh 5 1 v.l.length 11 v.l.length (ZP os) rfl rfl (Q2b _) (by rw [K9];exact hol) (by decide) ?_ (by decide)
    refine Q4 ?_
    refine zv4 ?_
    refine zrt ?_
    have hq:=Qch h1 (by omega) hos
    rw [hq.1,hq.2.1,hq.2.2]
    exact Uj rfl rfl rfl hcl (by simp [AV.lt,AV.ltL]) (Q8 rfl)
end Lg
set_option maxRecDepth 20000
set_option maxHeartbeats 4000000
namespace Lg
open Go Go.Proofs Go.RowKit
variable [GLay]
end Lg
set_option maxRecDepth 20000
set_option maxHeartbeats 4000000
namespace Lg
open Go Go.Proofs Go.RowKit
variable [GLay]
theorem QcV (σ:List AO):ACalls Tryz.prog 16 [.nili] σ (Ret (.tup [.int .i64 0,.int .i64 0]) σ):=by
 refine Qc Tryz.func16 rfl Tryz.ntmps16 (J5 Tryz.results16) (Nat.le_of_ble_eq_true rfl) (fun hcl hal=>?_)
 refine zw2 ?_
 refine Q0 ?_
 refine zw2 ?_
 refine Q2 rfl (fun h1=>?_) (fun h1=>?_)
 ·(try rw [h1]);replace h1:=zcl h1
  refine zw2 ?_
  refine zrt ?_
  exact QM rfl rfl hcl (by simp [AV.lt,AV.ltL]) (Q8 rfl)
 ·(try rw [h1]);replace h1:=zcl h1
  cases h1

theorem QcW (at_ code:Int) (σ:List AO):ACalls Tryz.prog 16 [.iface 99 (.pp [.int .i64 at_,.int .i64 code])] σ (Ret (.tup [.int .i64 code,.int .i64 at_]) σ):=by
 refine Qc Tryz.func16 rfl Tryz.ntmps16 (J5 Tryz.results16) (Nat.le_of_ble_eq_true rfl) (fun hcl hal=>?_)
 refine zw2 ?_
 refine Q0 ?_
 refine zw2 ?_
 refine Q2 rfl (fun h1=>?_) (fun h1=>?_)
 ·(try rw [h1]);replace h1:=zcl h1
  cases h1
 ·(try rw [h1]);replace h1:=zcl h1
  refine Q1 ?_
  refine zu1 ?_
  refine zt rfl (Q3n rfl Tryz.underlying99 rfl) ?_
  refine zv5 ?_
  refine Q0 ?_
  refine zw5 ?_
  refine Qj rfl ?_
  refine Q0 ?_
  refine Qb #[0,1,3,7,0,16,48,112,15,511] Tryz.mixed (by decide +kernel) (by decide +kernel) ?_
  refine zd3 ?_
  refine zp1 ?_
  refine zd3 ?_
  refine zp1 ?_
  refine zd2 ?_
  refine RP.nil rfl ?_
  refine zrt ?_
  exact QM rfl rfl hcl (by simp [AV.lt,AV.ltL]) (Q8 rfl)
end Lg
namespace Lg
open Go
variable [GLay]
theorem Q9X {o:JOp} (h:OPB o):Jy o≤4010000:=by
 have h1:=h.pa;have h2:=h.fr;have h3:=h.sz
 unfold Jy;split<;>omega
theorem HA:∀ {l:List JOp},(∀ o∈l,OPB o)→Xf l≤l.length * 4010000
 |[],_=>by simp [Xf]
 |o :: r,h=>by
  have h1:=Q9X (h o (List.mem_cons_self ..))
  have h2:=HA (fun p hp=>h p (List.mem_cons_of_mem _ hp):∀ p∈r,OPB p)
  rw [Xf,List.length_cons];omega
theorem Q3e {l:List JOp} {i:Nat} {o:JOp} (h:l[i]? =some o):Xf (l.take (i+1))=Xf (l.take i)+Jy o:=by
 rw [QV h]
 generalize l.take i=a
 induction a with
 |nil=>simp [Xf]
 |cons b r ih=>rw [List.cons_append,Xf,ih,Xf];omega
theorem Ft (l:List JOp) (i:Nat):0≤Xf (l.take i):=Vd _
theorem Fs (l:List JOp):∀ i,Xf (l.take i)≤Xf l:=by
 induction l with
 |nil=>intro i;simp
 |cons o r ih=>
  intro i
  cases i with
  |zero=>exact Vd _
  |succ i=>rw [List.take_succ_cons,Xf,Xf];have:=ih i;omega
theorem Q46:∀ (l:List JOp) (v:JV) (i:Nat),QZ v≤32→(jap l v i).2.1=0→QZ (jap l v i).1≤32
 |[],v,i,h,_=>h
 |o :: r,v,i,h,hc=>by
  by_cases h0:Xm (jdo v o)=0
  ·rw [Ht h0] at hc ⊢;exact Q46 r _ _ (Q0z h0).2.2 hc
  ·rw [WA rfl h0] at hc;exact absurd hc h0
theorem SG.nil (G:Int→JV) (N:Int):SG G N []:=⟨(fun q hq=>nomatch hq),by simp⟩
theorem Qdp (v:JV):∃ G,Con G (Q6 v) (tj v 0):=by
 obtain ⟨G,_,h⟩:=Ha v 0 (fun _=>vz) (by decide)
 rw [Int.zero_add] at h;exact ⟨G,h⟩
structure RI (u:JT) (nx:Int) (S:LS) (r:Nat):Prop where
 w:TW u
 jb:Lg.jb (tv u)
 sz:Q6 (tv u)≤3000
 dp:QZ (tv u)≤32
 n0:0≤nx
 nb:nx≤3000+r * 401000000
 con:∃ G,Con G nx u∧SG G nx S.1
 len:(S.1.length:Int)≤3000 * (r+1)
 last:S.2.2 < nx
 l0:0≤S.2.2
theorem RI.start {v:JV} (hj:Lg.jb v) (hs:jst v) (hz:Q6 v≤3000) (hd:QZ v≤32) (frm:Int) (p q:Nat) (σ:List AO) (hp:σ[p]? =some (tbx q frm ([],0,0))) (hq:σ[q]? =some (.map (Za []))):
  (∃ G,TP G (Q6 v) (tj v 0) 0 frm ([],0,0) p q σ)∧RI (tj v 0) (Q6 v) (lk frm (tj v 0) ([],0,0)) 0:=by
 obtain ⟨G,hc⟩:=Qdp v
 have hv:tv (tj v 0)=v:=Q0b v 0 hs
 have hp1:=Qi v
 have hT:TP G (Q6 v) (tj v 0) 0 frm ([],0,0) p q σ:=⟨hp,hq,Q2w v 0 hs,by rw [hv];exact hj,hc,SG.nil _ _,by rw [hv];simp;omega,Int.le_refl _,by rw [hv];omega,by omega,Int.le_refl _,by rw [hv];simp;omega⟩
 have hA:=hT.all
 rw [hv] at hA
 refine ⟨⟨G,hT⟩,⟨hT.w,hT.jb,by rw [hv];exact hz,by rw [hv];exact hd,by omega,by omega,⟨G,hc,hA.sg⟩,?_,hA.last (show (0:Int) < Q6 v by omega),?_⟩⟩
 ·have:=hA.len;simp at this;omega
 ·have:=hA.lge;exact this
theorem RI.next {u:JT} {nx:Int} {S:LS} {r:Nat} (h:RI u nx S r) (hr:r < 2) {L:List JOp} (hl:L.length≤100) (hob:∀ o∈L,OPB o) (hc:(jap L (tv u) 0).2.1=0) (p q:Nat) (τ:List AO) (hp:τ[p]? =some (tbx q nx (S.1,0,S.2.2))) (hq:τ[q]? =some (.map (Za S.1))):
  (tap L u nx 0).2.2.1=0∧tv (tap L u nx 0).1=(jap L (tv u) 0).1∧(∃ G,TP G (tap L u nx 0).2.1 (tap L u nx 0).1 0 nx (S.1,0,S.2.2) p q τ)∧RI (tap L u nx 0).1 (tap L u nx 0).2.1 (lk nx (tap L u nx 0).1 (S.1,0,S.2.2)) (r+1)∧
  nx≤(tap L u nx 0).2.1∧(lk nx (tap L u nx 0).1 (S.1,0,S.2.2)).2.1≤Xf L∧(Z9 (lk nx (tap L u nx 0).1 (S.1,0,S.2.2)).1 (tap L u nx 0).1.id).map (·.2)=some (.agg (Qf (tv (tap L u nx 0).1))):=by
 obtain ⟨G,hG,hS⟩:=h.con
 obtain ⟨j1,j2⟩:=Q1k L nx 0 hob h.w
 have hc0:(tap L u nx 0).2.2.1=0:=by rw [j1];exact hc
 obtain ⟨hv,hw⟩:=j2 hc0
 obtain ⟨⟨G2,a2,c2⟩,n1,n2⟩:=Q8O L 0 hob h.w h.n0 hG hc0
 obtain ⟨w1,w2,w3⟩:=Q34 L (tv u) 0 hob h.jb (Jx u h.w) h.sz
 have hd:=Q46 L (tv u) 0 h.dp hc
 have hm:=HA hob
 have hnb:=h.nb
 have hlen:=h.len
 have h0:=h.n0
 have hS2:SG G2 (tap L u nx 0).2.1 S.1:=hS.mono n1 a2
 have hmb:Xf L≤401000000:=by omega
 have hT:TP G2 (tap L u nx 0).2.1 (tap L u nx 0).1 0 nx (S.1,0,S.2.2) p q τ:=⟨hp,hq,hw,by rw [hv];exact w1,c2,hS2,by rw [hv];simp only;omega,Int.le_refl _,by rw [hv];omega,by omega,Int.le_refl _,by rw [hv];simp only;omega⟩
 have hA:=hT.all
 have hk:=(Q1U (frm:=nx) _ (S.1,0,S.2.2) hw c2 hS2).2
 refine ⟨hc0,hv,⟨G2,hT⟩,⟨hw,hT.jb,by rw [hv];exact w3,by rw [hv];exact hd,by omega,by omega,⟨G2,c2,hA.sg⟩,?_,hA.last (by have:=h.last;show S.2.2 < _;omega),?_⟩,n1,?_,hk⟩
 ·have:=hA.len;rw [hv] at this;simp only at this;omega
 ·have:=hA.lge;have:=h.l0;simp only at *;omega
 ·have h1:=hA.new
  have h2:=Q9m hA.sg n1
  have h3:=Qdo hS (Int.le_refl nx)
  simp only at h1
  rw [h3] at h1
  omega
end Lg
namespace Lg
open Go
variable [GLay]
end Lg
set_option maxRecDepth 20000
set_option maxHeartbeats 4000000
namespace Lg
open Go Go.Proofs Go.RowKit
variable [GLay] [ET]
theorem Q84 (s:ByteArray) (σ:List AO):ACalls Tryz.prog 11 [.str s] σ (Ret (.tup [.sl false 11 (ZP (opQ s).1),.int .i64 (opQ s).2]) σ):=by
 refine Qc Tryz.func11 rfl Tryz.ntmps11 (J5 Tryz.results11) (Nat.le_of_ble_eq_true rfl) (fun hcl hal=>?_)
 have hva:=US s
 refine zw2 ?_
 refine zu1 ?_
 refine zt rfl (zc rfl (Q1r s _)) ?_
 rw [Q3 (QW s).1]
 refine zv6 ?_
 refine Q0 ?_
 refine zw2 ?_
 refine Q2 rfl (fun h1=>?_) (fun h1=>?_)
 ·(try rw [h1]);replace h1:=zcl h1
  refine zw2 ?_
  refine Zb 2 rfl (AVle.nils false 11) ?_ (by decide)
  refine zrt ?_
  rw [Qbe h1]
  exact JN rfl rfl hcl (by simp [AV.lt,AV.ltL,AV.ltLL]) ⟨rfl,rfl⟩
 ·(try rw [h1]);replace h1:=zcl h1
  have hjb:jb (QW s).1:=by
   rcases hva with h|h
   ·exact absurd h.1 h1
   ·exact h.2.2.1
  refine Q1 ?_
  refine zu1 ?_
  refine zt rfl (zc rfl (Qaz (QW s).1 _ _ (Q3 _) hjb)) ?_
  refine zv7 ?_
  refine Q0 ?_
  refine zw2 ?_
  refine Q2 rfl (fun h2=>?_) (fun h2=>?_)
  ·(try rw [h2]);replace h2:=zcl h2
   refine zw2 ?_
   refine Zb 2 rfl (AVle.nils false 11) ?_ (by decide)
   refine zrt ?_
   rw [Qbf h1 h2]
   exact JN rfl rfl hcl (by simp [AV.lt,AV.ltL,AV.ltLL]) ⟨rfl,rfl⟩
  ·(try rw [h2]);replace h2:=zcl h2
   refine Q1 ?_
   refine zw3 ?_
   refine zrt ?_
   rw [Qbg h1 h2]
   exact JN rfl rfl hcl (by simp [AV.lt,AV.ltL]) ⟨rfl,rfl⟩

theorem Q6f (v:JV) (σ:List AO) (hjb:jb v) (hs:Q6 v≤100000):ACalls Tryz.prog 12 [.agg (Qf v),.int .i64 0] σ (Ret (.tup [.pp (tc (tj v 0)),.int .i64 (Q6 v)]) σ):=by
  have h:=Q2t v 0 σ hjb (by decide) (by omega)
  rw [VG,Int.zero_add] at h;exact h
theorem Q1N:∀ (l:List JOp) (v:JV) (i:Nat),(jap l v i).2.1=0→(jap l v i).2.2=0
  |[],v,i,_=>rfl
  |o :: r,v,i,h=>by
    by_cases hc:Xm (jdo v o)=0
    · rw [Ht hc] at h ⊢;exact Q1N r _ _ h
    · rw [WA rfl hc] at h;exact absurd h hc
theorem Q8I (r:JV×Int×Int) (σ:List AO) (h:r.2.1=0→r.2.2=0):ACalls Tryz.prog 16 [Q9t (jE r)] σ (Ret (.tup [.int .i64 r.2.1,.int .i64 r.2.2]) σ):=by
  by_cases h0:r.2.1=0
  · rw [Qdw h0,h0,h h0];exact QcV σ
  · rw [Qdx h0];exact QcW _ _ σ
theorem Qdv (v w:JV) (x:Int×Int):jE (v,x)=jE (w,x):=rfl
theorem RI.skip {u:JT} {nx:Int} {S:LS} {r:Nat} (h:RI u nx S r):RI u nx S (r+1):=⟨h.w,h.jb,h.sz,h.dp,h.n0,by have:=h.nb;omega,h.con,by have:=h.len;omega,h.last,h.l0⟩
theorem RI.lt {u:JT} {nx:Int} {S:LS} {r:Nat} (h:RI u nx S r) (k:Nat):∀ a∈S.1,a.2.lt k:=fun a ha=>by
  obtain ⟨G,_,hs⟩:=h.con
  rw [(hs.val a ha).1];simp [AV.lt]
theorem HO {v w:JV} (h:v=w) (cs ds:List AV) (σ:List AO) (hc:Qf v=cs) (hd:Qf w=ds) (hjb:jb v) (hs:Q6 v≤100000):ACalls Tryz.prog 18 [.agg cs,.agg ds] σ (Ret (.bool true) σ):=by
  subst hc;subst hd;subst h
  have h:=UU 100000 v v σ hs hjb hjb
  rwa [UP rfl] at h
theorem treeApplies_c (s pt qt:ByteArray) (σ:List AO):ACalls Tryz.prog 3 [.str s,.str pt,.str qt] σ (Ret (.bool true) σ):=by
 refine Qc Tryz.func3 rfl Tryz.ntmps3 (XE Tryz.results3) (Nat.le_of_ble_eq_true rfl) (fun hcl hal=>?_)
 have hva:=US s
 have hvd:=Q3B s
 have hol:=Q7L pt
 have hom:=Q7L qt
 refine zw1 ?_
 refine zsr ?_
 refine zt rfl (zc rfl (Qdg _)) ?_
 refine zv1 ?_
 refine zu1 ?_
 refine zt rfl (zc rfl (Q1r s _)) ?_
 generalize (QW s).1=v at hva hvd ⊢
 generalize (QW s).2=ok at hva hvd ⊢
 rw [Q3 v]
 refine zv6 ?_
 refine zu1 ?_
 refine zt rfl (zc rfl (Q84 pt _)) ?_
 generalize (opQ pt).1=l at hol ⊢
 generalize (opQ pt).2=ok2
 refine zv5 ?_
 refine zu1 ?_
 refine zt rfl (zc rfl (Q84 qt _)) ?_
 generalize (opQ qt).1=m at hom ⊢
 generalize (opQ qt).2=ok3
 refine zv5 ?_
 refine Q0 ?_
 refine zu3 ?_
 refine zsp 49 rfl (fun h1=>?_) fun h1=>?_
 ·rw [h1];replace h1:=zcl h1
  refine zv7 ?_
  refine Qj rfl ?_
  refine zw2 ?_
  refine zrt ?_
  exact Z5 rfl hcl trivial (Q8 rfl)
 ·rw [h1];replace h1:=zcl h1
  refine zg4 ?_
  refine zsp 53 rfl (fun h2=>?_) fun h2=>?_
  ·rw [h2];replace h2:=zcl h2
   refine zv3 ?_
   refine Qj rfl ?_
   refine zw2 ?_
   refine zrt ?_
   exact Z5 rfl hcl trivial (Q8 rfl)
  ·rw [h2];replace h2:=zcl h2
   refine zv3 ?_
   refine Q2 rfl (fun h3=>?_) (fun h3=>?_)
   ·(try rw [h3]);replace h3:=zcl h3
    refine zw2 ?_
    refine zrt ?_
    exact Z5 rfl hcl trivial (Q8 rfl)
   ·(try rw [h3]);replace h3:=zcl h3
    obtain ⟨hmy,hjv,hsv⟩:Ye v∧jb v∧Q6 v≤2002:=by
     rcases hva with ⟨h,_⟩|⟨_,h⟩
     ·exfalso;omega
     ·exact h
    have hst:=Q7B hmy
    have hdv:=hvd h1
    have hvt:tv (tj v 0)=v:=Q0b v 0 hst
    refine Q1 ?_
    refine zu1 ?_
    refine zt rfl (zc rfl (Q3 v ▸ Q6f v _ hjv (by omega))) ?_
    refine zv5 ?_
    refine zsr ?_
    refine zt rfl (Q26 1 rfl rfl) ?_
    refine zv4 ?_
    refine Q0 ?_
    refine Q0 ?_
    obtain ⟨⟨G,hT⟩,hI0⟩:=RI.start (p:=σ.length+2) (q:=σ.length+1) (σ:=σ++[.box [.int .i64 v.kind,.bool v.b,.bool v.n.neg,.str v.n.digits,.int .i64 v.n.exp,.str v.s,.sl false 8 (Q7 v.l),.sl false 9 (Q5 v.m)],.map [],.box [.mapv (σ.length+1),.int .i64 (Q6 v),.int .i64 0,.int .i64 0]]) hjv hst (by omega) hdv (Q6 v) (Zz 2) (Zz 1)
    refine Q4 ?_
    refine zg2 ?_
    refine zt rfl (zc rfl (Q6M 2 1 (Q0a 3000 G (Q6 v) (tj v 0) 0 (Q6 v) ([],0,0) (σ.length+2) (σ.length+1) _ (by rw [hvt];omega) hT))) ?_
    simp only [tbx]
    refine zt rfl (Xx rfl rfl rfl (by decide)) ?_
    refine zon ?_
    refine Qd rfl ?_
    refine Q1 ?_
    refine Q0 ?_
    refine Q0 ?_
    refine Qn (σ':=σ++[.box [.int .i64 (tv (tj v 0)).kind,.bool (tv (tj v 0)).b,.bool (tv (tj v 0)).n.neg,.str (tv (tj v 0)).n.digits,.int .i64 (tv (tj v 0)).n.exp,.str (tv (tj v 0)).s,.sl false 8 (Q7 (tv (tj v 0)).l),.sl false 9 (Q5 (tv (tj v 0)).m)],.map (Za (lk (Q6 v) (tj v 0) ([],0,0)).1),.box [.mapv (σ.length+1),.int .i64 (Q6 v),.int .i64 (lk (Q6 v) (tj v 0) ([],0,0)).2.1,.int .i64 (lk (Q6 v) (tj v 0) ([],0,0)).2.2]]) (by rw [hvt];rfl) ?_
    refine Q4 ?_
    refine zv1 ?_
    refine Qa ?_
    refine Qs (ι:=Nat×JT×Int×Int×LS×List JOp) (fun z=>z.1≤2∧RI z.2.1 z.2.2.1 z.2.2.2.2.1 z.1∧z.2.2.2.2.2.length≤100∧∀ o∈z.2.2.2.2.2,OPB o) (fun z=>⟨[],[(7,.bool true),(8,.ptr (σ.length+0) 0),(10,.sl false 11 (ZP z.2.2.2.2.2)),(12,.sl false 11 (ZP m)),(14,.pp (tc z.2.1)),(15,.int .i64 z.2.2.1),(16,.ptr (σ.length+2) 0),(17,.int .i64 (z.1:Int))]⟩) (fun z=>σ++[.box [.int .i64 (tv z.2.1).kind,.bool (tv z.2.1).b,.bool (tv z.2.1).n.neg,.str (tv z.2.1).n.digits,.int .i64 (tv z.2.1).n.exp,.str (tv z.2.1).s,.sl false 8 (Q7 (tv z.2.1).l),.sl false 9 (Q5 (tv z.2.1).m)],.map (Za z.2.2.2.2.1.1),.box [.mapv (σ.length+1),.int .i64 z.2.2.2.1,.int .i64 z.2.2.2.2.1.2.1,.int .i64 z.2.2.2.2.1.2.2]]) (fun z=>2 - z.1) ((0,tj v 0,Q6 v,Q6 v,lk (Q6 v) (tj v 0) ([],0,0),l)) (⟨Nat.zero_le _,hI0,hol.1,hol.2⟩) ?_ rfl (fun z hz=>?_)
    ·exact ⟨rfl,rfl,rfl,rfl,rfl,rfl,rfl,rfl,rfl,trivial⟩
    obtain ⟨r,u,nx,frm,S,lc⟩:=z
    obtain ⟨hz1,hI,hlc1,hlc2⟩:=hz
    simp only at hz1 hI hlc1 hlc2 ⊢
    refine Q0 ?_
    refine zw2 ?_
    refine Q2 rfl (fun h4=>?_) (fun h4=>?_)
    ·(try rw [h4]);replace h4:=zcl h4
     refine Q1 ?_
     refine Q0 ?_
     refine Qa ?_
     refine QE (ι:=Unit) (fun b=>True) (fun b=>⟨[],[(7,.bool true),(8,.ptr (σ.length+0) 0),(10,.sl false 11 (ZP (if r=1 then m else lc))),(12,.sl false 11 (ZP m)),(14,.pp (tc u)),(15,.int .i64 nx),(16,.ptr (σ.length+2) 0),(17,.int .i64 (r:Int))]⟩) (fun b=>σ++[.box [.int .i64 (tv u).kind,.bool (tv u).b,.bool (tv u).n.neg,.str (tv u).n.digits,.int .i64 (tv u).n.exp,.str (tv u).s,.sl false 8 (Q7 (tv u).l),.sl false 9 (Q5 (tv u).m)],.map (Za S.1),.box [.mapv (σ.length+1),.int .i64 frm,.int .i64 S.2.1,.int .i64 S.2.2]]) ?_ (fun b hj=>?_)
     ·skip
      refine zw2 ?_
      refine Q2 rfl (fun h5=>?_) (fun h5=>?_)
      ·(try rw [h5]);replace h5:=zcl h5
       refine Q4 ?_
       refine zv2 ?_
       rw [if_pos (show r=1 by omega)]
       exact ⟨(),trivial,⟨rfl,rfl,rfl,rfl,rfl,rfl,rfl,rfl,rfl,trivial⟩,rfl⟩
      ·(try rw [h5]);replace h5:=zcl h5
       refine Q1 ?_
       rw [if_neg (show ¬r=1 by omega)]
       exact ⟨(),trivial,⟨rfl,rfl,rfl,rfl,rfl,rfl,rfl,rfl,rfl,trivial⟩,rfl⟩
     ·skip
      obtain ⟨L,hL⟩:∃ L,L=(if r=1 then m else lc):=⟨_,rfl⟩
      rw [← hL]
      have hLl:L.length≤100:=by rw [hL];split;exact hom.1;exact hlc1
      have hLo:∀ o∈L,OPB o:=by rw [hL];split;exact hom.2;exact hlc2
      have hml:=HA hLo
      have hnb:=hI.nb
      have hbnd:nx+Xf L≤400000000000:=by omega
      obtain ⟨htj,_⟩:=Q1k L nx 0 hLo hI.w
      obtain ⟨hjj,hjs,hjz⟩:=Q34 L (tv u) 0 hLo hI.jb (Jx u hI.w) hI.sz
      clear hj
      refine zu3 ?_
      refine zt rfl (zc rfl (QcZ L false (by omega) hLo u nx _ hI.w hI.jb hI.sz hI.n0 hbnd)) ?_
      rw [Qdv vz vz,htj]
      refine zv7 ?_
      refine zu2 ?_
      refine zt rfl (zc rfl (QdY L _ (by omega) hLo (tv u) _ _ (Q3 (tv u)) hI.jb (Jx u hI.w) hI.sz)) ?_
      rw [Q3 (jap L (tv u) 0).1]
      refine zv8 ?_
      refine zu1 ?_
      refine zt rfl (zc rfl (Q8I (vz,(jap L (tv u) 0).2) _ (Q1N L (tv u) 0))) ?_
      refine zv5 ?_
      refine Q0 ?_
      refine zu2 ?_
      refine zt rfl (Ja rfl rfl rfl rfl) ?_
      refine zg3 ?_
      refine ztG rfl rfl (Ja rfl rfl rfl rfl) ?_
      refine zv1 ?_
      refine Qd rfl ?_
      refine Q1 ?_
      refine Q0 ?_
      refine zw2 ?_
      refine Q2 rfl (fun h6=>?_) (fun h6=>?_)
      ·(try rw [h6]);replace h6:=zcl h6
       have h6:¬(jap L (tv u) 0).2.1=0:=h6
       have hc0:¬(tap L u nx 0).2.2.1=0:=by rw [htj];exact h6
       rw [(Q8Z hc0).1,(Q8Z hc0).2]
       refine Q0 ?_
       refine zu5 ?_
       refine ztG rfl rfl (Ja rfl rfl rfl rfl) ?_
       refine zv1 ?_
       refine Qd rfl ?_
       refine Q1 ?_
       refine Qg ?_
       refine Q4 ?_
       refine zv3 ?_
       refine ⟨(r+1,u,nx,frm,S,L),σ.length+3,⟨by simp only;omega,RI.skip hI,hLl,hLo⟩,by simp only;omega,by simp,⟨rfl,rfl,rfl,rfl,rfl,rfl,rfl,rfl,rfl,trivial⟩,Qh 3 hcl ?_,?_,?_⟩
       ·simp [ownLt,AO.cells,AV.ltL,AV.lt];exact Wy _ _ (hI.lt _)
       ·simp [ltE,AV.lt,AV.ltL]
       ·exact Qo 3
      ·(try rw [h6]);replace h6:=zcl h6
       have h6:(jap L (tv u) 0).2.1=0:=h6
       obtain ⟨hc0,hXv,⟨G2,hT⟩,hX,hn1,hnew,hget⟩:=RI.next (p:=σ.length+2) (q:=σ.length+1) (τ:=σ++[.box [.int .i64 (tv u).kind,.bool (tv u).b,.bool (tv u).n.neg,.str (tv u).n.digits,.int .i64 (tv u).n.exp,.str (tv u).s,.sl false 8 (Q7 (tv u).l),.sl false 9 (Q5 (tv u).m)],.map (Za S.1),.box [.mapv (σ.length+1),.int .i64 nx,.int .i64 0,.int .i64 S.2.2],.box [.int .i64 (jap L (tv u) 0).1.kind,.bool (jap L (tv u) 0).1.b,.bool (jap L (tv u) 0).1.n.neg,.str (jap L (tv u) 0).1.n.digits,.int .i64 (jap L (tv u) 0).1.n.exp,.str (jap L (tv u) 0).1.s,.sl false 8 (Q7 (jap L (tv u) 0).1.l),.sl false 9 (Q5 (jap L (tv u) 0).1.m)]]) hI (by omega) hLl hLo h6 (Zz 2) (Zz 1)
       rw [(Q8Y hc0).1,(Q8Y hc0).2]
       refine Q1 ?_
       refine zw5 ?_
       refine zw4 ?_
       refine Q0 ?_
       refine zu2 ?_
       refine zt rfl (zc rfl (Q6M 2 1 (Q0a 3000 G2 (tap L u nx 0).2.1 (tap L u nx 0).1 0 nx (S.1,0,S.2.2) (σ.length+2) (σ.length+1) _ hX.sz hT))) ?_
       simp only [tbx]
       refine zt rfl (Xx rfl rfl rfl (by decide)) ?_
       refine zon ?_
       refine Qd rfl ?_
       refine Q1 ?_
       refine zw1 ?_
       refine Q0 ?_
       refine zw1 ?_
       refine Qa ?_
       refine Qs (ι:=Nat) (fun i=>i≤L.length) (fun i=>⟨[],[(7,.bool true),(8,.ptr (σ.length+0) 0),(10,.sl false 11 (ZP L)),(12,.sl false 11 (ZP m)),(14,.pp (tc u)),(15,.int .i64 nx),(16,.ptr (σ.length+2) 0),(17,.int .i64 (r:Int)),(18,.pp (tc (tap L u nx 0).1)),(19,.int .i64 (tap L u nx 0).2.1),(21,.ptr (σ.length+3) 0),(26,.int .i64 (Xf (L.take i))),(27,.int .i64 (i:Int))]⟩) (fun i=>σ++[.box [.int .i64 (tv u).kind,.bool (tv u).b,.bool (tv u).n.neg,.str (tv u).n.digits,.int .i64 (tv u).n.exp,.str (tv u).s,.sl false 8 (Q7 (tv u).l),.sl false 9 (Q5 (tv u).m)],.map (Za (lk nx (tap L u nx 0).1 (S.1,0,S.2.2)).1),.box [.mapv (σ.length+1),.int .i64 nx,.int .i64 (lk nx (tap L u nx 0).1 (S.1,0,S.2.2)).2.1,.int .i64 (lk nx (tap L u nx 0).1 (S.1,0,S.2.2)).2.2],.box [.int .i64 (jap L (tv u) 0).1.kind,.bool (jap L (tv u) 0).1.b,.bool (jap L (tv u) 0).1.n.neg,.str (jap L (tv u) 0).1.n.digits,.int .i64 (jap L (tv u) 0).1.n.exp,.str (jap L (tv u) 0).1.s,.sl false 8 (Q7 (jap L (tv u) 0).1.l),.sl false 9 (Q5 (jap L (tv u) 0).1.m)]]) (fun i=>L.length - i) (0) (Nat.zero_le _) ?_ rfl (fun i hi=>?_)
       ·exact ⟨rfl,rfl,rfl,rfl,rfl,rfl,rfl,rfl,rfl,rfl,rfl,rfl,rfl,rfl,trivial⟩
       have hor:=K9 L
       have hmt:=Ft L i
       refine Q0 ?_
       refine zw4 ?_
       refine Q2 rfl (fun h7=>?_) (fun h7=>?_)
       ·(try rw [h7]);replace h7:=zcl h7
        obtain ⟨o,hx⟩:∃ o,L[i]? =some o:=⟨_,List.getElem?_eq_getElem (show i < L.length by omega)⟩
        have hxr:=UN hx
        have hmt1:=Q3e hx
        have hmt2:=Fs L (i+1)
        have hmo:=GQ o
        refine Q1 ?_
        refine Q0 ?_
        refine Qa ?_
        refine Q4 ?_
        refine zg3 ?_
        refine zt rfl (Qe rfl Tryz.underlying31 Tryz.sizeOf53 rfl rfl (by omega) (hxr)) ?_
        rw [QP o]
        refine zg1 ?_
        refine zt rfl (zc rfl (Qcr o _ (QP o) (hLo o (List.mem_of_getElem? hx)) _)) ?_
        refine zv2 ?_
        refine Q4 ?_
        refine zv3 ?_
        refine ⟨i+1,σ.length+4,by omega,by omega,by simp,⟨rfl,rfl,rfl,rfl,rfl,rfl,rfl,rfl,rfl,rfl,rfl,rfl,?_,rfl,trivial⟩,Qh 4 hcl ?_,?_,?_⟩
        ·rw [hmt1];rfl
        ·simp [ownLt,AO.cells,AV.ltL,AV.lt];exact Wy _ _ (hX.lt _)
        ·simp [ltE,AV.lt,AV.ltL]
        ·exact Qo 4
       ·(try rw [h7]);replace h7:=zcl h7
        have hie:i=L.length:=by omega
        subst hie
        rw [List.take_length]
        refine Qg ?_
        refine Q0 ?_
        refine Qb #[0,1,3,7,0,16,48,112,255,0,1023,2047] Tryz.mixed (by decide +kernel) (by decide +kernel) ?_
        refine zd3 ?_
        refine zp1 ?_
        refine zd1 ?_
        rw [FB (tap L u nx 0).1]
        refine zd2 ?_
        refine zp1 ?_
        refine yP rfl rfl (YW rfl Tryz.underlying38 Tryz.underlying3 Tryz.zeroValue28 rfl rfl (Zz 1) hget) (trivial) ?_
        refine zp1 ?_
        refine yP rfl rfl (zc rfl (HO hXv _ _ _ rfl (Q3 _) hX.jb (by have:=hX.sz;omega))) (trivial) ?_
        refine zd1 ?_
        refine RP.nil rfl ?_
        refine Q0 ?_
        refine Qb #[0,1,0,7,15] Tryz.mixed (by decide +kernel) (by decide +kernel) ?_
        refine zd1 ?_
        refine yP rfl rfl (zc rfl (FB (tap L u nx 0).1 ▸ G8 3000 (tap L u nx 0).1 _ hX.sz hX.jb hX.w)) (trivial) ?_
        refine zp1 ?_
        refine yP rfl rfl (zc rfl (HO hXv _ _ _ rfl (Q3 _) hX.jb (by have:=hX.sz;omega))) (trivial) ?_
        refine zd1 ?_
        refine RP.nil rfl ?_
        refine Q0 ?_
        refine Qb #[0,1,0,7,15] Tryz.mixed (by decide +kernel) (by decide +kernel) ?_
        refine zd1 ?_
        refine yP rfl rfl (zc rfl (G8 3000 u _ hI.sz hI.jb hI.w)) (trivial) ?_
        refine zp1 ?_
        refine yP rfl rfl (zc rfl (HO (rfl:tv u=tv u) _ _ _ rfl (Q3 _) hI.jb (by have:=hI.sz;omega))) (trivial) ?_
        refine zd1 ?_
        refine RP.nil rfl ?_
        refine Q0 ?_
        refine zsr ?_
        refine J7 ?_
        refine zg6 ?_
        refine ztG rfl rfl (XH rfl rfl rfl (by omega)) ?_
        refine zg7 ?_
        refine ztG rfl rfl (Qa9 rfl rfl rfl (by have:=hX.last;omega)) ?_
        refine zg4 ?_
        refine ztG rfl rfl (Q0P rfl rfl rfl (by omega)) ?_
        refine zv1 ?_
        refine Qd rfl ?_
        refine Q1 ?_
        refine zw2 ?_
        refine zw2 ?_
        refine Q4 ?_
        refine zv2 ?_
        refine Q4 ?_
        refine zv3 ?_
        refine ⟨(r+1,(tap L u nx 0).1,(tap L u nx 0).2.1,nx,(lk nx (tap L u nx 0).1 (S.1,0,S.2.2)),L),σ.length+3,⟨by simp only;omega,hX,hLl,hLo⟩,by simp only;omega,by simp,⟨rfl,rfl,rfl,rfl,rfl,?_,rfl,rfl,rfl,trivial⟩,Qh 3 hcl ?_,?_,?_⟩
        ·show _=AV.pp (tc (tap L u nx 0).1);rw [FB (tap L u nx 0).1];rfl
        ·simp [ownLt,AO.cells,AV.ltL,AV.lt];exact Wy _ _ (hX.lt _)
        ·simp [ltE,AV.lt,AV.ltL]
        ·refine (Qo 3).trans ?_
         simp only [hXv];rfl
    ·(try rw [h4]);replace h4:=zcl h4
     refine Qg ?_
     refine zw2 ?_
     refine zrt ?_
     exact Z5 rfl hcl trivial (Q8 rfl)
end Lg
set_option maxRecDepth 100000
set_option maxHeartbeats 4000000
namespace Go.Proofs.YtjfcfncgalmofaaGreatDoor
open Go Go.ChangeShapes Go.WideShapes Go.ChangeAt Go.RowKit Go.Lib
open Go.ChangeMaps (open_string shut_string)
noncomputable def Vo (os:Os):World:=
 let w0:=World.holding Tryz.prog os ⟨#[],#[],[]⟩
 { w0 with heap:=w0.heap.modify 0 fun
   | .cells _ t frozen=>.cells #[.iface 201 (.agg #[.pointer (some ⟨9,43,none⟩)])] t frozen
   |o=>o}
noncomputable def treeApplies_ln:List (String×DataW Unit):=Rows.treeAppliesRow.laid.filter fun x=>x.2.handleName?.isNone
noncomputable def XO (os:Os):World:=(Vo os).layVars Tryz.prog treeApplies_ln
theorem U6 (os:Os):(XO os).os=os:=by unfold XO;rw [World.layVars_os];rfl
theorem F7 (os:Os) (args:Array Value):laidMetH Tryz.prog Rows.treeAppliesRow.laid ((XO os).forCall (fun _ _=>0) ⟨#[],args,[]⟩).memory:=by
 have e1:(treeApplies_ln.filter fun x=>(treeApplies_ln.map (·.1)).contains x.1)=treeApplies_ln:=List.filter_eq_self.2 fun x hx=>List.contains_iff_mem.2 (List.mem_map.2 ⟨x,hx,rfl⟩)
 have e2:(treeApplies_ln.filter fun x=> !(treeApplies_ln.map (·.1)).contains x.1)=[]:=List.filter_eq_nil_iff.2 fun x hx=>by rw [List.contains_iff_mem.2 (List.mem_map.2 ⟨x,hx,rfl⟩)];simp
 have h:laidMet Tryz.prog treeApplies_ln (XO os):=laidMet_layVars (w0:=Vo os) (treeApplies_ln.map (·.1)) [] (by rw [e1];rfl) (by rw [e1];kernel_rfl) (by rw [e1];kernel_rfl) (by rw [e2];exact LaidIn.none)
 refine laidMetH_of_parts (h.of_heap (by simp [World.memory,World.forCall,Input.heap])) (by kernel_rfl)
theorem treeApplies_rt:(Tryz.prog.cutTypes.find? (·.1 == "internal/reflectlite.rtype")).map (·.2)=some 201:=by kernel_rfl
theorem GB:((List.range 388).filter fun t=>Tryz.prog.rowNamed t [101,114,114,111,114])=[43]:=by kernel_rfl
theorem F8:Tryz.prog.types.size=388:=by kernel_rfl
theorem F1:Tryz.prog.globalNamed "errors.errorType" =some 0:=by kernel_rfl
theorem F0 {W:World} (h:laidMetH Tryz.prog Rows.treeAppliesRow.laid W):W.cell? ⟨0,0,none⟩=some (.iface 201 (.agg #[.pointer (some ⟨9,43,none⟩)])):=by
 have h':laidMet Tryz.prog (Rows.treeAppliesRow.laid.filter fun x=>x.2.handleName?.isNone) W∧handlesMet Tryz.prog (Rows.treeAppliesRow.laid.filter fun x=>x.2.handleName?.isSome) W:=h
 obtain ⟨name,u,ty,e1,e2,e3,e4,e5⟩:=h'.2 ("errors.errorType",Rows.laid_errors_errorType) (List.mem_filter.2 ⟨by simp [Rows.treeAppliesRow],rfl⟩)
 have en:name=[101,114,114,111,114]:=(Option.some.inj e1).symm
 subst en
 obtain rfl:=Option.some.inj (treeApplies_rt.symm.trans e2)
 have hm:ty∈(List.range 388).filter fun t=>Tryz.prog.rowNamed t [101,114,114,111,114]:=List.mem_filter.2 ⟨List.mem_range.2 (by rw [← F8];exact e3),e4⟩
 rw [GB] at hm
 obtain rfl:=List.mem_singleton.1 hm
 have hh:typeHandle Tryz.prog 43= .pointer (some ⟨9,43,none⟩):=by kernel_rfl
 rw [hh] at e5
 simpa using World.var?_cell F1 e5 0
theorem Wd (os:Os) (started:os.Started) (H:Type) (enc:TypeId×Value→H):
  ReturnsInHanded {} Tryz.checked os 3 .any (fun w args=>(Rows.treeAppliesSpec.pre enc Tryz.prog Tryz.f3 [] false w args∧laidMetH Tryz.prog Rows.treeAppliesRow.laid w)∧sizedMet enc Tryz.prog Tryz.f3 (OpenSpec.ofChange Rows.treeAppliesSpec) false w args)
   (Rows.treeAppliesSpec.post enc Tryz.prog Tryz.f3 false true false false):=by
 refine returnsInHanded_of_change_and (C:=Tryz.checked) (X:=fun w _=>laidMetH Tryz.prog Rows.treeAppliesRow.laid w) (fun _ _ _ hh h=>h.of_heap hh) own started (by kernel_rfl) Tryz.func3
  (ChangeSpec.witness_shaped (enc:=enc) (C:=Tryz.checked) (os:=os) (X:=fun w _=>laidMetH Tryz.prog Rows.treeAppliesRow.laid w) false (XO os) #[.string ⟨#[]⟩,.string ⟨#[]⟩,.string ⟨#[]⟩] 8 (U6 os)
   (World.shaped_of_ZipB (by kernel_rfl) (by kernel_rfl)) (by kernel_rfl) (by kernel_rfl) (by kernel_rfl) (F7 os _)) ?_
 intro W base args ds gs before hval0 hW hz0 hz hL _
 have hval:∀ (j:Nat) t v,Tryz.f3.params[j]? =some t→args[j]? =some v→Value.okWide Tryz.prog W .any base t v:=hval0
 have hW':=hW
 obtain ⟨p,q,hA0,hV,rfl,hfz,hnd⟩:=hW
 have hA:DataW.TrodAll enc Tryz.prog W 0 (fun _=>true) true Tryz.f3.params.toList args.toList ds p:=hA0
 rw [Tryz.params3] at hA hval hz
 obtain ⟨v0,vs0,d0,ds0,p0,q0,hargs,rfl,rfl,h0,r0⟩:=trodAll_cons hA
 obtain ⟨v1,vs1,d1,ds1,p1,q1,rfl,rfl,rfl,h1,r1⟩:=trodAll_cons r0
 obtain ⟨v2,vs2,d2,ds2,p2,q2,rfl,rfl,rfl,h2,r2⟩:=trodAll_cons r1
 obtain ⟨rfl,rfl,rfl⟩:=trodAll_nil r2
 obtain rfl:args= #[v0,v1,v2]:=by cases args;simp_all
 obtain ⟨rfl,rfl⟩:=trodVars_none hV
 obtain ⟨x0,rfl,rfl,rfl,w0⟩:=open_string Tryz.underlying9 (hval 0 9 v0 rfl rfl) h0
 obtain ⟨x1,rfl,rfl,rfl,w1⟩:=open_string Tryz.underlying9 (hval 1 9 v1 rfl rfl) h1
 obtain ⟨x2,rfl,rfl,rfl,w2⟩:=open_string Tryz.underlying9 (hval 2 9 v2 rfl rfl) h2
 clear hA0 hval0
 simp only [List.append_nil] at hW'
 have hcall:=Lg.calls_of (P:=Tryz.prog) (f:=3) (args:=[.str x0,.str x1,.str x2]) (cargs:=[.string x0,.string x1,.string x2]) (W:=W)
  (fun st=>(.cons (.str _) (.cons (.str _) (.cons (.str _) .nil))))
  (fun hg=>by haveI:=Lg.ET.of (F0 hL) hg;exact Lg.treeApplies_c x0 x1 x2 [])
 refine hcall.mono fun e W' ⟨he,hg⟩=>?_
 subst he
 refine ⟨_,rfl,_,_,_,[],[],[],hW',trodAll_mk1 (shut_bool Tryz.underlying4 _),?_,rfl,hg.frame _,fun h=>by cases h⟩
 exact (trodAll_cons_mk (shut_string Tryz.underlying9 w0) (trodAll_cons_mk (shut_string Tryz.underlying9 w1) (trodAll_cons_mk (shut_string Tryz.underlying9 w2) trodAll_mk0)))
theorem F2:Tryz.prog.inPlace 3=Rows.treeAppliesRow.inPlace:=by kernel_rfl
theorem F3:Tryz.prog.unfollowed 3=Rows.treeAppliesRow.unfollowed:=by kernel_rfl
theorem F4:Tryz.prog.recurses 3=Rows.treeAppliesRow.recurses:=by kernel_rfl
theorem F5:Tryz.prog.varsNamed 3=Rows.treeAppliesRow.named:=by kernel_rfl
theorem F6:joinedFacts Tryz.prog 3 Tryz.f3 Rows.treeAppliesSpec Rows.treeAppliesRow=true:=by
 unfold joinedFacts
 rw [F2,F3,F4,F5]
 kernel_rfl
theorem U5:Rows.TreeAppliesSaid:=
 OpenClaim.holds_of_wide 3 Tryz.f3 rfl rfl rfl rfl rfl rfl rfl ⟨rfl,rfl,rfl,rfl,rfl⟩ rfl rfl rfl rfl rfl (by kernel_rfl) Tryz.func3 F6
  (of_decide_eq_true (by kernel_rfl)) (by unfold Func.isWrapper;first|(rw [if_pos (by decide +kernel)];kernel_rfl)|(rw [if_neg (by decide +kernel)];exact ⟨rfl,rfl⟩))
  (fun os started H enc _=>Wd os started H enc)
end Go.Proofs.YtjfcfncgalmofaaGreatDoor
