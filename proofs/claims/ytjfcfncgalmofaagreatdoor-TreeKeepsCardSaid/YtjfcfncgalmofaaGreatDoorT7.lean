/- A part of the proof of The tree's Apply, and what the reference says of it: the same answer and the same tree.: A3 Lg54 A4 A5 A9 T1 T2 A10 A11 W5 W7 A12 A13 A14 W8 Lt13 Lt14 A18. -/
import Derived.Test.YtjfcfncgalmofaaGreatDoorT6
import Derived.Test.YtjfcfncgalmofaaGreatDoorT5
import Derived.Test.YtjfcfncgalmofaaGreatDoorT3
import Derived.Test.YtjfcfncgalmofaaGreatDoorT4
import Derived.Test.YtjfcfncgalmofaaGreatDoorT2
set_option linter.unusedVariables false
set_option linter.unusedSimpArgs false
set_option linter.unusedSectionVars false
set_option maxRecDepth 20000
set_option maxHeartbeats 4000000
namespace Lg
open Go Go.Proofs Go.RowKit
variable [GLay]
theorem Qc8 (rows:List (List AV)) (row:List AV) (i p g:Nat) (σ:List AO) (hp:σ[p]? =some (.arr 1 g rows.flatten)) (hel:∀ r∈rows,r.length=1) (hrl:row.length=1) (hone:Zf rows.flatten=true) (hone2:Zf row=true) (hlt:∀ n,AV.ltLL n rows) (hlt2:∀ n,AV.ltL n row) (hi:i≤rows.length) (hn:rows.length≤1000000):ACalls Tryz.prog 105 [.arr p g 1 0 rows.length,.int .i64 (i:Int),.sl true 1 [row]] σ (Ret (.sl false 1 (rows.take i++row :: rows.drop i)) (σ.set p .dead)):=by
 refine Qc Tryz.func105 rfl Tryz.ntmps105 (XE Tryz.results105) (Nat.le_of_ble_eq_true rfl) (fun hcl hal=>?_)
 have hpl:=(List.getElem?_eq_some_iff.1 hp).1
 have h0i:0+((i:Int)).toNat=i:=by omega
 have h1i:0+((i:Int)+1).toNat=i+1:=by omega
 have h2i:0+Int.toNat 0+((i:Int)+1).toNat=i+1:=by omega
 have h3i:0+Int.toNat 0+((i:Int)).toNat=i:=by omega
 have hAl:(rows.take i).flatten.length=i * 1:=Wc hel hi
 have hR1:(row++[]).length=(List.replicate 1 AV.any).length:=by rw [List.append_nil,hrl,List.length_replicate]
 have hfl:rows.flatten.length=rows.length * 1:=QJ hel
 refine zw1 ?_
 refine zu2 ?_
 refine zt rfl (QC _ _ rfl Tryz.underlying51 Tryz.sizeOf9 rfl hp (by first|exact ⟨_,rfl⟩|rfl) (by first|exact ⟨_,rfl⟩|rfl) (by omega) (by omega) (by omega)) ?_
 refine zon ?_
 refine zu1 ?_
 refine zt rfl (ZZ rfl rfl Tryz.underlying51 rfl rfl trivial) ?_
 rw [show (([row].length:Nat):Int)=1 from rfl]
 refine zv1 ?_
 refine Q0 ?_
 refine zw2 ?_
 refine Qd rfl ?_
 refine Q1 ?_
 refine zu1 ?_
 refine zt rfl (ZZ rfl rfl Tryz.underlying51 rfl rfl ⟨_,_,hp⟩) ?_
 refine zv1 ?_
 refine Q0 ?_
 refine zw3 ?_
 refine Q2 rfl (fun h1=>?_) (fun h1=>?_)
 ·(try rw [h1]);replace h1:=zcl h1
  refine zu2 ?_
  refine zt rfl (KC (p:=p) (gg:=g) (off:=0) (len:=rows.length) (sz:=1) (m:=1) (cs:=row++[]) rfl (.inr ⟨_,rfl⟩) Tryz.underlying51 Tryz.underlying51 Tryz.type9 rfl rfl rfl (by decide) rfl hp (by rw [Nat.zero_add,hfl]) rfl rfl (by rw [List.append_nil];exact hone2) (by show (rows.length+1) * 16≤_;omega) (by omega) (by rw [List.append_nil,hrl])) ?_
  refine zv1 ?_
  refine Qn (σ':=σ.set p (.arr 1 (g+1) (rows++[row]).flatten)) (by rw [Nat.zero_mul,List.drop_zero,List.append_nil,List.flatten_append];simp) ?_
  refine ZN 6 p (g+1) 1 (rows.length+1) (rows++[row]) rfl (Qk hpl) (by rw [List.take_of_length_le (by rw [List.flatten_append,List.length_append,hfl];simp [hrl]<;>omega)]) (by have:=JP (i:=rows.length) hel hrl;rwa [Vv] at this) (by simp) (by decide) (by rw [List.flatten_append,List.length_append,hfl];simp [hrl]<;>omega) ?_ (by decide)
  have hie:i=rows.length:=by omega
  subst hie
  rw [List.set_set,Vv]
  refine zrt ?_
  exact Xj (x:=.dead) rfl hcl trivial (by have:=Ut (i:=rows.length) hlt hlt2 σ.length;rw [Vv] at this;exact this) (Q8 rfl)
 ·(try rw [h1]);replace h1:=zcl h1
  refine Q1 ?_
  refine Q0 ?_
  refine Q0 ?_
  refine Kr 0 p g 1 rows.length rfl hp hfl (by omega) (by decide) (by decide) (fun cap hcap=>?_)
  refine Q4 ?_
  refine zg4 ?_
  refine zt rfl (Q4s rfl rfl Tryz.underlying51 rfl (Qk hpl)) ?_
  refine zv1 ?_
  refine Q2 rfl (fun h2=>?_) (fun h2=>?_)
  ·(try rw [h2]);replace h2:=zcl h2
   refine zu2 ?_
   refine zt rfl (XU _ _ rfl Tryz.underlying51 Tryz.sizeOf9 rfl (Qk hpl) (by first|exact ⟨_,rfl⟩|rfl) (by first|exact ⟨_,rfl⟩|rfl) (by omega) (by omega) (by omega) (by omega)) ?_
   refine zg5 ?_
   rw [show ((rows.length:Int)+1 - (i:Int))=((rows.length+1 - i:Nat):Int) by omega]
   refine zt rfl (HD (sz:=1) (p:=p) (g:=g+1) (off:=0) (len:=i) (cap:=cap) (k:=rows.length+1 - i) rfl Tryz.underlying51 Tryz.underlying3 Tryz.type9 rfl rfl rfl rfl (Qk hpl) (by decide) (by omega) (by rw [List.length_append,hfl];omega) rfl (by omega) (by show (i+(rows.length+1 - i)) * 16≤_;omega) (by omega)) ?_
   rw [List.length_set]
   refine zv1 ?_
   refine Q0 ?_
   refine Qn (σ':=σ.set p (.arr 1 (g+1) (rows.flatten++List.replicate ((cap - rows.length) * 1) .any))++[.arr 1 0 ((rows.take i).flatten++(List.replicate 1 AV.any++List.replicate ((rows.length - i) * 1) AV.any))]) (by rw [Hq hel (by omega)]) ?_
   refine Zb 0 rfl (AVle.capA _ _ _ _ _ _) ?_ (by decide)
   have hcl1:((rows.take i).flatten++(List.replicate 1 AV.any++List.replicate ((rows.length - i) * 1) AV.any)).length=i * 1+(1+(rows.length - i) * 1):=by rw [List.length_append,List.length_append,hAl,List.length_replicate,List.length_replicate]
   refine Q4 ?_
   refine zg2 ?_
   refine zt rfl (QC _ _ rfl Tryz.underlying51 Tryz.sizeOf9 rfl Y5 (by first|exact ⟨_,rfl⟩|rfl) (by first|exact ⟨_,rfl⟩|rfl) (by omega) (by omega) (by omega)) ?_
   refine zg1 ?_
   refine zt rfl (YV (sz:=1) (m:=1) (n:=1) (ds:=row++[]) rfl Tryz.underlying51 Tryz.sizeOf9 rfl Y5 (by omega) (by decide) (by rw [hcl1];omega) rfl (GX rfl rfl) (by omega) (by rw [List.append_nil,hrl]) (by rw [List.append_nil];exact hone2)) ?_
   refine zon ?_
   refine Q0 ?_
   refine Qn (σ':=σ.set p (.arr 1 (g+1) (rows.flatten++List.replicate ((cap - rows.length) * 1) .any))++[.arr 1 0 ((rows.take i).flatten++((row++[])++List.replicate ((rows.length - i) * 1) AV.any))]) (by rw [Kh,h0i,cpy hAl hR1]) ?_
   have hcl2:((rows.take i).flatten++((row++[])++List.replicate ((rows.length - i) * 1) AV.any)).length=i * 1+(1+(rows.length - i) * 1):=by rw [List.length_append,List.length_append,hAl,List.length_replicate,List.append_nil,hrl]
   refine Qb #[0,0,0,6,15,0,0,96,255] Tryz.mixed (by decide +kernel) (by decide +kernel) ?_
   refine zd4 ?_
   refine yP rfl rfl (QC _ _ rfl Tryz.underlying51 Tryz.sizeOf9 rfl Y5 (by first|exact ⟨_,rfl⟩|rfl) (by first|exact ⟨_,rfl⟩|rfl) (by omega) (by omega) (by omega)) (trivial) ?_
   refine zd2 ?_
   refine yP rfl rfl (QC _ _ rfl Tryz.underlying51 Tryz.sizeOf9 rfl (JZ hpl) (by first|exact ⟨_,rfl⟩|rfl) (by first|exact ⟨_,rfl⟩|rfl) (by omega) (by omega) (by omega)) (trivial) ?_
   refine yE rfl rfl (YV (sz:=1) (n:=rows.length - i) (ds:=(rows.drop i).flatten) rfl Tryz.underlying51 Tryz.sizeOf9 rfl Y5 (by omega) (by decide) (by rw [hcl2];omega) rfl (Vl (JZ hpl) hel (by omega) hi (by omega) (by rw [List.length_append,hfl];omega)) (by omega) (Jm hel) (Jh i hone)) (⟨.inl rfl,⟨.inl rfl,trivial⟩⟩) (trivial) ?_
   refine RP.nil rfl ?_
   refine zw2 ?_
   have hfin:((rows.take i).flatten++((row++[])++(rows.drop i).flatten))=(rows.take i++row :: rows.drop i).flatten:=by rw [Wz,List.append_nil]
   have hfl2:(rows.take i++row :: rows.drop i).flatten.length=(rows.length+1) * 1:=by rw [QJ (JP hel hrl),JG hi]
   refine Qn (σ':=σ.set p (.arr 1 (g+1) (rows.flatten++List.replicate ((cap - rows.length) * 1) .any))++[.arr 1 0 (rows.take i++row :: rows.drop i).flatten]) (by rw [Kh,h1i,Qdq (by rw [hAl,List.append_nil,hrl];omega) (by rw [Jm hel,List.length_replicate]),hfin]) ?_
   refine ZN 6 σ.length 0 1 (i+(rows.length+1 - i)) (rows.take i++row :: rows.drop i) rfl Y5 (List.take_of_length_le (by rw [hfl2];omega)).symm (JP hel hrl) (by rw [JG hi];omega) (by decide) (by rw [hfl2];omega) ?_ (by decide)
   rw [Kh]
   refine ZN 0 p (g+1) 1 rows.length rows rfl (JZ hpl) (by rw [← hfl,List.take_left]) hel rfl (by decide) (by rw [List.length_append,hfl];omega) ?_ (by decide)
   rw [Q2s hpl]
   refine zrt ?_
   exact Zt (x:=.dead) rfl hcl trivial (Ut hlt hlt2 _) (Q8 rfl)
  ·(try rw [h2]);replace h2:=zcl h2
   refine Q1 ?_
   refine zu4 ?_
   refine zt rfl (XU _ _ rfl Tryz.underlying51 Tryz.sizeOf9 rfl (Qk hpl) (by first|exact ⟨_,rfl⟩|rfl) (by first|exact ⟨_,rfl⟩|rfl) (by omega) (by omega) (by omega) (by omega)) ?_
   refine zv1 ?_
   refine Q0 ?_
   refine zu5 ?_
   refine zt rfl (XU _ _ rfl Tryz.underlying51 Tryz.sizeOf9 rfl (Qk hpl) (by first|exact ⟨_,rfl⟩|rfl) (by first|exact ⟨_,rfl⟩|rfl) (by omega) (by omega) (by omega) (by omega)) ?_
   refine zt rfl (WL (tS:=51) (tR:=4) rfl Tryz.func154 (by kernel_rfl) (by kernel_rfl) (by kernel_rfl) (by kernel_rfl) Tryz.underlying51 Tryz.sizeOf9 rfl rfl (Qk hpl) (by decide) (by omega)) ?_
   refine zv1 ?_
   refine Qj rfl ?_
   refine Q0 ?_
   refine Zb 0 rfl (AVle.capA _ _ _ _ _ _) ?_ (by decide)
   have hroom:=HN (cap:=cap) hel (show i < rows.length by omega) (by omega)
   have hcl3:(rows.flatten++List.replicate ((cap - rows.length) * 1) AV.any).length=rows.length * 1+(cap - rows.length) * 1:=by rw [List.length_append,hfl,List.length_replicate]
   refine Qb #[0,0,0,6,15,0,0,96,255] Tryz.mixed (by decide +kernel) (by decide +kernel) ?_
   refine zd4 ?_
   refine yP rfl rfl (QC _ _ rfl Tryz.underlying51 Tryz.sizeOf9 rfl (Qk hpl) (by first|exact ⟨_,rfl⟩|rfl) (by first|exact ⟨_,rfl⟩|rfl) (by omega) (by omega) (by omega)) (trivial) ?_
   refine zd2 ?_
   refine yP rfl rfl (QC _ _ rfl Tryz.underlying51 Tryz.sizeOf9 rfl (Qk hpl) (by first|exact ⟨_,rfl⟩|rfl) (by first|exact ⟨_,rfl⟩|rfl) (by omega) (by omega) (by omega)) (trivial) ?_
   refine yE rfl rfl (YV (sz:=1) (n:=rows.length - i) (ds:=(rows.drop i).flatten) rfl Tryz.underlying51 Tryz.sizeOf9 rfl (Qk hpl) (by omega) (by decide) (by rw [hcl3];omega) rfl (Vl (Qk hpl) hel (by omega) hi (by omega) (by rw [hcl3];omega)) (by omega) (Jm hel) (Jh i hone)) (⟨.inl rfl,⟨.inl rfl,trivial⟩⟩) (trivial) ?_
   refine RP.nil rfl ?_
   refine Q0 ?_
   refine Qn (σ':=σ.set p (.arr 1 (g+1) ((rows.take i).flatten++(((rows.drop i).flatten++(List.replicate 1 AV.any++List.replicate ((cap - rows.length - 1) * 1) AV.any)).take 1++((rows.drop i).flatten++List.replicate ((cap - rows.length - 1) * 1) AV.any))))) (by rw [List.set_set,hroom,h2i,Q4O hAl]) ?_
   have hT:(row++[]).length=(((rows.drop i).flatten++(List.replicate 1 AV.any++List.replicate ((cap - rows.length - 1) * 1) AV.any)).take 1).length:=by rw [List.append_nil,hrl,List.length_take,List.length_append,List.length_append,List.length_replicate];omega
   have hcl4:((rows.take i).flatten++(((rows.drop i).flatten++(List.replicate 1 AV.any++List.replicate ((cap - rows.length - 1) * 1) AV.any)).take 1++((rows.drop i).flatten++List.replicate ((cap - rows.length - 1) * 1) AV.any))).length=i * 1+(1+((rows.length - i) * 1+(cap - rows.length - 1) * 1)):=by rw [List.length_append,List.length_append,List.length_append,←hT,hAl,Jm hel,List.length_replicate,List.append_nil,hrl]
   refine Q4 ?_
   refine zg2 ?_
   refine zt rfl (QC _ _ rfl Tryz.underlying51 Tryz.sizeOf9 rfl (Qk hpl) (by first|exact ⟨_,rfl⟩|rfl) (by first|exact ⟨_,rfl⟩|rfl) (by omega) (by omega) (by omega)) ?_
   refine zg1 ?_
   refine zt rfl (YV (sz:=1) (m:=1) (n:=1) (ds:=row++[]) rfl Tryz.underlying51 Tryz.sizeOf9 rfl (Qk hpl) (by omega) (by decide) (by rw [hcl4];omega) rfl (GX rfl rfl) (by omega) (by rw [List.append_nil,hrl]) (by rw [List.append_nil];exact hone2)) ?_
   refine zon ?_
   refine zw2 ?_
   have hfin:((rows.take i).flatten++((row++[])++((rows.drop i).flatten++List.replicate ((cap - rows.length - 1) * 1) AV.any)))=(rows.take i++row :: rows.drop i).flatten++List.replicate ((cap - rows.length - 1) * 1) AV.any:=by rw [Wz,List.append_nil];simp only [List.append_assoc]
   have hfl2:(rows.take i++row :: rows.drop i).flatten.length=(rows.length+1) * 1:=by rw [QJ (JP hel hrl),JG hi]
   refine Qn (σ':=σ.set p (.arr 1 (g+1) ((rows.take i++row :: rows.drop i).flatten++List.replicate ((cap - rows.length - 1) * 1) AV.any))) (by rw [List.set_set,h3i,cpy hAl hT,hfin]) ?_
   refine ZN 6 p (g+1) 1 _ (rows.take i++row :: rows.drop i) rfl (Qk hpl) (List.take_left' (by rw [hfl2];omega)).symm (JP hel hrl) (by rw [JG hi];omega) (by decide) (by rw [List.length_append,hfl2];omega) ?_ (by decide)
   rw [List.set_set]
   refine zrt ?_
   exact Xj (x:=.dead) rfl hcl trivial (Ut hlt hlt2 _) (Q8 rfl)
end Lg
namespace Lg
open Go Go.RowKit
variable [GLay]
section
variable {P:Program} {σ:List AO} {e:Env} {o:Oper}
theorem Q3E {w:World} {T E:TypeId} {sz len cap:Nat} {A:Option Addr} {k1 k2 k3:IntKind} {l h m:Int} (hu:P.underlying T=some (.slice E)) (hsz:∀ w,(Go.sizeOf E).run P w=Result.ok sz w)
  (h0:0≤l) (h1:l≤h) (h2:h≤m) (h3:m≤cap):
  ∃ v,(Instr.sliceAt T (.slice A len cap) (some (.int k1 l)) (some (.int k2 h)) (some (.int k3 m))).run P w= .ok v w:=by
 have e0:0≤h:=by omega
 have e1:0≤m:=by omega
 have e2:h≤max m 0:=by omega
 have e3:l≤max h 0:=by omega
 refine ⟨_,by simp [Instr.sliceAt,Instr.slice,Instr.sliceBounds,Instr.sliceBound,asIntOf,run_underlying hu,hsz,h0,e0,e1,h3,e2,e3];rfl⟩
theorem HE {T E:TypeId} {x lo hi mx:Operand} {sz p g off len cap:Nat} {cs:List AV} {k1 k2 k3:IntKind} {l h m:Int} (ho:o.op= .slice T x (some lo) (some hi) (some mx)) (hu:P.underlying T=some (.slice E))
  (hsz:∀ w,(Go.sizeOf E).run P w=Result.ok sz w) (hx:opO e x=some (.arrC p g sz off len cap)) (hσ:σ[p]? =some (.arr sz g cs)) (hl:opO e lo=some (.int k1 l)) (hh:opO e hi=some (.int k2 h)) (hm:opO e mx=some (.int k3 m))
  (h0:0≤l) (h1:l≤h) (h2:h≤m) (h3:m≤cap):AOp P σ e o .any σ:=
 .of_run fun s a hs _ hv=>by
  subst hs
  have hxv:=(Qp hx ▸ hv x (by simp [ho,Op.operands])).inv_arrC hσ
  have h5:=(Qp hl ▸ hv lo (by simp [ho,Op.operands])).inv_int
  have h6:=(Qp hh ▸ hv hi (by simp [ho,Op.operands])).inv_int
  have h7:=(Qp hm ▸ hv mx (by simp [ho,Op.operands])).inv_int
  obtain ⟨_,hA,_,_⟩:=hxv
  obtain ⟨v,hr⟩:=Q3E (P:=P) (w:=s.w) (T:=T) (E:=E) (sz:=sz) (len:=len) (cap:=cap) (A:=some ⟨(s.μ p).b,(s.μ p).base+off * sz,none⟩) (k1:=k1) (k2:=k2) (k3:=k3) hu hsz h0 h1 h2 h3
  refine ⟨v,?_,.any _⟩
  simp only [execOp,ho,hA,h5,h6,h7,Sem.run_bind,Option.map_some]
  rw [hr];rfl
end
end Lg
namespace Lg
open Go Go.RowKit
variable [GLay]
section
variable {P:Program} {σ σ':List AO} {e:Env} {o:Oper}
theorem AOp.resLe {v w:AV} (h:AOp P σ e o v σ') (hle:AVle v w):AOp P σ e o w σ':=by
 intro s a hs g hv K Q hk hq
 exact h s a hs g hv K Q (fun v' cv s' ⟨hv',hs'⟩ g' x' hV=>hk w cv s' ⟨rfl,hs'⟩ g' x' (hle _ _ (hv' ▸ hV))) hq
theorem HG {T E:TypeId} {x:Operand} {lo hi:Option Operand} {sz p g off len cap:Nat} {cs:List AV} (l h:Int) (ho:o.op= .slice T x lo hi none) (hu:P.underlying T=some (.slice E))
  (hsz:∀ w,(Go.sizeOf E).run P w=Result.ok sz w) (hx:opO e x=some (.arrC p g sz off len cap)) (hσ:σ[p]? =some (.arr sz g cs))
  (hl:bnd e 0 l lo) (hh:bnd e (len:Nat) h hi) (h0:0≤l) (h1:l≤h) (h2:h≤cap) (h3:l < cap):AOp P σ e o (.arr p g sz (off+l.toNat) (h.toNat - l.toNat)) σ:=
 (XU l h ho hu hsz hx hσ hl hh h0 h1 h2 h3).resLe (AVle.capA _ _ _ _ _ _)
theorem HF {T E:TypeId} {x:Operand} {lo hi:Option Operand} {sz p g off len cap:Nat} {cs:List AV} (l h:Int) (ho:o.op= .slice T x lo hi none) (hu:P.underlying T=some (.slice E))
  (hsz:∀ w,(Go.sizeOf E).run P w=Result.ok sz w) (hx:opO e x=some (.arrC p g sz off len cap)) (hσ:σ[p]? =some (.arr sz g cs))
  (hl:bnd e 0 l lo) (hh:bnd e (len:Nat) h hi) (h0:0≤l) (h1:l≤h) (h2:h≤len):AOp P σ e o (.arr p g sz (off+l.toNat) (h.toNat - l.toNat)) σ:=
 .of_run fun s a hs _ hv=>by
  subst hs
  have hxv:=(Qp hx ▸ hv x (by simp [ho,Op.operands])).inv_arrC hσ
  have hl':=hl.ev (s:=s) (a:=a) (fun y hy=>hv y (by subst hy;simp [ho,Op.operands]))
  have hh':=hh.ev (s:=s) (a:=a) (fun y hy=>hv y (by subst hy;simp [ho,Op.operands]))
  obtain ⟨_,h3,h4,h5⟩:=hxv
  refine ⟨_,by simp only [execOp,ho,h3,Sem.run_bind,Option.map_none];rw [X2 (cap:=cap) hu hsz hl' hh' h0 h1 (by omega)];rfl,?_⟩
  refine .arr p g sz _ _ _ rfl ?_
  unfold ArrAt;rw [hσ]
  refine ⟨Nat.le_refl _,fun _=>⟨rfl,?_⟩⟩
  by_cases hcl:cap=l.toNat
  ·have e1:h.toNat - l.toNat=0:=by omega
   have e2:cap - l.toNat=0:=by omega
   rw [e1,e2]
   exact .inl ⟨_,rfl,rfl⟩
  ·refine .inr ⟨cap - l.toNat,?_,by omega,?_⟩
   ·rw [if_neg hcl];simp only [Option.map_some,X3];rw [Nat.add_mul,Nat.add_assoc]
   ·rw [show off+l.toNat+(cap - l.toNat)=off+cap by omega];exact h5
end
end Lg
set_option maxRecDepth 20000
set_option maxHeartbeats 4000000
namespace Lg
open Go Go.Proofs Go.RowKit
variable [GLay]
theorem QbT (rows:List (List AV)) (i p g:Nat) (σ:List AO) (hp:σ[p]? =some (.arr 1 g rows.flatten)) (hel:∀ r∈rows,r.length=1) (hone:Zf rows.flatten=true) (hlt:∀ n,AV.ltLL n rows) (hi:i < rows.length) (hn:rows.length≤1000000):ACalls Tryz.prog 107 [.arr p g 1 0 rows.length,.int .i64 (i:Int),.int .i64 ((i:Int)+1)] σ (Ret (.sl false 1 (rows.take i++rows.drop (i+1))) (σ.set p .dead)):=by
 refine Qc Tryz.func107 rfl Tryz.ntmps107 (XE Tryz.results107) (Nat.le_of_ble_eq_true rfl) (fun hcl hal=>?_)
 have hpl:=(List.getElem?_eq_some_iff.1 hp).1
 have hAl:(rows.take i).flatten.length=i * 1:=Wc hel (by omega)
 have hDl:(rows.drop (i+1)).flatten.length=(rows.length - (i+1)) * 1:=Jm hel
 have hz0:(0+Int.toNat 0) * 1+(((i:Int)).toNat - Int.toNat 0) * 1=i * 1:=by omega
 have hfl:rows.flatten.length=rows.length * 1:=QJ hel
 refine zw1 ?_
 refine Q0 ?_
 refine Kr 0 p g 1 rows.length rfl hp hfl (by omega) (by decide) (by decide) (fun cap hcap=>?_)
 have hcl3:(rows.flatten++List.replicate ((cap - rows.length) * 1) AV.any).length=rows.length * 1+(cap - rows.length) * 1:=by rw [List.length_append,hfl,List.length_replicate]
 refine Q4 ?_
 refine zg4 ?_
 refine zt rfl (ZZ rfl rfl Tryz.underlying55 rfl rfl ⟨_,_,Qk hpl⟩) ?_
 refine zt rfl (HE rfl Tryz.underlying55 Tryz.sizeOf34 rfl (Qk hpl) rfl rfl rfl (by omega) (by omega) (by omega) (by omega)) ?_
 refine zon ?_
 refine Q0 ?_
 refine zu2 ?_
 refine zt rfl (Xx rfl rfl rfl (by omega)) ?_
 refine zon ?_
 refine Qd rfl ?_
 refine Q1 ?_
 refine zu1 ?_
 refine zt rfl (ZZ rfl rfl Tryz.underlying55 rfl rfl ⟨_,_,Qk hpl⟩) ?_
 refine zv1 ?_
 refine Q0 ?_
 refine Qb #[0,0,3,0,0,24,63,127] Tryz.mixed (by decide +kernel) (by decide +kernel) ?_
 refine zd2 ?_
 refine yP rfl rfl (XU _ _ rfl Tryz.underlying55 Tryz.sizeOf34 rfl (Qk hpl) (by first|exact ⟨_,rfl⟩|rfl) (by first|exact ⟨_,rfl⟩|rfl) (by omega) (by omega) (by omega) (by omega)) (trivial) ?_
 refine zd2 ?_
 refine yP rfl rfl (HF _ _ rfl Tryz.underlying55 Tryz.sizeOf34 rfl (Qk hpl) (by first|exact ⟨_,rfl⟩|rfl) (by first|exact ⟨_,rfl⟩|rfl) (by omega) (by omega) (by omega)) (trivial) ?_
 refine yE rfl rfl (Gn (z:=.nilIface) (sz:=1) (ds:=(rows.drop (i+1)).flatten) (yv:=.arr p (g+1) 1 (0+((i:Int)+1).toNat) ((rows.length:Int).toNat - ((i:Int)+1).toNat)) (m:=(rows.length:Int).toNat - ((i:Int)+1).toNat) rfl (.inr ⟨_,rfl⟩) Tryz.underlying55 Tryz.underlying55 Tryz.type34 rfl rfl (Qk hpl) (by decide) (by omega) rfl (Q05 (i:=i+1) (Qk hpl) hel (by omega) (by omega) (by omega)) (by rw [hDl];omega) (Jh _ hone) (by omega) (by rw [hcl3];omega)) (⟨.inl rfl,⟨.inl rfl,trivial⟩⟩) (trivial) ?_
 refine zd1 ?_
 refine RP.nil rfl ?_
 refine Q0 ?_
 have hEl:((rows.flatten++List.replicate ((cap - rows.length) * 1) AV.any).drop (i * 1+(rows.drop (i+1)).flatten.length)).length=rows.length * 1+(cap - rows.length) * 1 - (i * 1+(rows.length - (i+1)) * 1):=by rw [List.length_drop,hcl3,hDl]
 refine Qn (σ':=σ.set p (.arr 1 (g+1) ((rows.take i).flatten++((rows.drop (i+1)).flatten++((rows.flatten++List.replicate ((cap - rows.length) * 1) AV.any).drop (i * 1+(rows.drop (i+1)).flatten.length)))))) (by rw [List.set_set,hz0,FJ hel (by omega)]) ?_
 have hcl4:((rows.take i).flatten++((rows.drop (i+1)).flatten++((rows.flatten++List.replicate ((cap - rows.length) * 1) AV.any).drop (i * 1+(rows.drop (i+1)).flatten.length)))).length=i * 1+((rows.length - (i+1)) * 1+(rows.length * 1+(cap - rows.length) * 1 - (i * 1+(rows.length - (i+1)) * 1))):=by rw [List.length_append,List.length_append,hEl,hAl,hDl]
 refine Q4 ?_
 refine zg2 ?_
 refine zt rfl (ZZ rfl rfl Tryz.underlying55 rfl rfl ⟨_,_,Qk hpl⟩) ?_
 refine zg1 ?_
 refine zt rfl (HG _ _ rfl Tryz.underlying55 Tryz.sizeOf34 rfl (Qk hpl) (by first|exact ⟨_,rfl⟩|rfl) (by first|exact ⟨_,rfl⟩|rfl) (by omega) (by omega) (by omega) (by omega)) ?_
 refine ztN rfl rfl (FR (sz:=1) rfl rfl Tryz.underlying55 Tryz.zeroValue34 rfl (by decide) rfl (Qk hpl) (by omega) (by decide) (by rw [hcl4];omega)) ?_
 refine zon ?_
 refine zw2 ?_
 have hAD:((rows.take i).flatten++(rows.drop (i+1)).flatten).length=(rows.length - 1) * 1:=by rw [List.length_append,hAl,hDl];omega
 refine Zb 6 rfl (AVle.capA _ _ _ _ _ _) ?_ (by decide)
 rw [List.set_set]
 refine ZN 6 p (g+1) 1 _ (rows.take i++rows.drop (i+1)) rfl (Qk hpl) (by rw [List.flatten_append];exact (Wp hAD (by omega) (by omega)).symm) (Q6T hel) (by rw [Q3W hi];omega) (by decide) (Gg (by rw [Wp hAD (by omega) (by omega),hAD];omega)) ?_ (by decide)
 rw [List.set_set]
 refine zrt ?_
 exact Xj (x:=.dead) rfl hcl trivial (Q6U hlt _) (Q8 rfl)
end Lg
set_option maxRecDepth 20000
set_option maxHeartbeats 4000000
namespace Lg
open Go Go.Proofs Go.RowKit
variable [GLay]
theorem QbV (rows:List (List AV)) (i p g:Nat) (σ:List AO) (hp:σ[p]? =some (.arr 1 g rows.flatten)) (hel:∀ r∈rows,r.length=1) (hone:Zf rows.flatten=true) (hlt:∀ n,AV.ltLL n rows) (hi:i < rows.length) (hn:rows.length≤1000000):ACalls Tryz.prog 108 [.arr p g 1 0 rows.length,.int .i64 (i:Int),.int .i64 ((i:Int)+1)] σ (Ret (.sl false 1 (rows.take i++rows.drop (i+1))) (σ.set p .dead)):=by
 refine Qc Tryz.func108 rfl Tryz.ntmps108 (XE Tryz.results108) (Nat.le_of_ble_eq_true rfl) (fun hcl hal=>?_)
 have hpl:=(List.getElem?_eq_some_iff.1 hp).1
 have hAl:(rows.take i).flatten.length=i * 1:=Wc hel (by omega)
 have hDl:(rows.drop (i+1)).flatten.length=(rows.length - (i+1)) * 1:=Jm hel
 have hz0:(0+Int.toNat 0) * 1+(((i:Int)).toNat - Int.toNat 0) * 1=i * 1:=by omega
 have hfl:rows.flatten.length=rows.length * 1:=QJ hel
 refine zw1 ?_
 refine Q0 ?_
 refine Kr 0 p g 1 rows.length rfl hp hfl (by omega) (by decide) (by decide) (fun cap hcap=>?_)
 have hcl3:(rows.flatten++List.replicate ((cap - rows.length) * 1) AV.any).length=rows.length * 1+(cap - rows.length) * 1:=by rw [List.length_append,hfl,List.length_replicate]
 refine Q4 ?_
 refine zg4 ?_
 refine zt rfl (ZZ rfl rfl Tryz.underlying51 rfl rfl ⟨_,_,Qk hpl⟩) ?_
 refine zt rfl (HE rfl Tryz.underlying51 Tryz.sizeOf9 rfl (Qk hpl) rfl rfl rfl (by omega) (by omega) (by omega) (by omega)) ?_
 refine zon ?_
 refine Q0 ?_
 refine zu2 ?_
 refine zt rfl (Xx rfl rfl rfl (by omega)) ?_
 refine zon ?_
 refine Qd rfl ?_
 refine Q1 ?_
 refine zu1 ?_
 refine zt rfl (ZZ rfl rfl Tryz.underlying51 rfl rfl ⟨_,_,Qk hpl⟩) ?_
 refine zv1 ?_
 refine Q0 ?_
 refine Qb #[0,0,3,0,0,24,63,127] Tryz.mixed (by decide +kernel) (by decide +kernel) ?_
 refine zd2 ?_
 refine yP rfl rfl (XU _ _ rfl Tryz.underlying51 Tryz.sizeOf9 rfl (Qk hpl) (by first|exact ⟨_,rfl⟩|rfl) (by first|exact ⟨_,rfl⟩|rfl) (by omega) (by omega) (by omega) (by omega)) (trivial) ?_
 refine zd2 ?_
 refine yP rfl rfl (HF _ _ rfl Tryz.underlying51 Tryz.sizeOf9 rfl (Qk hpl) (by first|exact ⟨_,rfl⟩|rfl) (by first|exact ⟨_,rfl⟩|rfl) (by omega) (by omega) (by omega)) (trivial) ?_
 refine yE rfl rfl (Gn (z:=.nilIface) (sz:=1) (ds:=(rows.drop (i+1)).flatten) (yv:=.arr p (g+1) 1 (0+((i:Int)+1).toNat) ((rows.length:Int).toNat - ((i:Int)+1).toNat)) (m:=(rows.length:Int).toNat - ((i:Int)+1).toNat) rfl (.inr ⟨_,rfl⟩) Tryz.underlying51 Tryz.underlying51 Tryz.type9 rfl rfl (Qk hpl) (by decide) (by omega) rfl (Q05 (i:=i+1) (Qk hpl) hel (by omega) (by omega) (by omega)) (by rw [hDl];omega) (Jh _ hone) (by omega) (by rw [hcl3];omega)) (⟨.inl rfl,⟨.inl rfl,trivial⟩⟩) (trivial) ?_
 refine zd1 ?_
 refine RP.nil rfl ?_
 refine Q0 ?_
 have hEl:((rows.flatten++List.replicate ((cap - rows.length) * 1) AV.any).drop (i * 1+(rows.drop (i+1)).flatten.length)).length=rows.length * 1+(cap - rows.length) * 1 - (i * 1+(rows.length - (i+1)) * 1):=by rw [List.length_drop,hcl3,hDl]
 refine Qn (σ':=σ.set p (.arr 1 (g+1) ((rows.take i).flatten++((rows.drop (i+1)).flatten++((rows.flatten++List.replicate ((cap - rows.length) * 1) AV.any).drop (i * 1+(rows.drop (i+1)).flatten.length)))))) (by rw [List.set_set,hz0,FJ hel (by omega)]) ?_
 have hcl4:((rows.take i).flatten++((rows.drop (i+1)).flatten++((rows.flatten++List.replicate ((cap - rows.length) * 1) AV.any).drop (i * 1+(rows.drop (i+1)).flatten.length)))).length=i * 1+((rows.length - (i+1)) * 1+(rows.length * 1+(cap - rows.length) * 1 - (i * 1+(rows.length - (i+1)) * 1))):=by rw [List.length_append,List.length_append,hEl,hAl,hDl]
 refine Q4 ?_
 refine zg2 ?_
 refine zt rfl (ZZ rfl rfl Tryz.underlying51 rfl rfl ⟨_,_,Qk hpl⟩) ?_
 refine zg1 ?_
 refine zt rfl (HG _ _ rfl Tryz.underlying51 Tryz.sizeOf9 rfl (Qk hpl) (by first|exact ⟨_,rfl⟩|rfl) (by first|exact ⟨_,rfl⟩|rfl) (by omega) (by omega) (by omega) (by omega)) ?_
 refine ztN rfl rfl (FR (sz:=1) rfl rfl Tryz.underlying51 Tryz.zeroValue9 rfl (by decide) rfl (Qk hpl) (by omega) (by decide) (by rw [hcl4];omega)) ?_
 refine zon ?_
 refine zw2 ?_
 have hAD:((rows.take i).flatten++(rows.drop (i+1)).flatten).length=(rows.length - 1) * 1:=by rw [List.length_append,hAl,hDl];omega
 refine Zb 6 rfl (AVle.capA _ _ _ _ _ _) ?_ (by decide)
 rw [List.set_set]
 refine ZN 6 p (g+1) 1 _ (rows.take i++rows.drop (i+1)) rfl (Qk hpl) (by rw [List.flatten_append];exact (Wp hAD (by omega) (by omega)).symm) (Q6T hel) (by rw [Q3W hi];omega) (by decide) (Gg (by rw [Wp hAD (by omega) (by omega),hAD];omega)) ?_ (by decide)
 rw [List.set_set]
 refine zrt ?_
 exact Xj (x:=.dead) rfl hcl trivial (Q6U hlt _) (Q8 rfl)
end Lg
set_option maxRecDepth 20000
set_option maxHeartbeats 4000000
namespace Lg
open Go Go.Proofs Go.RowKit
variable [GLay]
theorem Q7c (c:List JT) (x:JT) (i k p:Nat) (X:AO) (σ l:List AO) (hk:l[k]? =some (.arr 1 0 (tcs c).flatten)) (hi:i≤c.length) (hc:c.length≤1000000):ACalls Tryz.prog 104 [.arr (σ.length+k) 0 1 0 c.length,.int .i64 (i:Int),.sl true 1 [[.pp (tc x)]]] (σ.set p X++l) (Ret (.sl false 1 (tcs (c.take i++x :: c.drop i))) (σ.set p X++l.set k .dead)):=by
  have h:=Qc6 (tcs c) [.pp (tc x)] i (σ.length+k) 0 (σ.set p X++l) (by rw [ZJ];exact hk) (Wb c) rfl (HW c) rfl (fun n=>G4 n c) (fun n=>⟨VU n x,trivial⟩) (by rw [X0];exact hi) (by rw [X0];exact hc)
  rw [X0,XN,QaP] at h;exact h
theorem Qc7 (c:List ByteArray) (x:ByteArray) (i k p:Nat) (X:AO) (σ l:List AO) (hk:l[k]? =some (.arr 1 0 (ZC c).flatten)) (hi:i≤c.length) (hc:c.length≤1000000):ACalls Tryz.prog 105 [.arr (σ.length+k) 0 1 0 c.length,.int .i64 (i:Int),.sl true 1 [[.str x]]] (σ.set p X++l) (Ret (.sl false 1 (ZC (c.take i++x :: c.drop i))) (σ.set p X++l.set k .dead)):=by
  have h:=Qc8 (ZC c) [.str x] i (σ.length+k) 0 (σ.set p X++l) (by rw [ZJ];exact hk) (JC c) rfl (Uo c) rfl (fun n=>Q0l n c) (fun n=>⟨trivial,trivial⟩) (by rw [ZD];exact hi) (by rw [ZD];exact hc)
  rw [ZD,XN,Q6I] at h;exact h
theorem QbS (c:List JT) (i k p:Nat) (X:AO) (σ l:List AO) (hk:l[k]? =some (.arr 1 0 (tcs c).flatten)) (hi:i < c.length) (hc:c.length≤1000000):ACalls Tryz.prog 107 [.arr (σ.length+k) 0 1 0 c.length,.int .i64 (i:Int),.int .i64 ((i:Int)+1)] (σ.set p X++l) (Ret (.sl false 1 (tcs (c.take i++c.drop (i+1)))) (σ.set p X++l.set k .dead)):=by
  have h:=QbT (tcs c) i (σ.length+k) 0 (σ.set p X++l) (by rw [ZJ];exact hk) (Wb c) (HW c) (fun n=>G4 n c) (by rw [X0];exact hi) (by rw [X0];exact hc)
  rw [X0,XN,QaO] at h;exact h
theorem QbU (c:List ByteArray) (i k p:Nat) (X:AO) (σ l:List AO) (hk:l[k]? =some (.arr 1 0 (ZC c).flatten)) (hi:i < c.length) (hc:c.length≤1000000):ACalls Tryz.prog 108 [.arr (σ.length+k) 0 1 0 c.length,.int .i64 (i:Int),.int .i64 ((i:Int)+1)] (σ.set p X++l) (Ret (.sl false 1 (ZC (c.take i++c.drop (i+1)))) (σ.set p X++l.set k .dead)):=by
  have h:=QbV (ZC c) i (σ.length+k) 0 (σ.set p X++l) (by rw [ZJ];exact hk) (JC c) (Uo c) (fun n=>Q0l n c) (by rw [ZD];exact hi) (by rw [ZD];exact hc)
  rw [ZD,XN,Q6H] at h;exact h
theorem QaG (nm:BL) (x:JT) (t:JT) (nx:Int) (p:Nat) (σ:List AO) (hw:TW t) (hs:Q6 (tv t)≤10000) (hσ:σ[p]? =some (.box [.int .i64 nx])) (hn0:0≤nx) (hn1:nx≤500000000000) (hnm:nm.length≤1000000):ACalls Tryz.prog 102 [.pp (tc t),.pp [.str (ba nm)],.pp [.ptr p 0],.pp [.pp (tc x)]] σ (Ret (.tup [trA (YB nm x t nx),KU (YB nm x t nx).2.2]) (σ.set p (.box [.int .i64 (YB nm x t nx).2.1]))):=by
 have hp:p < σ.length:=(List.getElem?_eq_some_iff.1 hσ).1
 have hsm:=Ud hw hs
 have hkl:=Qd4 (nm:=nm) hw true
 refine Qc Tryz.func102 rfl Tryz.ntmps102 (J5 Tryz.results102) (Nat.le_of_ble_eq_true rfl) (fun hcl hal=>?_)
 refine Qn (QO hσ) ?_
 refine zw2 ?_
 refine zu2 ?_
 refine zt rfl (zc rfl (GZ t nm true _ hw (by omega) (by omega) hnm)) ?_
 refine zv5 ?_
 refine Q0 ?_
 refine zsr ?_
 rw [G0 t]
 refine zg3 ?_
 refine zsp 18 rfl (fun h1=>?_) fun h1=>?_
 ·rw [h1];replace h1:=zcl h1
  have h1:tfo t nm true=false:=by simpa using h1
  refine zv7 ?_
  refine Q2 rfl (fun h2=>?_) (fun h2=>?_)
  ·(try rw [h2]);replace h2:=zcl h2
   refine zw3 ?_
   refine zrt ?_
   rw [QcY h1 h2,Q2x rfl]
   exact Xj (x:=.box [.int .i64 nx]) rfl hcl ⟨trivial,trivial⟩ ⟨trivial,Yq _ false,trivial⟩ (Q8 rfl)
  ·(try rw [h2]);replace h2:=zcl h2
   refine Q1 ?_
   refine Q0 ?_
   refine Qb #[0,0,2,6,15,31] Tryz.mixed (by decide +kernel) (by decide +kernel) ?_
   refine zp1 ?_
   refine zd2 ?_
   refine zp1 ?_
   refine yE rfl rfl (zc rfl (G0 t ▸ Wx t nx p σ hp ⟨by omega,by omega⟩ (by omega) (by omega))) (⟨.inl rfl,⟨.inl rfl,trivial⟩⟩) (trivial) ?_
   refine zd1 ?_
   refine RP.nil rfl ?_
   refine Q0 ?_
   refine Qa ?_
   refine zw7 ?_
   refine Q2 rfl (fun h3=>?_) (fun h3=>?_)
   ·(try rw [h3]);replace h3:=zcl h3
    omega
   ·(try rw [h3]);replace h3:=zcl h3
    refine zw2 ?_
    refine Q2 rfl (fun h4=>?_) (fun h4=>?_)
    ·(try rw [h4]);replace h4:=zcl h4
     rw [h1] at h4;cases h4
    ·(try rw [h4]);replace h4:=zcl h4
     refine Qb #[0,0,0,4,12,28,0,0,128,508,0,1024,3072,7168,0,0,32768,131068,262141,524285,1048573,2097151,4194303,8388607] Tryz.mixed (by decide +kernel) (by decide +kernel) ?_
     refine zd5 ?_
     refine zp1 ?_
     refine zd1 ?_
     refine zp1 ?_
     refine yA rfl rfl (fun _=>Ql [[_]] rfl Tryz.underlying51 Tryz.sizeOf9 Tryz.zeroValue9 rfl (by decide) (by decide) rfl rfl rfl rfl rfl) ?_
     refine yE rfl rfl (zc rfl (Qc7 t.ks (ba nm) (tfk t nm true) 1 p _ σ _ rfl (hkl.2 h2) (by omega))) (⟨.inl rfl,⟨.inl rfl,trivial⟩⟩) (trivial) ?_
     refine zd3 ?_
     refine yP rfl rfl (zoa) (⟨.inr zoa,trivial⟩) ?_
     refine zd1 ?_
     refine yP rfl rfl (zoa) (⟨.inr zoa,trivial⟩) ?_
     refine yA rfl rfl (fun _=>Ql [[_]] rfl Tryz.underlying55 Tryz.sizeOf34 Tryz.zeroValue34 rfl (by decide) (by decide) rfl rfl rfl rfl rfl) ?_
     refine yE rfl rfl (zc rfl (Q7c t.ch x (tfk t nm true) 2 p _ σ _ rfl hkl.1 (by omega))) (⟨.inl rfl,⟨.inl rfl,⟨.inl rfl,⟨.inl rfl,trivial⟩⟩⟩⟩) (⟨rfl,trivial⟩) ?_
     refine zd2 ?_
     refine yEN rfl rfl rfl (zoa) (⟨.inl rfl,⟨.inl rfl,⟨.inl rfl,⟨.inl rfl,trivial⟩⟩⟩⟩) (⟨rfl,⟨rfl,trivial⟩⟩) ?_
     refine zd2 ?_
     refine yEN rfl rfl rfl (zoa) (⟨.inl rfl,⟨.inl rfl,⟨.inl rfl,⟨.inl rfl,trivial⟩⟩⟩⟩) (⟨rfl,⟨rfl,⟨rfl,trivial⟩⟩⟩) ?_
     refine RP.nil rfl ?_
     refine Q0 ?_
     skip
     skip
     refine QT 9 0 rfl rfl ?_ (by decide)
     refine Q4 ?_
     refine zv3 ?_
     refine zrt ?_
     rw [QaJ h2 h1,G5]
     exact Zt (x:=.box [.int .i64 (nx+1)]) rfl hcl ⟨trivial,trivial⟩ ⟨by show AV.ltL _ [_,_,_,_,_,_,_,_,_,_,_];simp [AV.lt,AV.ltL],trivial,trivial⟩ (Q8 rfl)
 ·rw [h1];replace h1:=zcl h1
  have h1:tfo t nm true=true:=by simpa using h1
  refine zv7 ?_
  refine Qd rfl ?_
  refine Q1 ?_
  refine Q0 ?_
  refine Qb #[0,0,2,6,15,31] Tryz.mixed (by decide +kernel) (by decide +kernel) ?_
  refine zp1 ?_
  refine zd2 ?_
  refine zp1 ?_
  refine yE rfl rfl (zc rfl (G0 t ▸ Wx t nx p σ hp ⟨by omega,by omega⟩ (by omega) (by omega))) (⟨.inl rfl,⟨.inl rfl,trivial⟩⟩) (trivial) ?_
  refine zd1 ?_
  refine RP.nil rfl ?_
  refine Q0 ?_
  refine Qa ?_
  refine zw7 ?_
  refine Q2 rfl (fun h5=>?_) (fun h5=>?_)
  ·(try rw [h5]);replace h5:=zcl h5
   refine Qb #[0,0,2,6,14,0,0,64,254,511,1023,2047] Tryz.mixed (by decide +kernel) (by decide +kernel) ?_
   refine zd4 ?_
   refine zp1 ?_
   refine zd1 ?_
   refine zp1 ?_
   refine yA rfl rfl (fun _=>Ql [[_]] rfl Tryz.underlying55 Tryz.sizeOf34 Tryz.zeroValue34 rfl (by decide) (by decide) rfl rfl rfl rfl rfl) ?_
   refine yE rfl rfl (zc rfl (Q7c t.ch x (tfk t nm true) 2 p _ σ _ rfl hkl.1 (by omega))) (⟨.inl rfl,⟨.inl rfl,trivial⟩⟩) (trivial) ?_
   refine zd2 ?_
   refine yEN rfl rfl rfl (zoa) (⟨.inl rfl,⟨.inl rfl,trivial⟩⟩) (⟨rfl,trivial⟩) ?_
   refine RP.nil rfl ?_
   refine Q0 ?_
   skip
   refine Zj 0 9 1 0 1 0 t.ks.length rfl rfl rfl (ZC t.ks) (by rw [Nat.zero_mul,List.drop_zero,Nat.mul_one,List.take_of_length_le];rw [Yk];exact Nat.le_refl _) (JC _) (ZD _) (by decide) (by rw [Yk];omega) ?_
   refine QT 9 0 rfl rfl ?_ (by decide)
   refine Q4 ?_
   refine zv3 ?_
   refine zrt ?_
   rw [QcX h5 h1,G5]
   exact Zt (x:=.box [.int .i64 (nx+1)]) rfl hcl ⟨trivial,trivial⟩ ⟨by show AV.ltL _ [_,_,_,_,_,_,_,_,_,_,_];simp [AV.lt,AV.ltL],trivial,trivial⟩ (Q8 rfl)
  ·(try rw [h5]);replace h5:=zcl h5
   refine zw2 ?_
   refine Q2 rfl (fun h6=>?_) (fun h6=>?_)
   ·(try rw [h6]);replace h6:=zcl h6
    have hlt:=Q8U hw (show t.k=5 from Classical.byContradiction fun z=>by rw [HZ h5 z] at h1;cases h1) true h1
    refine Qb #[0,1,3,7,0,0,63,127] Tryz.mixed (by decide +kernel) (by decide +kernel) ?_
    refine zd3 ?_
    refine zp1 ?_
    refine zd1 ?_
    refine zp1 ?_
    refine yP rfl rfl (JU (p:=σ.length+2) rfl Tryz.underlying55 Tryz.sizeOf34 rfl rfl (by omega) (by omega) (by rw [ZJ];rfl)) (trivial) ?_
    refine yEN rfl rfl rfl (Gp (i:=(tfk t nm true)) rfl Tryz.sizeOf34 rfl rfl rfl rfl (by rw [Int.toNat_natCast,Nat.mul_one]) (by rw [ZJ];rfl) (by rw [Kl];omega)) (⟨.inl rfl,⟨.inl rfl,⟨.inl rfl,trivial⟩⟩⟩) (trivial) ?_
    rw [XN]
    refine RP.nil rfl ?_
    refine Q0 ?_
    refine Zj 0 10 2 0 1 0 t.ch.length rfl rfl rfl (tcs (t.ch.set ((tfk t nm true)) x)) (by rw [Q2v,Nat.zero_mul,List.drop_zero,Nat.mul_one,List.take_of_length_le];rw [Kl,List.length_set];exact Nat.le_refl _) (Wb _) (by rw [X0,List.length_set]) (by decide) (by rw [List.length_set,Kl];omega) ?_
    refine Zj 0 9 1 0 1 0 t.ks.length rfl rfl rfl (ZC t.ks) (by rw [Nat.zero_mul,List.drop_zero,Nat.mul_one,List.take_of_length_le];rw [Yk];exact Nat.le_refl _) (JC _) (ZD _) (by decide) (by rw [Yk];omega) ?_
    refine QT 9 0 rfl rfl ?_ (by decide)
    refine Q4 ?_
    refine zv3 ?_
    refine zrt ?_
    rw [QaK (Classical.byContradiction fun z=>by rw [HZ h5 z] at h1;cases h1) h1,G5]
    exact Zt (x:=.box [.int .i64 (nx+1)]) rfl hcl ⟨trivial,trivial⟩ ⟨by show AV.ltL _ [_,_,_,_,_,_,_,_,_,_,_];simp [AV.lt,AV.ltL],trivial,trivial⟩ (Q8 rfl)
   ·(try rw [h6]);replace h6:=zcl h6
    rw [h1] at h6;cases h6
end Lg
set_option maxRecDepth 20000
set_option maxHeartbeats 4000000
namespace Lg
open Go Go.Proofs Go.RowKit
variable [GLay]
theorem Q69 (σ:List AO):ACalls Tryz.prog 100 [.nils] σ (Ret .nils σ):=by
 refine Qc Tryz.func100 rfl Tryz.ntmps100 (XE Tryz.results100) (Nat.le_of_ble_eq_true rfl) (fun hcl hal=>?_)
 refine zw1 ?_
 refine Q0 ?_
 refine zu1 ?_
 refine zt rfl (FT rfl Tryz.underlying51 rfl) ?_
 refine zon ?_
 refine Qj rfl ?_
 refine zw1 ?_
 refine zrt ?_
 exact Qr rfl hcl trivial (Q8 rfl)

theorem Q5I (σ:List AO):ACalls Tryz.prog 101 [.nils] σ (Ret .nils σ):=by
 refine Qc Tryz.func101 rfl Tryz.ntmps101 (XE Tryz.results101) (Nat.le_of_ble_eq_true rfl) (fun hcl hal=>?_)
 refine zw1 ?_
 refine Q0 ?_
 refine zu1 ?_
 refine zt rfl (FT rfl Tryz.underlying55 rfl) ?_
 refine zon ?_
 refine Qj rfl ?_
 refine zw1 ?_
 refine zrt ?_
 exact Qr rfl hcl trivial (Q8 rfl)

theorem Q9v (k:Int) (b ng:Bool) (d s:ByteArray) (x i0 next:Int) (p:Nat) (σ:List AO) (hσ:σ[p]? =some (.box [.int .i64 next])) (hb:0≤next∧next≤1000000000000):ACalls Tryz.prog 57 [.ptr p 0,.agg [.int .i64 i0,.int .i64 k,.bool b,.bool ng,.str d,.int .i64 x,.str s,.nils,.nils,.nils,.nils]] σ (Ret (.ptr σ.length 0) (σ.set p (.box [.int .i64 (next+1)])++[.box [.int .i64 next,.int .i64 k,.bool b,.bool ng,.str d,.int .i64 x,.str s,.nils,.nils,.nils,.nils]])):=by
 have hp:p < σ.length:=(List.getElem?_eq_some_iff.1 hσ).1
 refine Qc Tryz.func57 rfl Tryz.ntmps57 (XE Tryz.results57) (Nat.le_of_ble_eq_true rfl) (fun hcl hal=>?_)
 refine Qn (QO hσ) ?_
 refine zw2 ?_
 refine zw6 ?_
 refine zw8 ?_
 refine Q0 ?_
 refine Qb #[0,1,3,0,8,31,63,127,255,511] Tryz.mixed (by decide +kernel) (by decide +kernel) ?_
 refine zd1 ?_
 refine zp1 ?_
 refine yP rfl rfl (zc rfl (Q69 _)) (trivial) ?_
 refine zd1 ?_
 refine zp1 ?_
 refine yP rfl rfl (zc rfl (Q5I _)) (trivial) ?_
 refine zd1 ?_
 refine yEN rfl rfl rfl (zoa) (⟨.inl rfl,⟨.inl rfl,⟨.inl rfl,⟨.inl rfl,trivial⟩⟩⟩⟩) (trivial) ?_
 refine zd1 ?_
 refine yEN rfl rfl rfl (zoa) (⟨.inl rfl,⟨.inl rfl,⟨.inl rfl,⟨.inl rfl,trivial⟩⟩⟩⟩) (⟨rfl,trivial⟩) ?_
 refine RP.nil rfl ?_
 refine zw1 ?_
 refine zrt ?_
 refine Yc (v:=.ptr (σ.length+0) 0) (σ.length+1) (by omega) rfl (Xu (x:=.box [.int .i64 (next+1)]) 1 hcl (by simp [AO.cells,AV.ltL,AV.lt]) (by simp [ownLt,AO.cells,AV.ltL,AV.lt])) (by simp [AV.lt]) ?_
 rw [Yo]
 exact ⟨rfl,rfl⟩
end Lg
set_option maxRecDepth 20000
set_option maxHeartbeats 4000000
namespace Lg
open Go Go.Proofs Go.RowKit
variable [GLay]
theorem FG (n:Nat):∀ (v:JV) (next:Int) (p:Nat) (σ:List AO),Q6 v≤n→jb v→σ[p]? =some (.box [.int .i64 next])→0≤next→next+Q6 v≤1000000000000→ACalls Tryz.prog 34 [.ptr p 0,.agg (Qf v)] σ (Ret (.pp (Y3 v next)) (σ.set p (.box [.int .i64 (next+Q6 v)]))):=by
 induction n with
 |zero=>intro v next p σ h;have:=Qi v;omega
 |succ n ih=>
 intro v next p σ hn hjb hσ h0 hbd
 have hvs:=Zs v
 have hv1:=Qi v
 have hl0:=Ze v.l
 have hm0:=Zh v.m
 obtain ⟨hb1,hb2,hb3,hb4,hb5,hb6⟩:=(Zy v).1 hjb
 have hp:p < σ.length:=(List.getElem?_eq_some_iff.1 hσ).1
 refine Qc Tryz.func34 rfl Tryz.ntmps34 (XE Tryz.results34) (Nat.le_of_ble_eq_true rfl) (fun hcl hal=>?_)
 rw [Q3 v]
 refine Qn (QO hσ) ?_
 refine zw2 ?_
 refine zw3 ?_
 refine zw4 ?_
 refine zu3 ?_
 refine zt rfl (zc rfl (QbO rfl hp (Q9v _ _ _ _ _ _ _ next p _ (Qt hp) ⟨by omega,by omega⟩))) ?_
 refine zv1 ?_
 refine Q0 ?_
 refine Q0 ?_
 refine Kp 2 9 1 3 rfl rfl rfl ?_
 refine Kp 2 10 1 4 rfl rfl rfl ?_
 refine Q4 ?_
 refine zv4 ?_
 refine Qa ?_
 rw [show next+1=next+1+Qm (v.l.take 0) by simp [Qm]]
 refine Qs (ι:=Nat) (fun i=>i≤v.l.length) (fun i=>⟨[],[(0,.ptr p 0),(3,.ptr (σ.length+0) 0),(6,.ptr (σ.length+2) 0),(19,.sl false 8 (Q7 v.l)),(20,.int .i64 (v.l.length:Int)),(21,.int .i64 (i:Int))]⟩) (fun i=>σ.set p (.box [.int .i64 (next+1+Qm (v.l.take i))])++[.box [.int .i64 v.kind,.bool v.b,.bool v.n.neg,.str v.n.digits,.int .i64 v.n.exp,.str v.s,.sl false 8 (Q7 v.l),.sl false 9 (Q5 v.m)],.box [.int .i64 v.kind,.bool v.b,.bool v.n.neg,.str v.n.digits,.int .i64 v.n.exp,.str v.s,.nils,.nils],.box [.int .i64 next,.int .i64 v.kind,.bool v.b,.bool v.n.neg,.str v.n.digits,.int .i64 v.n.exp,.str v.s,.nils,.nils,.arr (σ.length+3) 0 1 0 0,.arr (σ.length+4) i 1 0 i],.arr 1 0 [],.arr 1 i (tL (v.l.take i) (next+1)).flatten]) (fun i=>v.l.length - i) (0) (Nat.zero_le _) ?_ rfl (fun i hi=>?_)
 ·refine ⟨rfl,rfl,rfl,rfl,rfl,?_,rfl,trivial⟩
  rw [← QG];rfl
 have hlt0:=ZA v.l i
 have hlnn:=Ze (v.l.take i)
 refine zw1 ?_
 refine Q0 ?_
 refine Q2 rfl (fun h1=>?_) (fun h1=>?_)
 ·(try rw [h1]);replace h1:=zcl h1
  obtain ⟨x,hx⟩:∃ x,v.l[i]? =some x:=⟨_,List.getElem?_eq_getElem (show i < v.l.length by omega)⟩
  have hxs:=YF v.l i x hx
  have hxm:=ZG hx
  have hx1:=Qi x
  have hlt:=ZA v.l (i+1)
  refine Q1 ?_
  refine Q0 ?_
  refine Qa ?_
  refine zu1 ?_
  rw [Q3 x]
  refine zv3 ?_
  refine Qb #[0,0,2,6,14,0,0,96,224,510,1023,2047,4095] Tryz.mixed (by decide +kernel) (by decide +kernel) ?_
  refine zd4 ?_
  refine zp1 ?_
  refine zd1 ?_
  refine zp1 ?_
  refine yE rfl rfl (zc rfl (Z6 hp (Q3 x ▸ ih x _ p _ (by omega) (Ys hb5 hx) (Qt hp) (by omega) (by omega)))) (⟨.inl rfl,⟨.inr (ZS rfl Tryz.isAgg55 (Jq rfl rfl)),trivial⟩⟩) (trivial) ?_
  refine yA rfl rfl (fun _=>Ql [[_]] rfl Tryz.underlying55 Tryz.sizeOf34 Tryz.zeroValue34 rfl (by decide) (by decide) rfl rfl rfl rfl rfl) ?_
  refine yE rfl rfl (Qv YM 4 (sz:=1) (m:=1) (len:=i) (cs:=[.pp (Y3 x (next+1+Qm (v.l.take i)))]) rfl (.inr ⟨_,rfl⟩) Tryz.underlying55 Tryz.underlying55 Tryz.type34 rfl rfl rfl (by decide) rfl rfl (by rw [GY,List.length_take];omega) rfl rfl rfl (by show (i+1) * 8≤_;omega) (by omega) rfl) (⟨.inl rfl,⟨.inl rfl,trivial⟩⟩) (⟨rfl,trivial⟩) ?_
  refine zd2 ?_
  refine yEN rfl rfl rfl (Yg (r:=[.int .i64 next,.int .i64 v.kind,.bool v.b,.bool v.n.neg,.str v.n.digits,.int .i64 v.n.exp,.str v.s,.nils,.nils,.arr (σ.length+3) 0 1 0 0,.arr (σ.length+4) (i+1) 1 0 (i+1)]) rfl Tryz.sizeOf55 rfl rfl rfl rfl rfl (by decide)) (⟨.inl rfl,⟨.inl rfl,trivial⟩⟩) (⟨rfl,⟨rfl,trivial⟩⟩) ?_
  refine RP.nil rfl ?_
  refine Q4 ?_
  refine zv2 ?_
  refine ⟨i+1,σ.length+5,by omega,by omega,by simp,⟨rfl,rfl,rfl,rfl,rfl,rfl,rfl,trivial⟩,Xu (x:=.box [.int .i64 (next+1+Qm (v.l.take i)+Q6 x)]) 5 hcl (by simp [AO.cells,AV.ltL,AV.lt]) ?_,?_,?_⟩
  ·simp [ownLt,AO.cells,AV.ltL,AV.lt,Qx,Z0,Vu,AV.ltLL]
  ·simp [ltE,AV.lt];omega
  ·rw [hxs,←Int.add_assoc,QV hx,Q4Q,List.flatten_append];exact Yo 5
 ·(try rw [h1]);replace h1:=zcl h1
  refine Qg ?_
  refine Q0 ?_
  refine zw4 ?_
  refine Qa ?_
  have hie0:i=v.l.length:=by omega
  subst hie0
  rw [List.take_length]
  rw [show next+1+Qm v.l=next+1+Qm v.l+Qw (v.m.take 0) by simp [Qw]]
  rw [show (tL v.l (next+1)).flatten=(tL v.l (next+1)++tM (v.m.take 0) (next+1+Qm v.l)).flatten by simp [tM]]
  refine Qs (ι:=Nat) (fun j=>j≤v.m.length) (fun j=>⟨[],[(0,.ptr p 0),(3,.ptr (σ.length+0) 0),(6,.ptr (σ.length+2) 0),(39,.sl false 9 (Q5 v.m)),(40,.int .i64 (v.m.length:Int)),(41,.int .i64 (j:Int))]⟩) (fun j=>σ.set p (.box [.int .i64 (next+1+Qm v.l+Qw (v.m.take j))])++[.box [.int .i64 v.kind,.bool v.b,.bool v.n.neg,.str v.n.digits,.int .i64 v.n.exp,.str v.s,.sl false 8 (Q7 v.l),.sl false 9 (Q5 v.m)],.box [.int .i64 v.kind,.bool v.b,.bool v.n.neg,.str v.n.digits,.int .i64 v.n.exp,.str v.s,.nils,.nils],.box [.int .i64 next,.int .i64 v.kind,.bool v.b,.bool v.n.neg,.str v.n.digits,.int .i64 v.n.exp,.str v.s,.nils,.nils,.arr (σ.length+3) j 1 0 j,.arr (σ.length+4) (v.l.length+j) 1 0 (v.l.length+j)],.arr 1 j (JQ (v.m.take j)).flatten,.arr 1 (v.l.length+j) (tL v.l (next+1)++tM (v.m.take j) (next+1+Qm v.l)).flatten]) (fun j=>v.m.length - j) (0) (Nat.zero_le _) ?_ rfl (fun j hj=>?_)
  ·refine ⟨rfl,rfl,rfl,rfl,rfl,?_,rfl,trivial⟩
   rw [← QK];rfl
  have hlt0:=Y8 v.m j
  have hlnn:=Zh (v.m.take j)
  refine zw1 ?_
  refine Q0 ?_
  refine Q2 rfl (fun h2=>?_) (fun h2=>?_)
  ·(try rw [h2]);replace h2:=zcl h2
   obtain ⟨q,hq⟩:∃ q,v.m[j]? =some q:=⟨_,List.getElem?_eq_getElem (show j < v.m.length by omega)⟩
   have hxs:=KB v.m j q hq
   have hxm:=XS hq
   have hx1:=Qi q.2
   have hlt:=Y8 v.m (j+1)
   refine Q1 ?_
   refine Q0 ?_
   refine Qa ?_
   refine zu1 ?_
   rw [Q3 q.2]
   refine zv3 ?_
   refine Q0 ?_
   refine Qb #[0,0,2,6,14,0,32,96,254,511,1023,2047] Tryz.mixed (by decide +kernel) (by decide +kernel) ?_
   refine zd4 ?_
   refine zp1 ?_
   refine zd1 ?_
   refine zp1 ?_
   refine yA rfl rfl (fun _=>Ql [[_]] rfl Tryz.underlying51 Tryz.sizeOf9 Tryz.zeroValue9 rfl (by decide) (by decide) rfl rfl rfl rfl rfl) ?_
   refine yE rfl rfl (Qv YM 3 (sz:=1) (m:=1) (len:=j) (cs:=[.str q.1]) rfl (.inr ⟨_,rfl⟩) Tryz.underlying51 Tryz.underlying51 Tryz.type9 rfl rfl rfl (by decide) rfl rfl (by rw [Uw,List.length_take];omega) rfl rfl rfl (by show (j+1) * 16≤_;omega) (by omega) rfl) (⟨.inl rfl,⟨.inl rfl,trivial⟩⟩) (trivial) ?_
   refine zd2 ?_
   refine yEN rfl rfl rfl (Yg (r:=[.int .i64 next,.int .i64 v.kind,.bool v.b,.bool v.n.neg,.str v.n.digits,.int .i64 v.n.exp,.str v.s,.nils,.nils,.arr (σ.length+3) (j+1) 1 0 (j+1),.arr (σ.length+4) (v.l.length+j) 1 0 (v.l.length+j)]) rfl Tryz.sizeOf51 rfl rfl rfl rfl rfl (by decide)) (⟨.inl rfl,⟨.inl rfl,trivial⟩⟩) (⟨rfl,trivial⟩) ?_
   refine RP.nil rfl ?_
   refine Qb #[0,0,2,6,14,0,0,64,224,480,1022,2047,4095,8191] Tryz.mixed (by decide +kernel) (by decide +kernel) ?_
   refine zd4 ?_
   refine zp1 ?_
   refine zd2 ?_
   refine zp1 ?_
   refine yE rfl rfl (zc rfl (Z6 hp (Q3 q.2 ▸ ih q.2 _ p _ (by omega) (JR hb6 hq).2 (Qt hp) (by omega) (by omega)))) (⟨.inl rfl,⟨.inr (ZS rfl Tryz.isAgg55 (Jq rfl rfl)),trivial⟩⟩) (trivial) ?_
   refine yA rfl rfl (fun _=>Ql [[_]] rfl Tryz.underlying55 Tryz.sizeOf34 Tryz.zeroValue34 rfl (by decide) (by decide) rfl rfl rfl rfl rfl) ?_
   refine yE rfl rfl (Qv YM 4 (sz:=1) (m:=1) (len:=(v.l.length+j)) (cs:=[.pp (Y3 q.2 (next+1+Qm v.l+Qw (v.m.take j)))]) rfl (.inr ⟨_,rfl⟩) Tryz.underlying55 Tryz.underlying55 Tryz.type34 rfl rfl rfl (by decide) rfl rfl (by rw [List.flatten_append,List.length_append,GY,Q1h,List.length_take];omega) rfl rfl rfl (by show ((v.l.length+j)+1) * 8≤_;omega) (by omega) rfl) (⟨.inl rfl,⟨.inl rfl,trivial⟩⟩) (⟨rfl,trivial⟩) ?_
   refine zd2 ?_
   refine yEN rfl rfl rfl (Yg (r:=[.int .i64 next,.int .i64 v.kind,.bool v.b,.bool v.n.neg,.str v.n.digits,.int .i64 v.n.exp,.str v.s,.nils,.nils,.arr (σ.length+3) (j+1) 1 0 (j+1),.arr (σ.length+4) (v.l.length+j+1) 1 0 (v.l.length+j+1)]) rfl Tryz.sizeOf55 rfl rfl rfl rfl rfl (by decide)) (⟨.inl rfl,⟨.inl rfl,trivial⟩⟩) (⟨rfl,⟨rfl,trivial⟩⟩) ?_
   refine RP.nil rfl ?_
   refine Q4 ?_
   refine zv2 ?_
   refine ⟨j+1,σ.length+5,by omega,by omega,by simp,⟨rfl,rfl,rfl,rfl,rfl,rfl,rfl,trivial⟩,Xu (x:=.box [.int .i64 (next+1+Qm v.l+Qw (v.m.take j)+Q6 q.2)]) 5 hcl (by simp [AO.cells,AV.ltL,AV.lt]) ?_,?_,?_⟩
   ·simp [ownLt,AO.cells,AV.ltL,AV.lt,Qx,Z0,Vu,AV.ltLL]
   ·simp [ltE,AV.lt];omega
   ·rw [hxs,←Int.add_assoc,QV hq,Q4R,Q5z,Q5q];exact Yo 5
  ·(try rw [h2]);replace h2:=zcl h2
   refine Qg ?_
   refine Q0 ?_
   have hie:j=v.m.length:=by omega
   subst hie
   rw [List.take_length]
   refine Zj 2 10 4 (v.l.length+v.m.length) 1 0 (v.l.length+v.m.length) rfl rfl rfl (tL v.l (next+1)++tM v.m (next+1+Qm v.l)) (by rw [Nat.zero_mul,List.drop_zero,Nat.mul_one,List.take_of_length_le];rw [List.flatten_append,List.length_append,GY,Q1h];exact Nat.le_refl _) (fun r hr=>(List.mem_append.1 hr).elim (Qe4 _ _ r) (Qe5 _ _ r)) (by rw [List.length_append,Q3H,Q8K]) (by decide) (by rw [List.flatten_append,List.length_append,GY,Q1h];omega) ?_
   refine Zj 2 9 3 v.m.length 1 0 v.m.length rfl rfl rfl (JQ v.m) (by rw [Nat.zero_mul,List.drop_zero,Nat.mul_one,List.take_of_length_le];rw [Uw];exact Nat.le_refl _) (Q9I _) (Q7t _) (by decide) (by rw [Uw];omega) ?_
   refine QT 6 2 rfl rfl ?_ (by decide)
   refine Q4 ?_
   refine zv2 ?_
   refine zrt ?_
   rw [Q09,hvs,show next+(1+Qm v.l+Qw v.m)=next+1+Qm v.l+Qw v.m by omega]
   exact Zt rfl hcl (by simp [AO.cells,AV.ltL,AV.lt]) (by show AV.ltL σ.length [_,_,_,_,_,_,_,_,_,_,_];simp [AV.lt,AV.ltL,AV.ltLL,Q7y]) ⟨rfl,rfl⟩
end Lg
set_option maxRecDepth 20000
set_option maxHeartbeats 4000000
namespace Lg
open Go Go.Proofs Go.RowKit
variable [GLay]
theorem QaT (nm:BL) (t:JT) (nx:Int) (p:Nat) (σ:List AO) (hw:TW t) (hs:Q6 (tv t)≤10000) (hσ:σ[p]? =some (.box [.int .i64 nx])) (hn0:0≤nx) (hn1:nx≤500000000000) (hnm:nm.length≤1000000):ACalls Tryz.prog 106 [.pp (tc t),.pp [.str (ba nm)],.pp [.ptr p 0]] σ (Ret (.tup [trA (XJ nm t nx),KU (XJ nm t nx).2.2]) (σ.set p (.box [.int .i64 (XJ nm t nx).2.1]))):=by
 have hp:p < σ.length:=(List.getElem?_eq_some_iff.1 hσ).1
 have hsm:=Ud hw hs
 refine Qc Tryz.func106 rfl Tryz.ntmps106 (J5 Tryz.results106) (Nat.le_of_ble_eq_true rfl) (fun hcl hal=>?_)
 refine Qn (QO hσ) ?_
 refine zw2 ?_
 refine zu2 ?_
 refine zt rfl (zc rfl (GZ t nm false _ hw (by omega) (by omega) hnm)) ?_
 refine zv5 ?_
 refine Q0 ?_
 refine zsr ?_
 rw [G0 t]
 refine zv2 ?_
 refine Q2 rfl (fun h1=>?_) (fun h1=>?_)
 ·(try rw [h1]);replace h1:=zcl h1
  have h1:tfo t nm false=false:=by simpa using h1
  refine zw3 ?_
  refine zrt ?_
  rw [Qdd h1,Q2x rfl]
  exact Xj (x:=.box [.int .i64 nx]) rfl hcl ⟨trivial,trivial⟩ ⟨trivial,Yq _ false,trivial⟩ (Q8 rfl)
 ·(try rw [h1]);replace h1:=zcl h1
  have h1:tfo t nm false=true:=by simpa using h1
  obtain ⟨x,hx⟩:=HX hw h1
  have hlt:=(List.getElem?_eq_some_iff.1 hx).1
  refine Q1 ?_
  refine Q0 ?_
  refine Qb #[0,0,2,6,15,31] Tryz.mixed (by decide +kernel) (by decide +kernel) ?_
  refine zp1 ?_
  refine zd2 ?_
  refine zp1 ?_
  refine yE rfl rfl (zc rfl (G0 t ▸ Wx t nx p σ hp ⟨by omega,by omega⟩ (by omega) (by omega))) (⟨.inl rfl,⟨.inl rfl,trivial⟩⟩) (trivial) ?_
  refine zd1 ?_
  refine RP.nil rfl ?_
  refine zu8 ?_
  refine zt rfl (zc rfl (QbS t.ch (tfk t nm false) 2 p _ σ _ rfl hlt (by omega))) ?_
  refine zv3 ?_
  refine Q0 ?_
  refine zw6 ?_
  refine Q2 rfl (fun h2=>?_) (fun h2=>?_)
  ·(try rw [h2]);replace h2:=zcl h2
   refine Q4 ?_
   refine zg8 ?_
   refine zt rfl (zc rfl (QbU t.ks (tfk t nm false) 1 p _ σ _ rfl (Q8U hw h2 false h1).2 (by omega))) ?_
   refine zv3 ?_
   refine Q0 ?_
   skip
   refine QT 8 0 rfl rfl ?_ (by decide)
   refine Q4 ?_
   refine zv3 ?_
   refine zrt ?_
   rw [Qdc h2 h1,G5]
   exact Zt (x:=.box [.int .i64 (nx+1)]) rfl hcl ⟨trivial,trivial⟩ ⟨by show AV.ltL _ [_,_,_,_,_,_,_,_,_,_,_];simp [AV.lt,AV.ltL],trivial,trivial⟩ (Q8 rfl)
  ·(try rw [h2]);replace h2:=zcl h2
   refine Q1 ?_
   refine Q0 ?_
   refine Zj 0 9 1 0 1 0 t.ks.length rfl rfl rfl (ZC t.ks) (by rw [Nat.zero_mul,List.drop_zero,Nat.mul_one,List.take_of_length_le];rw [Yk];exact Nat.le_refl _) (JC _) (ZD _) (by decide) (by rw [Yk];omega) ?_
   refine QT 8 0 rfl rfl ?_ (by decide)
   refine Q4 ?_
   refine zv3 ?_
   refine zrt ?_
   rw [Qdb h2 h1,G5]
   exact Zt (x:=.box [.int .i64 (nx+1)]) rfl hcl ⟨trivial,trivial⟩ ⟨by show AV.ltL _ [_,_,_,_,_,_,_,_,_,_,_];simp [AV.lt,AV.ltL],trivial,trivial⟩ (Q8 rfl)

theorem Q3R (v:JV) (nx:Int) (p:Nat) (σ:List AO) (cs:List AV) (hc:Qf v=cs) (hjb:jb v) (hσ:σ[p]? =some (.box [.int .i64 nx])) (h0:0≤nx) (h1:nx+Q6 v≤1000000000000):ACalls Tryz.prog 34 [.ptr p 0,.agg cs] σ (Ret (.pp (tc (tj v nx))) (σ.set p (.box [.int .i64 (nx+Q6 v)]))):=by
  subst hc
  rw [← VG]
  exact FG (Q6 v).toNat v nx p σ (by have:=Qi v;omega) hjb hσ h0 h1
theorem Qd2 (o:JOp) (os:List AV) (hos:XM o=os) (hob:OPB o) (t:JT) (nx:Int) (p:Nat) (σ:List AO) (hw:TW t) (hs:Q6 (tv t)≤10000) (hσ:σ[p]? =some (.box [.int .i64 nx])) (hn0:0≤nx) (hn1:nx≤500000000000):ACalls Tryz.prog 61 [.pp (tc t),.pp [.ptr p 0],.pp os] σ (Ret (.tup [.pp (tc (tj o.v nx)),.nili]) (σ.set p (.box [.int .i64 (nx+Q6 o.v)]))):=by
 have hp:p < σ.length:=(List.getElem?_eq_some_iff.1 hσ).1
 have hsz:=hob.sz
 refine Qc Tryz.func61 rfl Tryz.ntmps61 (J5 Tryz.results61) (Nat.le_of_ble_eq_true rfl) (fun hcl hal=>?_)
 subst hos
 rw [QP o]
 refine Qn (QO hσ) ?_
 refine zw2 ?_
 refine zu3 ?_
 refine zt rfl (zc rfl (Ge (Q3R o.v nx p _ _ (Q3 o.v) hob.jb (Qk hp) hn0 (by omega)))) ?_
 refine zv2 ?_
 refine zrt ?_
 exact Xj (x:=.box [.int .i64 (nx+Q6 o.v)]) rfl hcl ⟨trivial,trivial⟩ ⟨VU _ _,trivial,trivial⟩ (Q8 rfl)
end Lg
set_option maxRecDepth 20000
set_option maxHeartbeats 4000000
namespace Lg
open Go Go.Proofs Go.RowKit
variable [GLay]
theorem H2 (p kf:Nat) (fn:Go.Func) (caps:List AV) (hfn:Tryz.prog.funcs[kf]? =some fn) (hname:(fn.name == "runtime.NumGoroutine")=false) (hbd:fn.body.isNone=false) (g:JT→Int→TR) (c:Int) (hc0:0≤c) (hc1:c≤100000000) (hcb:Cb g c) (hf:∀ (t:JT) (nx:Int) (τ:List AO),TW t→Q6 (tv t)≤10000→τ[p]? =some (.box [.int .i64 nx])→0≤nx→nx≤500000000000→ACalls Tryz.prog kf ([.pp (tc t)]++caps) τ (Ret (.tup [trA (g t nx),KU (g t nx).2.2]) (τ.set p (.box [.int .i64 (g t nx).2.1])))):∀ (l:List BL) (f:Bool) (t:JT) (nx:Int) (es:List (List AV)) (σ:List AO),(∀ nm∈l,nm.length≤1000000)→l.length≤2000000→TW t→Q6 (tv t)≤10000→es=Qy l→σ[p]? =some (.box [.int .i64 nx])→0≤nx→nx≤500000000000→ACalls Tryz.prog 60 [.ptr p 0,.pp (tc t),.sl f 1 es,.func (.func kf) [] caps] σ (Ret (.tup [trA (twi g l t nx),KU (twi g l t nx).2.2]) (σ.set p (.box [.int .i64 (twi g l t nx).2.1])))
  |[],f,t,nx,es,σ,_,_,hw,hs,he,hσ,h0,h1=>by subst he;exact QaY p kf fn caps hfn hname hbd g c hc0 hc1 hcb hf f t nx σ hw hs hσ h0 h1
  |nm :: r,f,t,nx,es,σ,hl,hll,hw,hs,he,hσ,h0,h1=>by
    subst he
    rw [List.length_cons] at hll
    exact QaZ p kf fn caps hfn hname hbd g c hc0 hc1 hcb hf r (fun t nx es σ hw hs he hσ h0 h1=>H2 p kf fn caps hfn hname hbd g c hc0 hc1 hcb hf r false t nx es σ (fun n hn=>hl n (List.mem_cons_of_mem _ hn)) (by omega) hw hs he hσ h0 h1) f nm t nx σ hw hs hσ h0 h1 (hl nm (List.mem_cons_self ..)) (by omega)
theorem Q08 (l:List BL) (nm:BL):(Qy (l++[nm])).length=l.length+1:=by simp [Qy]
theorem Q07 (l:List BL) (nm:BL):(Qy (l++[nm]))[l.length]? =some [.str (ba nm)]:=by simp [Qy]
theorem Q06 {l:List BL} {nm:BL} {k:Nat} (h:k=l.length):((Qy (l++[nm])).drop 0).take k=Qy l:=by subst h;simp [Qy]
theorem QaH (x:JT) (f:Bool) (t:JT) (nx:Int) (p:Nat) (σ:List AO) (hw:TW t) (hs:Q6 (tv t)≤10000) (hσ:σ[p]? =some (.box [.int .i64 nx])) (hn0:0≤nx) (hn1:nx≤500000000000):ACalls Tryz.prog 58 [.ptr p 0,.pp (tc t),.sl f 1 (Qy []),.pp (tc x)] σ (Ret (.tup [.pp (tc x),.nili]) (σ.set p (.box [.int .i64 nx]))):=by
 have hp:p < σ.length:=(List.getElem?_eq_some_iff.1 hσ).1
 refine Qc Tryz.func58 rfl Tryz.ntmps58 (J5 Tryz.results58) (Nat.le_of_ble_eq_true rfl) (fun hcl hal=>?_)
 refine Qn (QO hσ) ?_
 refine zw4 ?_
 refine Q0 ?_
 refine zu2 ?_
 refine zt rfl (JI rfl rfl rfl rfl) ?_
 refine zon ?_
 refine Qj rfl ?_
 refine zw3 ?_
 refine zrt ?_
 exact Zt (x:=.box [.int .i64 nx]) rfl hcl ⟨trivial,trivial⟩ ⟨VU _ _,trivial,trivial⟩ (Q8 rfl)

theorem QaI (x:JT) (l:List BL) (nm:BL) (hl:∀ n∈l,n.length≤1000000) (hll1:l.length≤2000000) (hnm:nm.length≤1000000) (f:Bool) (t:JT) (nx:Int) (p:Nat) (σ:List AO) (hw:TW t) (hs:Q6 (tv t)≤10000) (hσ:σ[p]? =some (.box [.int .i64 nx])) (hn0:0≤nx) (hn1:nx≤500000000000):ACalls Tryz.prog 58 [.ptr p 0,.pp (tc t),.sl f 1 (Qy (l++[nm])),.pp (tc x)] σ (Ret (.tup [trA (twi (YB nm x) l t nx),KU (twi (YB nm x) l t nx).2.2]) (σ.set p (.box [.int .i64 (twi (YB nm x) l t nx).2.1]))):=by
 have hp:p < σ.length:=(List.getElem?_eq_some_iff.1 hσ).1
 have hsl:=Q08 l nm
 refine Qc Tryz.func58 rfl Tryz.ntmps58 (J5 Tryz.results58) (Nat.le_of_ble_eq_true rfl) (fun hcl hal=>?_)
 refine Qn (QO hσ) ?_
 refine zw4 ?_
 refine Q0 ?_
 refine zu2 ?_
 refine zt rfl (Xx rfl rfl rfl (by omega)) ?_
 refine zon ?_
 refine Qd rfl ?_
 refine Q1 ?_
 refine zu4 ?_
 refine zt rfl (Qe rfl Tryz.underlying51 Tryz.sizeOf9 rfl rfl (by omega) ((by rw [hsl,show ((((l.length+1:Nat):Int) - 1).toNat)=l.length by omega];exact Q07 l nm))) ?_
 refine zv3 ?_
 refine Q0 ?_
 refine QT 10 2 rfl rfl ?_ (by decide)
 refine QT 7 1 rfl rfl ?_ (by decide)
 refine QT 4 0 rfl rfl ?_ (by decide)
 refine Qb #[0,0,0,0,8,24,60,0,255,511,511,2047,4095] Tryz.mixed (by decide +kernel) (by decide +kernel) ?_
 refine zp1 ?_
 refine zd5 ?_
 refine yA rfl rfl (fun _=>(by first|exact ZT _ _ rfl Tryz.underlying51 Tryz.sizeOf9 rfl (by first|exact ⟨_,rfl⟩|rfl) (by first|exact ⟨_,rfl⟩|rfl) (by omega) (by omega) (by omega)|exact QC _ _ rfl Tryz.underlying51 Tryz.sizeOf9 rfl GET (by first|exact ⟨_,rfl⟩|rfl) (by first|exact ⟨_,rfl⟩|rfl) (by omega) (by omega) (by omega))) ?_
 refine zd1 ?_
 refine yE rfl rfl (zc rfl (Z6 hp (H2 p 102 _ [.pp [.str (ba nm)],.pp [.ptr p 0],.pp [.pp (tc x)]] Tryz.func102 rfl rfl (YB nm x) 1 (by decide) (by decide) (Q1i nm x) (fun t nx τ hw hs hσ h0 h1=>QaG nm x t nx p τ hw hs hσ h0 h1 hnm) l _ t nx _ _ hl (by omega) hw hs (Q06 (by omega)) (Qt hp) hn0 hn1))) (⟨.inl rfl,trivial⟩) (trivial) ?_
 refine zd4 ?_
 refine RP.nil rfl ?_
 refine zrt ?_
 exact Zt (x:=.box [.int .i64 (twi (YB nm x) l t nx).2.1]) rfl hcl ⟨trivial,trivial⟩ ⟨Vn _ _,Yq _ _,trivial⟩ (Q8 rfl)

theorem QaU (f:Bool) (t:JT) (nx:Int) (p:Nat) (σ:List AO) (hw:TW t) (hs:Q6 (tv t)≤10000) (hσ:σ[p]? =some (.box [.int .i64 nx])) (hn0:0≤nx) (hn1:nx≤500000000000):ACalls Tryz.prog 59 [.ptr p 0,.pp (tc t),.sl f 1 (Qy [])] σ (Ret (.tup [.nilp,KT 7]) (σ.set p (.box [.int .i64 nx]))):=by
 have hp:p < σ.length:=(List.getElem?_eq_some_iff.1 hσ).1
 refine Qc Tryz.func59 rfl Tryz.ntmps59 (J5 Tryz.results59) (Nat.le_of_ble_eq_true rfl) (fun hcl hal=>?_)
 refine Qn (QO hσ) ?_
 refine zw3 ?_
 refine Q0 ?_
 refine zu2 ?_
 refine zt rfl (JI rfl rfl rfl rfl) ?_
 refine zon ?_
 refine Qj rfl ?_
 refine zw3 ?_
 refine zrt ?_
 exact Zt (x:=.box [.int .i64 nx]) rfl hcl ⟨trivial,trivial⟩ ⟨trivial,YL _ 7,trivial⟩ (Q8 rfl)

theorem QaV (l:List BL) (nm:BL) (hl:∀ n∈l,n.length≤1000000) (hll1:l.length≤2000000) (hnm:nm.length≤1000000) (f:Bool) (t:JT) (nx:Int) (p:Nat) (σ:List AO) (hw:TW t) (hs:Q6 (tv t)≤10000) (hσ:σ[p]? =some (.box [.int .i64 nx])) (hn0:0≤nx) (hn1:nx≤500000000000):ACalls Tryz.prog 59 [.ptr p 0,.pp (tc t),.sl f 1 (Qy (l++[nm]))] σ (Ret (.tup [trA (twi (XJ nm) l t nx),KU (twi (XJ nm) l t nx).2.2]) (σ.set p (.box [.int .i64 (twi (XJ nm) l t nx).2.1]))):=by
 have hp:p < σ.length:=(List.getElem?_eq_some_iff.1 hσ).1
 have hsl:=Q08 l nm
 refine Qc Tryz.func59 rfl Tryz.ntmps59 (J5 Tryz.results59) (Nat.le_of_ble_eq_true rfl) (fun hcl hal=>?_)
 refine Qn (QO hσ) ?_
 refine zw3 ?_
 refine Q0 ?_
 refine zu2 ?_
 refine zt rfl (Xx rfl rfl rfl (by omega)) ?_
 refine zon ?_
 refine Qd rfl ?_
 refine Q1 ?_
 refine zu4 ?_
 refine zt rfl (Qe rfl Tryz.underlying51 Tryz.sizeOf9 rfl rfl (by omega) ((by rw [hsl,show ((((l.length+1:Nat):Int) - 1).toNat)=l.length by omega];exact Q07 l nm))) ?_
 refine zv3 ?_
 refine Q0 ?_
 refine QT 8 1 rfl rfl ?_ (by decide)
 refine QT 3 0 rfl rfl ?_ (by decide)
 refine Qb #[0,0,0,0,8,24,60,0,255,511,511,2047,4095] Tryz.mixed (by decide +kernel) (by decide +kernel) ?_
 refine zp1 ?_
 refine zd5 ?_
 refine yA rfl rfl (fun _=>(by first|exact ZT _ _ rfl Tryz.underlying51 Tryz.sizeOf9 rfl (by first|exact ⟨_,rfl⟩|rfl) (by first|exact ⟨_,rfl⟩|rfl) (by omega) (by omega) (by omega)|exact QC _ _ rfl Tryz.underlying51 Tryz.sizeOf9 rfl GET (by first|exact ⟨_,rfl⟩|rfl) (by first|exact ⟨_,rfl⟩|rfl) (by omega) (by omega) (by omega))) ?_
 refine zd1 ?_
 refine yE rfl rfl (zc rfl (Z6 hp (H2 p 106 _ [.pp [.str (ba nm)],.pp [.ptr p 0]] Tryz.func106 rfl rfl (XJ nm) 1 (by decide) (by decide) (Q1m nm) (fun t nx τ hw hs hσ h0 h1=>QaT nm t nx p τ hw hs hσ h0 h1 hnm) l _ t nx _ _ hl (by omega) hw hs (Q06 (by omega)) (Qt hp) hn0 hn1))) (⟨.inl rfl,trivial⟩) (trivial) ?_
 refine zd4 ?_
 refine RP.nil rfl ?_
 refine zrt ?_
 exact Zt (x:=.box [.int .i64 (twi (XJ nm) l t nx).2.1]) rfl hcl ⟨trivial,trivial⟩ ⟨Vn _ _,Yq _ _,trivial⟩ (Q8 rfl)
end Lg
set_option maxRecDepth 20000
set_option maxHeartbeats 4000000
namespace Lg
open Go Go.Proofs Go.RowKit
variable [GLay]
theorem Q73 (k:Nat) (fn:Go.Func) (hfn:Tryz.prog.funcs[k]? =some fn) (hname:(fn.name == "runtime.NumGoroutine")=false) (hb:fn.body.isNone=false) (l r:List JV) (σ:List AO) (hl:l.length≤1000000) (hr:r.length≤1000000) (hf:∀ (i:Nat) x y,l[i]? =some x→r[i]? =some y→∀ σ,ACalls Tryz.prog k [.agg (Qf x),.agg (Qf y)] σ (Ret (.bool (pb (x=y))) σ)):ACalls Tryz.prog 110 [.sl false 8 (Q7 l),.sl false 8 (Q7 r),.func (.func k) [] []] σ (Ret (.bool (pb (l=r))) σ):=by
 refine Qc Tryz.func110 rfl Tryz.ntmps110 (XE Tryz.results110) (Nat.le_of_ble_eq_true rfl) (fun hcl hal=>?_)
 have hll:=QG l
 have hrl:=QG r
 refine zw1 ?_
 refine Q0 ?_
 refine zw5 ?_
 refine Q2 rfl (fun h1=>?_) (fun h1=>?_)
 ·(try rw [h1]);replace h1:=zcl h1
  have hne:¬l=r:=fun e=>by subst e;omega
  refine zw1 ?_
  refine zrt ?_
  exact Qr rfl hcl trivial (Q8 (YC hne))
 ·(try rw [h1]);replace h1:=zcl h1
  have hlen:l.length=r.length:=by omega
  refine Q1 ?_
  refine Q0 ?_
  refine zw3 ?_
  refine Qa ?_
  refine Qs (ι:=Nat) (fun i=>i≤l.length∧∀ j:Nat,j < i→l[j]? =r[j]?) (fun i=>⟨[],[(1,.sl false 8 (Q7 r)),(2,.func (.func k) [] []),(15,.sl false 8 (Q7 l)),(16,.int .i64 (l.length:Int)),(17,.int .i64 (i:Int))]⟩) (fun i=>σ) (fun i=>l.length - i) (0) (⟨Nat.zero_le _,fun j hj=>absurd hj (by omega)⟩) ?_ rfl (fun i hi=>?_)
  ·refine ⟨rfl,rfl,rfl,rfl,?_,rfl,trivial⟩
   rw [← hll];rfl
  obtain ⟨hi1,hi2⟩:=hi
  refine zw1 ?_
  refine Q0 ?_
  refine Q2 rfl (fun h2=>?_) (fun h2=>?_)
  ·(try rw [h2]);replace h2:=zcl h2
   obtain ⟨x,hx⟩:∃ x,l[i]? =some x:=⟨_,List.getElem?_eq_getElem (show i < l.length by omega)⟩
   obtain ⟨y,hy⟩:∃ y,r[i]? =some y:=⟨_,List.getElem?_eq_getElem (show i < r.length by omega)⟩
   refine Q1 ?_
   refine Q0 ?_
   refine Qa ?_
   refine zu1 ?_
   refine zt rfl (Qe rfl Tryz.underlying25 Tryz.sizeOf28 rfl rfl (by omega) (Jp hx)) ?_
   rw [Q3 x]
   refine zv4 ?_
   refine zu2 ?_
   refine zt rfl (Qe rfl Tryz.underlying25 Tryz.sizeOf28 rfl rfl (by omega) (Jp hy)) ?_
   rw [Q3 y]
   refine zv3 ?_
   refine zu3 ?_
   refine zt rfl (K6 rfl rfl rfl hfn hname hb (AC2 (Q3 x) (Q3 y) (hf i x y hx hy _))) ?_
   refine zv1 ?_
   refine Q2 rfl (fun h3=>?_) (fun h3=>?_)
   ·(try rw [h3]);replace h3:=zcl h3
    refine zw1 ?_
    refine zrt ?_
    refine Z5 rfl hcl trivial (Q8 (YC fun e=>?_))
    subst e;rw [hx] at hy;cases hy;rw [UP rfl] at h3;cases h3
   ·(try rw [h3]);replace h3:=zcl h3
    refine Q1 ?_
    refine Q4 ?_
    refine zv2 ?_
    have hxy:=(Yh _).1 h3
    refine ⟨i+1,σ.length,⟨by omega,fun j hj=>?_⟩,by omega,Nat.le_refl _,⟨rfl,rfl,rfl,rfl,rfl,rfl,trivial⟩,Zw hcl,?_,U2⟩
    ·by_cases e:j=i
     ·subst e;rw [hx,hy,hxy]
     ·exact hi2 j (by omega)
    ·simp [ltE,AV.lt,AV.ltL]
  ·(try rw [h2]);replace h2:=zcl h2
   refine Qg ?_
   refine zw1 ?_
   refine zrt ?_
   exact Qr rfl hcl trivial (Q8 (Q2X (Ky hlen fun j hj=>hi2 j (by omega))))

theorem Q72 (k:Nat) (fn:Go.Func) (hfn:Tryz.prog.funcs[k]? =some fn) (hname:(fn.name == "runtime.NumGoroutine")=false) (hb:fn.body.isNone=false) (l r:List (ByteArray×JV)) (σ:List AO) (hl:l.length≤1000000) (hr:r.length≤1000000) (hf:∀ (i:Nat) x y,l[i]? =some x→r[i]? =some y→∀ σ,ACalls Tryz.prog k [.agg (.str x.1 :: Qf x.2),.agg (.str y.1 :: Qf y.2)] σ (Ret (.bool (pb (x=y))) σ)):ACalls Tryz.prog 111 [.sl false 9 (Q5 l),.sl false 9 (Q5 r),.func (.func k) [] []] σ (Ret (.bool (pb (l=r))) σ):=by
 refine Qc Tryz.func111 rfl Tryz.ntmps111 (XE Tryz.results111) (Nat.le_of_ble_eq_true rfl) (fun hcl hal=>?_)
 have hll:=QK l
 have hrl:=QK r
 refine zw1 ?_
 refine Q0 ?_
 refine zw5 ?_
 refine Q2 rfl (fun h1=>?_) (fun h1=>?_)
 ·(try rw [h1]);replace h1:=zcl h1
  have hne:¬l=r:=fun e=>by subst e;omega
  refine zw1 ?_
  refine zrt ?_
  exact Qr rfl hcl trivial (Q8 (YC hne))
 ·(try rw [h1]);replace h1:=zcl h1
  have hlen:l.length=r.length:=by omega
  refine Q1 ?_
  refine Q0 ?_
  refine zw3 ?_
  refine Qa ?_
  refine Qs (ι:=Nat) (fun i=>i≤l.length∧∀ j:Nat,j < i→l[j]? =r[j]?) (fun i=>⟨[],[(1,.sl false 9 (Q5 r)),(2,.func (.func k) [] []),(15,.sl false 9 (Q5 l)),(16,.int .i64 (l.length:Int)),(17,.int .i64 (i:Int))]⟩) (fun i=>σ) (fun i=>l.length - i) (0) (⟨Nat.zero_le _,fun j hj=>absurd hj (by omega)⟩) ?_ rfl (fun i hi=>?_)
  ·refine ⟨rfl,rfl,rfl,rfl,?_,rfl,trivial⟩
   rw [← hll];rfl
  obtain ⟨hi1,hi2⟩:=hi
  refine zw1 ?_
  refine Q0 ?_
  refine Q2 rfl (fun h2=>?_) (fun h2=>?_)
  ·(try rw [h2]);replace h2:=zcl h2
   obtain ⟨x,hx⟩:∃ x,l[i]? =some x:=⟨_,List.getElem?_eq_getElem (show i < l.length by omega)⟩
   obtain ⟨y,hy⟩:∃ y,r[i]? =some y:=⟨_,List.getElem?_eq_getElem (show i < r.length by omega)⟩
   refine Q1 ?_
   refine Q0 ?_
   refine Qa ?_
   refine zu1 ?_
   refine zt rfl (Qe rfl Tryz.underlying26 Tryz.sizeOf67 rfl rfl (by omega) (Yf hx)) ?_
   rw [Q3 x.2]
   refine zv4 ?_
   refine zu2 ?_
   refine zt rfl (Qe rfl Tryz.underlying26 Tryz.sizeOf67 rfl rfl (by omega) (Yf hy)) ?_
   rw [Q3 y.2]
   refine zv3 ?_
   refine zu3 ?_
   refine zt rfl (K6 rfl rfl rfl hfn hname hb (AC2 (congrArg _ (Q3 x.2)) (congrArg _ (Q3 y.2)) (hf i x y hx hy _))) ?_
   refine zv1 ?_
   refine Q2 rfl (fun h3=>?_) (fun h3=>?_)
   ·(try rw [h3]);replace h3:=zcl h3
    refine zw1 ?_
    refine zrt ?_
    refine Z5 rfl hcl trivial (Q8 (YC fun e=>?_))
    subst e;rw [hx] at hy;cases hy;rw [UP rfl] at h3;cases h3
   ·(try rw [h3]);replace h3:=zcl h3
    refine Q1 ?_
    refine Q4 ?_
    refine zv2 ?_
    have hxy:=(Yh _).1 h3
    refine ⟨i+1,σ.length,⟨by omega,fun j hj=>?_⟩,by omega,Nat.le_refl _,⟨rfl,rfl,rfl,rfl,rfl,rfl,trivial⟩,Zw hcl,?_,U2⟩
    ·by_cases e:j=i
     ·subst e;rw [hx,hy,hxy]
     ·exact hi2 j (by omega)
    ·simp [ltE,AV.lt,AV.ltL]
  ·(try rw [h2]);replace h2:=zcl h2
   refine Qg ?_
   refine zw1 ?_
   refine zrt ?_
   exact Qr rfl hcl trivial (Q8 (Q2X (Ky hlen fun j hj=>hi2 j (by omega))))

theorem Q8C (x y:ByteArray×JV) (σ:List AO) (h:∀ σ,ACalls Tryz.prog 64 [.agg (Qf x.2),.agg (Qf y.2)] σ (Ret (.bool (pb (x.2=y.2))) σ)):ACalls Tryz.prog 112 [.agg (.str x.1 :: Qf x.2),.agg (.str y.1 :: Qf y.2)] σ (Ret (.bool (pb (x=y))) σ):=by
 refine Qc Tryz.func112 rfl Tryz.ntmps112 (XE Tryz.results112) (Nat.le_of_ble_eq_true rfl) (fun hcl hal=>?_)
 rw [Q3 x.2,Q3 y.2]
 refine zw3 ?_
 refine zu6 ?_
 refine zsp 10 rfl (fun h1=>?_) fun h1=>?_
 ·rw [h1];replace h1:=zcl h1
  refine zg4 ?_
  refine ztG rfl rfl (zc rfl (AC2 (Q3 x.2) (Q3 y.2) (h _))) ?_
  refine zv2 ?_
  refine zrt ?_
  refine Z5 rfl hcl trivial (Q8 ?_)
  refine Xk ?_
  rw [Prod.ext_iff]
  simp_all [Yh,Jb]
 ·rw [h1];replace h1:=zcl h1
  refine zv7 ?_
  refine zrt ?_
  refine Z5 rfl hcl trivial (Q8 ?_)
  refine Xk ?_
  rw [Prod.ext_iff]
  simp_all [Yh,Jb]

theorem Q8D (n:Nat):∀ (x y:JV) (σ:List AO),Q6 x≤n→jb x→jb y→ACalls Tryz.prog 64 [.agg (Qf x),.agg (Qf y)] σ (Ret (.bool (pb (x=y))) σ):=by
 induction n with
 |zero=>intro x y σ h;have:=Qi x;omega
 |succ n ih=>
 intro x y σ hn hjx hjy
 have hvs:=Zs x
 have hl:=Ze x.l
 have hm:=Zh x.m
 obtain ⟨hb1,hb2,hb3,hb4,hb5,hb6⟩:=(Zy x).1 hjx
 obtain ⟨hc1,hc2,hc3,hc4,hc5,hc6⟩:=(Zy y).1 hjy
 refine Qc Tryz.func64 rfl Tryz.ntmps64 (XE Tryz.results64) (Nat.le_of_ble_eq_true rfl) (fun hcl hal=>?_)
 rw [Q3 x,Q3 y]
 refine zw3 ?_
 refine zu6 ?_
 refine zsp 10 rfl (fun h1=>?_) fun h1=>?_
 ·rw [h1];replace h1:=zcl h1
  refine zg7 ?_
  refine zsp 17 rfl (fun h2=>?_) fun h2=>?_
  ·rw [h2];replace h2:=zcl h2
   refine zg4 ?_
   refine ztG rfl rfl (Qcw rfl Tryz.underlying24 (by kernel_rfl) (by kernel_rfl) (.bool _ _ _ _ _ _ _ _ (by decide) rfl Tryz.underlying4 (.str _ _ _ _ _ _ _ _ (by decide) rfl Tryz.underlying9 (.int _ _ _ _ _ _ _ _ _ _ (by decide) rfl Tryz.underlying3 (.nil _)))) rfl rfl) ?_
   refine zg2 ?_
   refine zsp 24 rfl (fun h3=>?_) fun h3=>?_
   ·rw [h3];replace h3:=zcl h3
    refine zg7 ?_
    refine zsp 31 rfl (fun h4=>?_) fun h4=>?_
    ·rw [h4];replace h4:=zcl h4
     refine zg4 ?_
     refine ztG rfl rfl (zc rfl (Q73 64 _ Tryz.func64 rfl rfl x.l y.l _ hb3 hc3 (fun i u w hu hw σ=>ih u w σ (by have:=ZG hu;omega) (Ys hb5 hu) (Ys hc5 hw)))) ?_
     refine zg2 ?_
     refine zsp 38 rfl (fun h5=>?_) fun h5=>?_
     ·rw [h5];replace h5:=zcl h5
      refine zg4 ?_
      refine ztG rfl rfl (zc rfl (Q72 112 _ Tryz.func112 rfl rfl x.m y.m _ hb4 hc4 (fun i u w hu hw σ=>Q8C u w σ (fun σ=>ih u.2 w.2 σ (by have:=XS hu;omega) (JR hb6 hu).2 (JR hc6 hw).2)))) ?_
      refine zv2 ?_
      refine zrt ?_
      refine Z5 rfl hcl trivial (Q8 ?_)
      refine Xk ?_
      rw [YE]
      simp_all [Yh,Jb]
     ·rw [h5];replace h5:=zcl h5
      refine zv7 ?_
      refine zrt ?_
      refine Z5 rfl hcl trivial (Q8 ?_)
      refine Xk ?_
      rw [YE]
      simp_all [Yh,Jb]
    ·rw [h4];replace h4:=zcl h4
     refine J7 ?_
     refine zg4 ?_
     refine zon ?_
     refine zrt ?_
     refine Z5 rfl hcl trivial (Q8 ?_)
     refine Xk ?_
     rw [YE]
     simp_all [Yh,Jb]
   ·rw [h3];replace h3:=zcl h3
    refine Q9b ?_
    refine zg1 ?_
    refine zon ?_
    refine zrt ?_
    refine Z5 rfl hcl trivial (Q8 ?_)
    refine Xk ?_
    rw [YE]
    simp_all [Yh,Jb]
  ·rw [h2];replace h2:=zcl h2
   refine Q9b ?_
   refine zg8 ?_
   refine zon ?_
   refine zrt ?_
   refine Z5 rfl hcl trivial (Q8 ?_)
   refine Xk ?_
   rw [YE]
   simp_all [Yh,Jb]
 ·rw [h1];replace h1:=zcl h1
  refine Qdj ?_
  refine zg5 ?_
  refine zon ?_
  refine zrt ?_
  refine Z5 rfl hcl trivial (Q8 ?_)
  refine Xk ?_
  rw [YE]
  simp_all [Yh,Jb]


end Lg
set_option maxRecDepth 20000
set_option maxHeartbeats 4000000
namespace Lg
open Go Go.Proofs Go.RowKit
variable [GLay]
theorem FX (n:Nat):∀ (v:JV) (σ:List AO),Q6 v≤n→n≤1000000000→ACalls Tryz.prog 39 [.agg (Qf v)] σ (Ret (.int .i64 (Q6 v)) σ):=by
 induction n with
 |zero=>intro v σ h;have:=Qi v;omega
 |succ n ih=>
 intro v σ hn hb
 have hvs:=Zs v
 have hl:=Ze v.l
 have hm:=Zh v.m
 have hll:=Yu v.l
 have hml:=GP v.m
 have hlc:=QG v.l
 have hmc:=QK v.m
 refine Qc Tryz.func39 rfl Tryz.ntmps39 (XE Tryz.results39) (Nat.le_of_ble_eq_true rfl) (fun hcl hal=>?_)
 rw [Q3 v]
 refine zw2 ?_
 refine zw1 ?_
 refine Q0 ?_
 refine zw1 ?_
 refine Qa ?_
 refine Qs (ι:=Nat) (fun i=>i≤v.l.length) (fun i=>⟨[],[(1,.ptr (σ.length+0) 0),(3,.int .i64 (1+Qm (v.l.take i))),(4,.int .i64 (i:Int))]⟩) (fun i=>σ++[_]) (fun i=>v.l.length - i) (0) (Nat.zero_le _) ?_ rfl (fun i hi=>?_)
 ·refine ⟨rfl,rfl,?_,rfl,trivial⟩
  simp [Qm];rfl
 have htl:=ZA v.l i
 have htn:=Ze (v.l.take i)
 refine Q0 ?_
 refine zw5 ?_
 refine Q2 rfl (fun h1=>?_) (fun h1=>?_)
 ·(try rw [h1]);replace h1:=zcl h1
  obtain ⟨x,hx⟩:∃ x,v.l[i]? =some x:=⟨_,List.getElem?_eq_getElem (show i < v.l.length by omega)⟩
  have hlm:=ZG hx
  have hxp:=Qi x
  have hts:=YF v.l i x hx
  have htl1:=ZA v.l (i+1)
  refine Q1 ?_
  refine Q0 ?_
  refine Qa ?_
  refine Q4 ?_
  refine zg5 ?_
  rw [Q3 x]
  refine zg1 ?_
  refine zt rfl (zc rfl (AC1 (Q3 x) (ih x _ (by omega) (by omega)))) ?_
  refine zv2 ?_
  refine Q4 ?_
  refine zv3 ?_
  refine ⟨i+1,σ.length+1,by omega,by omega,by simp,⟨rfl,rfl,?_,rfl,trivial⟩,Qh 1 hcl ?_,?_,Qo 1⟩
  ·rw [YF v.l i x hx,←Int.add_assoc];rfl
  ·simp [ownLt,AO.cells,AV.ltL,AV.lt]
  ·simp [ltE,AV.lt]
 ·(try rw [h1]);replace h1:=zcl h1
  have hie:v.l.take i=v.l:=by rw [show i=v.l.length by omega];exact List.take_length
  rw [hie]
  refine Qg ?_
  refine Q0 ?_
  refine zw1 ?_
  refine Qa ?_
  refine Qs (ι:=Nat) (fun i=>i≤v.m.length) (fun i=>⟨[],[(1,.ptr (σ.length+0) 0),(3,.int .i64 (1+Qm v.l+Qw (v.m.take i))),(5,.int .i64 (i:Int))]⟩) (fun i=>σ++[_]) (fun i=>v.m.length - i) (0) (Nat.zero_le _) ?_ rfl (fun i hi=>?_)
  ·refine ⟨rfl,rfl,?_,rfl,trivial⟩
   simp [Qw];rfl
  have htl2:=Y8 v.m i
  have htn2:=Zh (v.m.take i)
  refine Q0 ?_
  refine zw5 ?_
  refine Q2 rfl (fun h2=>?_) (fun h2=>?_)
  ·(try rw [h2]);replace h2:=zcl h2
   obtain ⟨q,hq⟩:∃ q,v.m[i]? =some q:=⟨_,List.getElem?_eq_getElem (show i < v.m.length by omega)⟩
   have hms:=XS hq
   have hqp:=Qi q.2
   have hts2:=KB v.m i q hq
   have htl3:=Y8 v.m (i+1)
   refine Q1 ?_
   refine Q0 ?_
   refine Qa ?_
   refine Q4 ?_
   refine zg6 ?_
   rw [Q3 q.2]
   refine zg1 ?_
   refine zt rfl (zc rfl (AC1 (Q3 q.2) (ih q.2 _ (by omega) (by omega)))) ?_
   refine zv2 ?_
   refine Q4 ?_
   refine zv3 ?_
   refine ⟨i+1,σ.length+1,by omega,by omega,by simp,⟨rfl,rfl,?_,rfl,trivial⟩,Qh 1 hcl ?_,?_,Qo 1⟩
   ·rw [KB v.m i q hq,←Int.add_assoc];rfl
   ·simp [ownLt,AO.cells,AV.ltL,AV.lt]
   ·simp [ltE,AV.lt]
  ·(try rw [h2]);replace h2:=zcl h2
   have hie2:v.m.take i=v.m:=by rw [show i=v.m.length by omega];exact List.take_length
   rw [hie2]
   refine Qg ?_
   refine zw2 ?_
   refine zrt ?_
   refine Z5 rfl hcl trivial (Q8 ?_)
   congr 1;omega

theorem Q3C (n:Nat):∀ (v:JV) (σ:List AO),Q6 v≤n→n≤1000000000→ACalls Tryz.prog 40 [.agg (Qf v)] σ (Ret (.int .i64 (QZ v)) σ):=by
 induction n with
 |zero=>intro v σ h;have:=Qi v;omega
 |succ n ih=>
 intro v σ hn hb
 have hvs:=Zs v
 have hl:=Ze v.l
 have hm:=Zh v.m
 have hll:=Yu v.l
 have hml:=GP v.m
 have hlc:=QG v.l
 have hmc:=QK v.m
 have hd1:=Kx v.l
 have hd2:=GN v.m
 have hde:=FN v
 refine Qc Tryz.func40 rfl Tryz.ntmps40 (XE Tryz.results40) (Nat.le_of_ble_eq_true rfl) (fun hcl hal=>?_)
 rw [Q3 v]
 refine zw2 ?_
 refine zw1 ?_
 refine Q0 ?_
 refine zw1 ?_
 refine Qa ?_
 refine Qs (ι:=Nat) (fun i=>i≤v.l.length) (fun i=>⟨[],[(1,.ptr (σ.length+0) 0),(3,.int .i64 (XD (v.l.take i))),(4,.int .i64 (i:Int))]⟩) (fun i=>σ++[_]) (fun i=>v.l.length - i) (0) (Nat.zero_le _) ?_ rfl (fun i hi=>?_)
 ·refine ⟨rfl,rfl,?_,rfl,trivial⟩
  simp [XD];rfl
 refine Q0 ?_
 refine zw5 ?_
 refine Q2 rfl (fun h1=>?_) (fun h1=>?_)
 ·(try rw [h1]);replace h1:=zcl h1
  obtain ⟨x,hx⟩:∃ x,v.l[i]? =some x:=⟨_,List.getElem?_eq_getElem (show i < v.l.length by omega)⟩
  have hlm:=ZG hx
  have hxp:=Qi x
  have hts:=YF v.l i x hx
  have htl1:=ZA v.l (i+1)
  refine Q1 ?_
  refine Q0 ?_
  refine Qa ?_
  refine Q4 ?_
  refine zg5 ?_
  rw [Q3 x]
  refine zg1 ?_
  refine zt rfl (zc rfl (AC1 (Q3 x) (ih x _ (by omega) (by omega)))) ?_
  refine zv2 ?_
  refine Q4 ?_
  refine zv3 ?_
  refine ⟨i+1,σ.length+1,by omega,by omega,by simp,⟨rfl,rfl,?_,rfl,trivial⟩,Qh 1 hcl ?_,?_,Qo 1⟩
  ·rw [Q5B v.l i x hx];rfl
  ·simp [ownLt,AO.cells,AV.ltL,AV.lt]
  ·simp [ltE,AV.lt]
 ·(try rw [h1]);replace h1:=zcl h1
  have hie:v.l.take i=v.l:=by rw [show i=v.l.length by omega];exact List.take_length
  rw [hie]
  refine Qg ?_
  refine Q0 ?_
  refine zw1 ?_
  refine Qa ?_
  refine Qs (ι:=Nat) (fun i=>i≤v.m.length) (fun i=>⟨[],[(1,.ptr (σ.length+0) 0),(3,.int .i64 (max (XD v.l) (J4 (v.m.take i)))),(5,.int .i64 (i:Int))]⟩) (fun i=>σ++[_]) (fun i=>v.m.length - i) (0) (Nat.zero_le _) ?_ rfl (fun i hi=>?_)
  ·refine ⟨rfl,rfl,?_,rfl,trivial⟩
   rw [show max (XD v.l) (J4 (v.m.take 0))=XD v.l by simp only [List.take_zero,J4];omega];rfl
  refine Q0 ?_
  refine zw5 ?_
  refine Q2 rfl (fun h2=>?_) (fun h2=>?_)
  ·(try rw [h2]);replace h2:=zcl h2
   obtain ⟨q,hq⟩:∃ q,v.m[i]? =some q:=⟨_,List.getElem?_eq_getElem (show i < v.m.length by omega)⟩
   have hms:=XS hq
   have hqp:=Qi q.2
   have hts2:=KB v.m i q hq
   have htl3:=Y8 v.m (i+1)
   refine Q1 ?_
   refine Q0 ?_
   refine Qa ?_
   refine Q4 ?_
   refine zg6 ?_
   rw [Q3 q.2]
   refine zg1 ?_
   refine zt rfl (zc rfl (AC1 (Q3 q.2) (ih q.2 _ (by omega) (by omega)))) ?_
   refine zv2 ?_
   refine Q4 ?_
   refine zv3 ?_
   refine ⟨i+1,σ.length+1,by omega,by omega,by simp,⟨rfl,rfl,?_,rfl,trivial⟩,Qh 1 hcl ?_,?_,Qo 1⟩
   ·rw [Q5E v.m i q hq,show ∀ a b c:Int,max a (max b c)=max (max a b) c by intros;omega];rfl
   ·simp [ownLt,AO.cells,AV.ltL,AV.lt]
   ·simp [ltE,AV.lt]
  ·(try rw [h2]);replace h2:=zcl h2
   have hie2:v.m.take i=v.m:=by rw [show i=v.m.length by omega];exact List.take_length
   rw [hie2]
   refine Qg ?_
   refine Q0 ?_
   refine zu4 ?_
   refine zsp 40 rfl (fun h3=>?_) fun h3=>?_
   ·rw [h3];replace h3:=zcl h3
    refine zv4 ?_
    refine Qj rfl ?_
    refine zw3 ?_
    refine zrt ?_
    refine Z5 rfl hcl trivial (Q8 ?_)
    congr 1;rw [hde];first|(rw [if_pos (by omega)];done)|(rw [if_neg (by omega)];done)
   ·rw [h3];replace h3:=zcl h3
    refine zv4 ?_
    refine Q2 rfl (fun h4=>?_) (fun h4=>?_)
    ·(try rw [h4]);replace h4:=zcl h4
     refine zw3 ?_
     refine zrt ?_
     refine Z5 rfl hcl trivial (Q8 ?_)
     congr 1;rw [hde];first|(rw [if_pos (by omega)];done)|(rw [if_neg (by omega)];done)
    ·(try rw [h4]);replace h4:=zcl h4
     refine Q1 ?_
     refine zw1 ?_
     refine zrt ?_
     refine Z5 rfl hcl trivial (Q8 ?_)
     congr 1;rw [hde];first|(rw [if_pos (by omega)];done)|(rw [if_neg (by omega)];done)
end Lg
set_option maxRecDepth 20000
set_option maxHeartbeats 4000000
namespace Lg
open Go Go.Proofs Go.RowKit
variable [GLay]
theorem Qde (n:Nat) (ih:∀ (u:JT) (σ:List AO),Q6 (tv u)≤n→jb (tv u)→TW u→ACalls Tryz.prog 19 [.pp (tc u)] σ (Ret (.agg (Qf (tv u))) σ)) (t:JT) (v:JV) (hv:tv t=v) (σ:List AO) (hn:Q6 v≤n+1) (hjb:jb v) (hw:TW t) (hk:v.kind=4):ACalls Tryz.prog 19 [.pp (tc t)] σ (Ret (.agg (Qf v)) σ):=by
 have hvs:=Zs v
 have hkn:=Yu v.l
 have hm0:=Q93 hw hv (show ¬v.kind=5 by omega)
 have htl:=X0 t.ch
 have hll:=Q50 hv hk
 have hmz:Qw v.m=0:=by rw [hm0];rfl
 obtain ⟨hb1,hb2,hb3,hb4,hb5,hb6⟩:=(Zy v).1 hjb
 refine QS Tryz.func19 rfl Tryz.ntmps19 (by rw [Tryz.results19];exact (.ck Tryz.isAgg28 Tryz.sizeOf28 .nil)) (Nat.le_of_ble_eq_true rfl) (fun hcl hal=>?_)
 rw [FB t,hv]
 refine zw1 ?_
 refine zw6 ?_
 refine Q0 ?_
 refine Q0 ?_
 refine Xv 1 6 8 2 rfl rfl rfl ?_
 refine Q4 ?_
 refine zv6 ?_
 refine Qa ?_
 refine Qs (ι:=Nat) (fun i=>i≤(v.l).length) (fun i=>⟨[],[(0,.pp [.int .i64 t.id,.int .i64 v.kind,.bool v.b,.bool v.n.neg,.str v.n.digits,.int .i64 v.n.exp,.str v.s,.nils,.nils,.sl false 1 (ZC t.ks),.sl false 1 (tcs t.ch)]),(3,.ptr (σ.length+1) 0),(13,.sl false 1 (tcs t.ch)),(14,.int .i64 ((tcs t.ch).length:Int)),(15,.int .i64 (i:Int)),(2,.ptr (σ.length+0) 0)]⟩) (fun i=>σ++[.box [.int .i64 0,.bool false,.bool false,.str ⟨#[]⟩,.int .i64 0,.str ⟨#[]⟩,.nils,.nils],.box [.int .i64 v.kind,.bool v.b,.bool v.n.neg,.str v.n.digits,.int .i64 v.n.exp,.str v.s,.arr (σ.length+2) i 8 0 i,.nils],.arr 8 i (Q7 (v.l.take i)).flatten]) (fun i=>(v.l).length - i) (0) (Nat.zero_le _) ?_ rfl (fun i hi=>?_)
 ·exact ⟨rfl,rfl,rfl,rfl,rfl,rfl,rfl,trivial⟩
 refine zw1 ?_
 refine Q0 ?_
 refine Q2 rfl (fun h1=>?_) (fun h1=>?_)
 ·(try rw [h1]);replace h1:=zcl h1
  obtain ⟨x,hx⟩:∃ x,v.l[i]? =some x:=⟨_,List.getElem?_eq_getElem (show i < v.l.length by omega)⟩
  obtain ⟨y,hy,hyx⟩:=Q4Z hv hk hx
  have hxm:=ZG hx
  have hrow:=KK hy
  refine Q1 ?_
  refine Q0 ?_
  refine Qa ?_
  refine zu1 ?_
  refine zt rfl (Qe rfl Tryz.underlying55 Tryz.sizeOf34 rfl rfl (by omega) (hrow)) ?_
  refine zv3 ?_
  refine zw3 ?_
  refine Q2 rfl (fun h2=>?_) (fun h2=>?_)
  ·(try rw [h2]);replace h2:=zcl h2
   refine Qb #[0,1,0,4,12,31,63,127] Tryz.mixed (by decide +kernel) (by decide +kernel) ?_
   refine zd1 ?_
   refine zp1 ?_
   refine zd1 ?_
   refine yP rfl rfl (zc rfl (hyx ▸ ih y _ (by rw [hyx];omega) (by rw [hyx];exact Ys hb5 hx) (JW hw hy))) (trivial) ?_
   rw [Q3 x]
   refine yA rfl rfl (fun _=>Ql [[_,_,_,_,_,_,_,_]] rfl Tryz.underlying25 Tryz.sizeOf28 Tryz.zeroValue28 rfl (by decide) (by decide) rfl rfl rfl rfl rfl) ?_
   refine yE rfl rfl (Qv rfl 2 (sz:=8) (m:=1) (len:=i) (cs:=_) rfl (.inr ⟨_,rfl⟩) Tryz.underlying25 Tryz.underlying25 Tryz.type28 rfl rfl rfl (by decide) rfl rfl (by rw [XC,List.length_take];omega) rfl rfl rfl (by show (i+1) * 112≤_;omega) (by omega) rfl) (⟨.inl rfl,⟨.inl rfl,trivial⟩⟩) (trivial) ?_
   refine zd1 ?_
   refine yEN rfl rfl rfl (QX (r:=[.int .i64 v.kind,.bool v.b,.bool v.n.neg,.str v.n.digits,.int .i64 v.n.exp,.str v.s,.arr (σ.length+2) (i+1) 8 0 (i+1),.nils]) rfl Tryz.sizeOf25 rfl rfl rfl rfl rfl (by decide)) (⟨.inl rfl,⟨.inl rfl,trivial⟩⟩) (⟨rfl,trivial⟩) ?_
   refine RP.nil rfl ?_
   refine Q4 ?_
   refine zv2 ?_
   refine ⟨i+1,σ.length+3,by omega,by omega,by simp,⟨rfl,rfl,rfl,rfl,rfl,rfl,rfl,trivial⟩,Qh 3 hcl ?_,?_,?_⟩
   ·simp [ownLt,AO.cells,AV.ltL,AV.lt,Z0,Y6]
   ·simp [ltE,AV.lt,AV.ltL]
   ·refine (Qo 3).trans ?_
    rw [QV hx,ZO,Q3 x];rfl
  ·(try rw [h2]);replace h2:=zcl h2
   exact absurd hk h2
 ·(try rw [h1]);replace h1:=zcl h1
  refine Qg ?_
  refine Q0 ?_
  have hie:i=v.l.length:=by omega
  subst hie
  rw [List.take_length]
  refine Xa 1 6 2 v.l.length 8 v.l.length rfl rfl rfl (Q7 v.l) rfl (Vb _) (QG _) (by decide) ?_
  refine QN 1 (bs':=[.int .i64 v.kind,.bool v.b,.bool v.n.neg,.str v.n.digits,.int .i64 v.n.exp,.str v.s,.sl false 8 (Q7 v.l),.sl false 9 (Q5 [])]) rfl ⟨AVle.refl _,AVle.refl _,AVle.refl _,AVle.refl _,AVle.refl _,AVle.refl _,AVle.refl _,Xt,trivial⟩ ?_
  refine Q4 ?_
  refine zv2 ?_
  refine zrt ?_
  rw [Q3 v,hm0]
  exact QH (Q9 (QI rfl rfl rfl) rfl) hcl (by simp [rks,AV.lt,AV.ltL,AV.ltLL]) ⟨rfl,rfl⟩
end Lg
set_option maxRecDepth 20000
set_option maxHeartbeats 4000000
namespace Lg
open Go Go.Proofs Go.RowKit
variable [GLay]
theorem Qdf (n:Nat) (ih:∀ (u:JT) (σ:List AO),Q6 (tv u)≤n→jb (tv u)→TW u→ACalls Tryz.prog 19 [.pp (tc u)] σ (Ret (.agg (Qf (tv u))) σ)) (t:JT) (v:JV) (hv:tv t=v) (σ:List AO) (hn:Q6 v≤n+1) (hjb:jb v) (hw:TW t) (hk:¬v.kind=4):ACalls Tryz.prog 19 [.pp (tc t)] σ (Ret (.agg (Qf v)) σ):=by
 have hvs:=Zs v
 have hl0:=Q92 hw hv hk
 have htl:=X0 t.ch
 have hll:=Q52 hw hv hk
 have hml:(v.m.map (·.2)).length=v.m.length:=List.length_map _
 have hkn:=Yu (v.m.map (·.2))
 have hkm:Qm (v.m.map (·.2))=Qw v.m:=by have:=W4 v.m [];simpa [Qm] using this
 rw [hkm] at hkn
 have hlz:Qm v.l=0:=by rw [hl0];rfl
 obtain ⟨hb1,hb2,hb3,hb4,hb5,hb6⟩:=(Zy v).1 hjb
 refine QS Tryz.func19 rfl Tryz.ntmps19 (by rw [Tryz.results19];exact (.ck Tryz.isAgg28 Tryz.sizeOf28 .nil)) (Nat.le_of_ble_eq_true rfl) (fun hcl hal=>?_)
 rw [FB t,hv]
 refine zw1 ?_
 refine zw6 ?_
 refine Q0 ?_
 refine Q0 ?_
 refine Xv 1 7 9 2 rfl rfl rfl ?_
 refine Q4 ?_
 refine zv6 ?_
 refine Qa ?_
 refine Qs (ι:=Nat) (fun i=>i≤((v.m.map (·.2))).length) (fun i=>⟨[],[(0,.pp [.int .i64 t.id,.int .i64 v.kind,.bool v.b,.bool v.n.neg,.str v.n.digits,.int .i64 v.n.exp,.str v.s,.nils,.nils,.sl false 1 (ZC t.ks),.sl false 1 (tcs t.ch)]),(3,.ptr (σ.length+1) 0),(13,.sl false 1 (tcs t.ch)),(14,.int .i64 ((tcs t.ch).length:Int)),(15,.int .i64 (i:Int)),(2,.ptr (σ.length+0) 0)]⟩) (fun i=>σ++[.box [.int .i64 0,.bool false,.bool false,.str ⟨#[]⟩,.int .i64 0,.str ⟨#[]⟩,.nils,.nils],.box [.int .i64 v.kind,.bool v.b,.bool v.n.neg,.str v.n.digits,.int .i64 v.n.exp,.str v.s,.nils,.arr (σ.length+2) i 9 0 i],.arr 9 i (Q5 (v.m.take i)).flatten]) (fun i=>((v.m.map (·.2))).length - i) (0) (Nat.zero_le _) ?_ rfl (fun i hi=>?_)
 ·exact ⟨rfl,rfl,rfl,rfl,rfl,rfl,rfl,trivial⟩
 refine zw1 ?_
 refine Q0 ?_
 refine Q2 rfl (fun h1=>?_) (fun h1=>?_)
 ·(try rw [h1]);replace h1:=zcl h1
  obtain ⟨q,hq⟩:∃ q,v.m[i]? =some q:=⟨_,List.getElem?_eq_getElem (show i < v.m.length by omega)⟩
  obtain ⟨y,hy,hyq,hyk⟩:=Q51 hv hk hq
  have hxm:=XS hq
  have hrow:=KK hy
  have hkrow:=Wm hyk
  refine Q1 ?_
  refine Q0 ?_
  refine Qa ?_
  refine zu1 ?_
  refine zt rfl (Qe rfl Tryz.underlying55 Tryz.sizeOf34 rfl rfl (by omega) (hrow)) ?_
  refine zv3 ?_
  refine zw3 ?_
  refine Q2 rfl (fun h2=>?_) (fun h2=>?_)
  ·(try rw [h2]);replace h2:=zcl h2
   exact absurd h2 hk
  ·(try rw [h2]);replace h2:=zcl h2
   refine Qb #[0,1,0,4,12,28,0,124,252,0,512,2044,4092,8191,16383,32767] Tryz.mixed (by decide +kernel) (by decide +kernel) ?_
   refine zd1 ?_
   refine zp1 ?_
   refine zd3 ?_
   refine zp1 ?_
   refine zd1 ?_
   refine yA rfl rfl (fun _=>Qe rfl Tryz.underlying51 Tryz.sizeOf9 rfl rfl (by omega) (hkrow)) ?_
   refine zp1 ?_
   refine zd1 ?_
   refine yP rfl rfl (zc rfl (hyq ▸ ih y _ (by rw [hyq];omega) (by rw [hyq];exact (JR hb6 hq).2) (JW hw hy))) (trivial) ?_
   rw [Q3 q.2]
   refine zd1 ?_
   refine yA rfl rfl (fun _=>Ql [[_,_,_,_,_,_,_,_,_]] rfl Tryz.underlying26 Tryz.sizeOf67 Tryz.zeroValue67 rfl (by decide) (by decide) rfl rfl rfl rfl rfl) ?_
   refine yE rfl rfl (Qv rfl 2 (sz:=9) (m:=1) (len:=i) (cs:=_) rfl (.inr ⟨_,rfl⟩) Tryz.underlying26 Tryz.underlying26 Tryz.type67 rfl rfl rfl (by decide) rfl rfl (by rw [Zx,List.length_take];omega) rfl rfl rfl (by show (i+1) * 128≤_;omega) (by omega) rfl) (⟨.inl rfl,⟨.inl rfl,⟨.inl rfl,⟨.inl rfl,trivial⟩⟩⟩⟩) (trivial) ?_
   refine zd1 ?_
   refine yEN rfl rfl rfl (QX (r:=[.int .i64 v.kind,.bool v.b,.bool v.n.neg,.str v.n.digits,.int .i64 v.n.exp,.str v.s,.nils,.arr (σ.length+2) (i+1) 9 0 (i+1)]) rfl Tryz.sizeOf26 rfl rfl rfl rfl rfl (by decide)) (⟨.inl rfl,⟨.inl rfl,⟨.inl rfl,⟨.inl rfl,trivial⟩⟩⟩⟩) (⟨rfl,trivial⟩) ?_
   refine RP.nil rfl ?_
   refine Q4 ?_
   refine zv2 ?_
   refine ⟨i+1,σ.length+3,by omega,by omega,by simp,⟨rfl,rfl,rfl,rfl,rfl,rfl,rfl,trivial⟩,Qh 3 hcl ?_,?_,?_⟩
   ·simp [ownLt,AO.cells,AV.ltL,AV.lt,Z0,K4]
   ·simp [ltE,AV.lt,AV.ltL]
   ·refine (Qo 3).trans ?_
    rw [QV hq,Ym,UB,Q3 q.2];rfl
 ·(try rw [h1]);replace h1:=zcl h1
  refine Qg ?_
  refine Q0 ?_
  have hie:i=v.m.length:=by omega
  subst hie
  rw [List.take_length]
  refine Xa 1 7 2 v.m.length 9 v.m.length rfl rfl rfl (Q5 v.m) rfl (VB _) (QK _) (by decide) ?_
  refine QN 1 (bs':=[.int .i64 v.kind,.bool v.b,.bool v.n.neg,.str v.n.digits,.int .i64 v.n.exp,.str v.s,.sl false 8 (Q7 []),.sl false 9 (Q5 v.m)]) rfl ⟨AVle.refl _,AVle.refl _,AVle.refl _,AVle.refl _,AVle.refl _,AVle.refl _,XA,AVle.refl _,trivial⟩ ?_
  refine Q4 ?_
  refine zv2 ?_
  refine zrt ?_
  rw [Q3 v,hl0]
  exact QH (Q9 (QI rfl rfl rfl) rfl) hcl (by simp [rks,AV.lt,AV.ltL,AV.ltLL]) ⟨rfl,rfl⟩
end Lg
set_option maxRecDepth 20000
set_option maxHeartbeats 4000000
namespace Lg
open Go Go.Proofs Go.RowKit
variable [GLay]
theorem G8 (n:Nat):∀ (t:JT) (σ:List AO),Q6 (tv t)≤n→jb (tv t)→TW t→ACalls Tryz.prog 19 [.pp (tc t)] σ (Ret (.agg (Qf (tv t))) σ):=by
  induction n with
  |zero=>intro t σ h;have:=Qi (tv t);omega
  |succ n ih=>
    intro t σ hn hjb hw
    by_cases hk:(tv t).kind=4
    · exact Qde n ih t _ rfl σ hn hjb hw hk
    · exact Qdf n ih t _ rfl σ hn hjb hw hk
theorem Q6j (n:Nat):∀ (t:JT) (σ:List AO),Q6 (tv t)≤n→Q6 (tv t)≤100000→TW t→ACalls Tryz.prog 36 [.pp (tc t)] σ (Ret (.tup [.int .i64 (Q6 (tv t)),.int .i64 (QZ (tv t))]) σ):=by
 induction n with
 |zero=>intro t σ h;have:=Qi (tv t);omega
 |succ n ih=>
 intro t σ hn hz hw
 have hjs:=V8 hw
 have hdp:=FO hw
 have htl:=X0 t.ch
 have hvl:=Xz t.ch
 have hld:=Kx (tvs t.ch)
 have hkn:=Yu (tvs t.ch)
 refine Qc Tryz.func36 rfl Tryz.ntmps36 (J5 Tryz.results36) (Nat.le_of_ble_eq_true rfl) (fun hcl hal=>?_)
 rw [G0 t]
 refine zw2 ?_
 refine zw2 ?_
 refine Q0 ?_
 refine zw6 ?_
 refine Qa ?_
 refine Qs (ι:=Nat) (fun i=>i≤t.ch.length) (fun i=>⟨[],[(0,.pp [.int .i64 t.id,.int .i64 t.k,.bool t.b,.bool t.n.neg,.str t.n.digits,.int .i64 t.n.exp,.str t.s,.nils,.nils,.sl false 1 (ZC t.ks),.sl false 1 (tcs t.ch)]),(4,.int .i64 (1+Qm ((tvs t.ch).take i))),(5,.int .i64 (XD ((tvs t.ch).take i))),(13,.sl false 1 (tcs t.ch)),(14,.int .i64 ((tcs t.ch).length:Int)),(15,.int .i64 (i:Int))]⟩) (fun i=>σ) (fun i=>t.ch.length - i) (0) (Nat.zero_le _) ?_ rfl (fun i hi=>?_)
 ·exact ⟨rfl,rfl,rfl,rfl,rfl,rfl,rfl,trivial⟩
 have hl1:=ZA (tvs t.ch) i
 have hl2:=Ze ((tvs t.ch).take i)
 have hl3:=Kx ((tvs t.ch).take i)
 refine zw1 ?_
 refine Q0 ?_
 refine Q2 rfl (fun h1=>?_) (fun h1=>?_)
 ·(try rw [h1]);replace h1:=zcl h1
  obtain ⟨x,hx⟩:∃ x,t.ch[i]? =some x:=⟨_,List.getElem?_eq_getElem (show i < t.ch.length by omega)⟩
  have hxv:=YP hx
  have hxg:=KK hx
  have hxs:=YF (tvs t.ch) i (tv x) hxv
  have hxm:=ZG hxv
  have hx1:=Qi (tv x)
  have hlt:=ZA (tvs t.ch) (i+1)
  have hxd:=Yl (tv x)
  refine Q1 ?_
  refine Q0 ?_
  refine Qa ?_
  refine zsr ?_
  refine zt rfl (Qe rfl Tryz.underlying55 Tryz.sizeOf34 rfl rfl (by omega) (hxg)) ?_
  refine zv2 ?_
  refine zu1 ?_
  refine zt rfl (zc rfl (ih x _ (by omega) (by omega) (JW hw hx))) ?_
  refine zv5 ?_
  refine Q4 ?_
  refine zv8 ?_
  refine Q4 ?_
  refine zv2 ?_
  refine ⟨i+1,σ.length,by omega,by omega,Nat.le_refl _,⟨rfl,rfl,?_,?_,rfl,rfl,rfl,trivial⟩,hcl,by simp [ltE,AV.lt,AV.ltL],List.take_length⟩
  ·rw [hxs,←Int.add_assoc];rfl
  ·rw [QV hxv,Uz];rfl
 ·(try rw [h1]);replace h1:=zcl h1
  have hie:i=t.ch.length:=by omega
  subst hie
  rw [List.take_of_length_le (Nat.le_of_eq hvl)] at *
  refine Qg ?_
  refine Q0 ?_
  refine zu7 ?_
  refine zsp 37 rfl (fun h2=>?_) fun h2=>?_
  ·rw [h2];replace h2:=zcl h2
   refine zv7 ?_
   refine Qj rfl ?_
   refine Q4 ?_
   refine zv3 ?_
   refine zw4 ?_
   refine zrt ?_
   rw [hdp,hjs,if_pos (.inl h2)]
   exact QM rfl rfl hcl (by simp [AV.lt,AV.ltL]) (Q8 rfl)
  ·rw [h2];replace h2:=zcl h2
   refine zv7 ?_
   refine Q2 rfl (fun h3=>?_) (fun h3=>?_)
   ·(try rw [h3]);replace h3:=zcl h3
    refine Q4 ?_
    refine zv3 ?_
    refine zw4 ?_
    refine zrt ?_
    rw [hdp,hjs,if_pos (.inr h3)]
    exact QM rfl rfl hcl (by simp [AV.lt,AV.ltL]) (Q8 rfl)
   ·(try rw [h3]);replace h3:=zcl h3
    refine Q1 ?_
    refine zw4 ?_
    refine zrt ?_
    rw [hdp,hjs,if_neg (fun z=>z.elim h2 h3),Q9N hw h2 h3]
    exact QM rfl rfl hcl (by simp [AV.lt,AV.ltL]) (Q8 rfl)
end Lg
set_option maxRecDepth 20000
set_option maxHeartbeats 4000000
namespace Lg
open Go Go.Proofs Go.RowKit
variable [GLay]
theorem UU (n:Nat):∀ (x y:JV) (σ:List AO),Q6 x≤n→jb x→jb y→ACalls Tryz.prog 18 [.agg (Qf x),.agg (Qf y)] σ (Ret (.bool (pb (x=y))) σ):=by
 induction n with
 |zero=>intro x y σ h;have:=Qi x;omega
 |succ n ih=>
 intro x y σ hn hjx hjy
 have hvs:=Zs x
 have hl:=Ze x.l
 have hm:=Zh x.m
 obtain ⟨hb1,hb2,hb3,hb4,hb5,hb6⟩:=(Zy x).1 hjx
 obtain ⟨hc1,hc2,hc3,hc4,hc5,hc6⟩:=(Zy y).1 hjy
 have hxl:=QG x.l
 have hyl:=QG y.l
 have hxm:=QK x.m
 have hym:=QK y.m
 refine Qc Tryz.func18 rfl Tryz.ntmps18 (XE Tryz.results18) (Nat.le_of_ble_eq_true rfl) (fun hcl hal=>?_)
 rw [Q3 x,Q3 y]
 refine zw3 ?_
 refine Q0 ?_
 refine zu6 ?_
 refine zsp 14 rfl (fun h1=>?_) fun h1=>?_
 ·rw [h1];replace h1:=zcl h1
  refine Qdj ?_
  refine zg8 ?_
  refine zon ?_
  refine Qj rfl ?_
  refine zw1 ?_
  refine zrt ?_
  refine Z5 rfl hcl trivial (Q8 (YC ?_))
  rw [YE];intro hj;obtain ⟨j1,j2,⟨j3,j4,j5⟩,j6,j7,j8⟩:=hj
  simp_all
 ·rw [h1];replace h1:=zcl h1
  refine zg7 ?_
  refine zsp 21 rfl (fun h2=>?_) fun h2=>?_
  ·rw [h2];replace h2:=zcl h2
   refine Qdj ?_
   refine zg1 ?_
   refine zon ?_
   refine Qj rfl ?_
   refine zw1 ?_
   refine zrt ?_
   refine Z5 rfl hcl trivial (Q8 (YC ?_))
   rw [YE];intro hj;obtain ⟨j1,j2,⟨j3,j4,j5⟩,j6,j7,j8⟩:=hj
   simp_all
  ·rw [h2];replace h2:=zcl h2
   refine zg4 ?_
   refine ztG rfl rfl (Qcz rfl Tryz.underlying24 (by kernel_rfl) (by kernel_rfl) (.bool _ _ _ _ _ _ _ _ (by decide) rfl Tryz.underlying4 (.str _ _ _ _ _ _ _ _ (by decide) rfl Tryz.underlying9 (.int _ _ _ _ _ _ _ _ _ _ (by decide) rfl Tryz.underlying3 (.nil _)))) rfl rfl) ?_
   refine zg2 ?_
   refine zsp 28 rfl (fun h3=>?_) fun h3=>?_
   ·rw [h3];replace h3:=zcl h3
    refine Q9b ?_
    refine zg4 ?_
    refine zon ?_
    refine Qj rfl ?_
    refine zw1 ?_
    refine zrt ?_
    refine Z5 rfl hcl trivial (Q8 (YC ?_))
    rw [YE];intro hj;obtain ⟨j1,j2,⟨j3,j4,j5⟩,j6,j7,j8⟩:=hj
    simp_all
   ·rw [h3];replace h3:=zcl h3
    refine zg7 ?_
    refine zsp 35 rfl (fun h4=>?_) fun h4=>?_
    ·rw [h4];replace h4:=zcl h4
     refine J7 ?_
     refine zg7 ?_
     refine zon ?_
     refine Qj rfl ?_
     refine zw1 ?_
     refine zrt ?_
     refine Z5 rfl hcl trivial (Q8 (YC ?_))
     rw [YE];intro hj;obtain ⟨j1,j2,⟨j3,j4,j5⟩,j6,j7,j8⟩:=hj
     simp_all
    ·rw [h4];replace h4:=zcl h4
     refine zg9 ?_
     refine zsp 44 rfl (fun h5=>?_) fun h5=>?_
     ·rw [h5];replace h5:=zcl h5
      refine zv8 ?_
      refine Qj rfl ?_
      refine zw1 ?_
      refine zrt ?_
      refine Z5 rfl hcl trivial (Q8 (YC ?_))
      rw [YE];intro hj;obtain ⟨j1,j2,⟨j3,j4,j5⟩,j6,j7,j8⟩:=hj
      simp_all
     ·rw [h5];replace h5:=zcl h5
      refine zv8 ?_
      refine Q2 rfl (fun h6=>?_) (fun h6=>?_)
      ·(try rw [h6]);replace h6:=zcl h6
       refine zw1 ?_
       refine zrt ?_
       refine Z5 rfl hcl trivial (Q8 (YC ?_))
       rw [YE];intro hj;obtain ⟨j1,j2,⟨j3,j4,j5⟩,j6,j7,j8⟩:=hj
       simp_all
      ·(try rw [h6]);replace h6:=zcl h6
       have hlen1:x.l.length=y.l.length:=by omega
       have hlen2:x.m.length=y.m.length:=by omega
       refine Q1 ?_
       refine Q0 ?_
       refine zw1 ?_
       refine Qa ?_
       refine Qs (ι:=Nat) (fun i=>i≤x.l.length∧∀ j:Nat,j < i→x.l[j]? =y.l[j]?) (fun i=>⟨[],[(2,.ptr (σ.length+0) 0),(3,.ptr (σ.length+1) 0),(5,.int .i64 (i:Int))]⟩) (fun i=>σ++[_,_]) (fun i=>x.l.length - i) (0) (⟨Nat.zero_le _,fun j hj=>absurd hj (by omega)⟩) ?_ rfl (fun i hi=>?_)
       ·exact ⟨rfl,rfl,rfl,rfl,trivial⟩
       obtain ⟨hi1,hi2⟩:=hi
       refine Q0 ?_
       refine zw5 ?_
       refine Q2 rfl (fun h7=>?_) (fun h7=>?_)
       ·(try rw [h7]);replace h7:=zcl h7
        obtain ⟨u,hu⟩:∃ u,x.l[i]? =some u:=⟨_,List.getElem?_eq_getElem (show i < x.l.length by omega)⟩
        obtain ⟨w,hw⟩:∃ w,y.l[i]? =some w:=⟨_,List.getElem?_eq_getElem (show i < y.l.length by omega)⟩
        have hlm:=ZG hu
        refine Q1 ?_
        refine Q0 ?_
        refine Qa ?_
        refine Q0 ?_
        refine Qb #[0,1,0,7,15,0,32,0,224,480,1023,2047] Tryz.mixed (by decide +kernel) (by decide +kernel) ?_
        refine zd1 ?_
        refine zp1 ?_
        refine zd1 ?_
        refine yA rfl rfl (fun _=>Qe rfl Tryz.underlying25 Tryz.sizeOf28 rfl rfl (by omega) (Jp hu)) ?_
        rw [Q3 u]
        refine zp1 ?_
        refine zd1 ?_
        refine zp1 ?_
        refine zd1 ?_
        refine yA rfl rfl (fun _=>Qe rfl Tryz.underlying25 Tryz.sizeOf28 rfl rfl (by omega) (Jp hw)) ?_
        rw [Q3 w]
        refine zp1 ?_
        refine yP rfl rfl (zc rfl (AC2 (Q3 u) (Q3 w) (ih u w _ (by omega) (Ys hb5 hu) (Ys hc5 hw)))) (trivial) ?_
        refine zd1 ?_
        refine RP.nil rfl ?_
        refine zw2 ?_
        refine Q2 rfl (fun h8=>?_) (fun h8=>?_)
        ·(try rw [h8]);replace h8:=zcl h8
         refine zw1 ?_
         refine zrt ?_
         refine Z5 rfl hcl trivial (Q8 (YC fun e=>?_))
         rw [e] at hu;rw [hu] at hw;cases hw;rw [UP rfl] at h8;cases h8
        ·(try rw [h8]);replace h8:=zcl h8
         refine Q1 ?_
         refine Q4 ?_
         refine zv3 ?_
         have huw:=(Yh _).1 h8
         refine ⟨i+1,σ.length+2,⟨by omega,fun j hj=>?_⟩,by omega,by simp,⟨rfl,rfl,rfl,rfl,trivial⟩,Qh 2 hcl ?_,?_,Qo 2⟩
         ·by_cases e:j=i
          ·subst e;rw [hu,hw,huw]
          ·exact hi2 j (by omega)
         ·simp [ownLt,AO.cells,AV.ltL,AV.lt]
         ·simp [ltE,AV.lt]
       ·(try rw [h7]);replace h7:=zcl h7
        have hL:x.l=y.l:=Ky hlen1 fun j hj=>hi2 j (by omega)
        clear hi2 hi1 h7
        refine Qg ?_
        refine Q0 ?_
        refine zw1 ?_
        refine Qa ?_
        refine Qs (ι:=Nat) (fun i=>i≤x.m.length∧∀ j:Nat,j < i→x.m[j]? =y.m[j]?) (fun i=>⟨[],[(2,.ptr (σ.length+0) 0),(3,.ptr (σ.length+1) 0),(7,.int .i64 (i:Int))]⟩) (fun i=>σ++[_,_]) (fun i=>x.m.length - i) (0) (⟨Nat.zero_le _,fun j hj=>absurd hj (by omega)⟩) ?_ rfl (fun i hi=>?_)
        ·exact ⟨rfl,rfl,rfl,rfl,trivial⟩
        obtain ⟨hi3,hi4⟩:=hi
        refine Q0 ?_
        refine zw5 ?_
        refine Q2 rfl (fun h9=>?_) (fun h9=>?_)
        ·(try rw [h9]);replace h9:=zcl h9
         obtain ⟨u,hu⟩:∃ u,x.m[i]? =some u:=⟨_,List.getElem?_eq_getElem (show i < x.m.length by omega)⟩
         obtain ⟨w,hw⟩:∃ w,y.m[i]? =some w:=⟨_,List.getElem?_eq_getElem (show i < y.m.length by omega)⟩
         have hms:=XS hu
         refine Q1 ?_
         refine Q0 ?_
         refine Qa ?_
         refine Q0 ?_
         refine Qb #[0,1,0,7,15,31,0,64,0,448,960,1984,4095,8191] Tryz.mixed (by decide +kernel) (by decide +kernel) ?_
         refine zd1 ?_
         refine zp1 ?_
         refine zd1 ?_
         refine yA rfl rfl (fun _=>Qe rfl Tryz.underlying26 Tryz.sizeOf67 rfl rfl (by omega) (Yf hu)) ?_
         refine zd1 ?_
         rw [Q3 u.2]
         refine zp1 ?_
         refine zd1 ?_
         refine zp1 ?_
         refine zd1 ?_
         refine yA rfl rfl (fun _=>Qe rfl Tryz.underlying26 Tryz.sizeOf67 rfl rfl (by omega) (Yf hw)) ?_
         refine zd1 ?_
         rw [Q3 w.2]
         refine zp1 ?_
         refine yP rfl rfl (zc rfl (AC2 (Q3 u.2) (Q3 w.2) (ih u.2 w.2 _ (by omega) (JR hb6 hu).2 (JR hc6 hw).2))) (trivial) ?_
         refine zd1 ?_
         refine RP.nil rfl ?_
         refine Q0 ?_
         refine Qb #[0,1,3,7,15,7,63,127,255,7,519,7,3591,7687,15879,32767,65535] Tryz.mixed (by decide +kernel) (by decide +kernel) ?_
         refine zd3 ?_
         refine Q1u 95 rfl (fun h10=>?_) fun h10=>?_
         ·rw [h10];replace h10:=zcl h10
          refine Uh ?_
          refine zd4 ?_
          refine RP.nil rfl ?_
          refine Qj rfl ?_
          refine zw1 ?_
          refine zrt ?_
          refine Z5 rfl hcl trivial (Q8 (YC fun e=>?_))
          rw [e] at hu;rw [hu] at hw;cases hw;rw [UP rfl] at h10;cases h10
         ·rw [h10];replace h10:=zcl h10
          refine zd1 ?_
          refine zp1 ?_
          refine zd1 ?_
          refine yAG rfl rfl rfl (fun _=>Qe rfl Tryz.underlying26 Tryz.sizeOf67 rfl rfl (by omega) (Yf hu)) ?_
          refine zd1 ?_
          refine zp1 ?_
          refine zd1 ?_
          refine zp1 ?_
          refine zd1 ?_
          refine yAG rfl rfl rfl (fun _=>Qe rfl Tryz.underlying26 Tryz.sizeOf67 rfl rfl (by omega) (Yf hw)) ?_
          refine zd1 ?_
          refine zp1 ?_
          refine zd2 ?_
          refine RP.nil rfl ?_
          refine Q2 rfl (fun h11=>?_) (fun h11=>?_)
          ·(try rw [h11]);replace h11:=zcl h11
           refine zw1 ?_
           refine zrt ?_
           refine Z5 rfl hcl trivial (Q8 (YC fun e=>?_))
           rw [e] at hu;rw [hu] at hw;cases hw;exact h11 rfl
          ·(try rw [h11]);replace h11:=zcl h11
           refine Q1 ?_
           refine Q4 ?_
           refine zv3 ?_
           have huw:=(Yh _).1 h10
           refine ⟨i+1,σ.length+2,⟨by omega,fun j hj=>?_⟩,by omega,by simp,⟨rfl,rfl,rfl,rfl,trivial⟩,Qh 2 hcl ?_,?_,Qo 2⟩
           ·by_cases e:j=i
            ·subst e;rw [hu,hw,Prod.ext h11 huw]
            ·exact hi4 j (by omega)
           ·simp [ownLt,AO.cells,AV.ltL,AV.lt]
           ·simp [ltE,AV.lt]
        ·(try rw [h9]);replace h9:=zcl h9
         have hM:x.m=y.m:=Ky hlen2 fun j hj=>hi4 j (by omega)
         refine Qg ?_
         refine zw1 ?_
         refine zrt ?_
         refine Z5 rfl hcl trivial (Q8 (Q2X ((YE x y).2 ?_)))
         simp_all
end Lg
namespace Lg
open Go
variable [GLay]
def cA (r:JT×Int×Int):AV:=if r.2.2=0 then .pp (tc r.1) else .nilp
theorem QbN {r:JT×Int×Int} (h:r.2.2=0):cA r= .pp (tc r.1):=by unfold cA;rw [if_pos h]
theorem cA_n {r:JT×Int×Int} (h:¬r.2.2=0):cA r= .nilp:=by unfold cA;rw [if_neg h]
theorem Qdn (m:Nat) (r:JT×Int×Int):(cA r).lt m:=by unfold cA;split<;>simp [AV.lt]
theorem Q4U {r:TR} (h:eC r.2.2=0):trA r= .pp (tc r.1):=Q4V (Q6X h)
open Classical in
noncomputable def tmA (t:JT) (o:JOp) (nx:Int):AV:=
 if o.fr.length < o.pa.length∧o.pa.take o.fr.length=o.fr then .nilp else
 match Xi o.fr t with
 |none=>.pp (tc t)
 |some x=>if o.pa=o.fr then .pp (tc t) else if (Z8 o.fr t nx).2.2 ≠ 0 then .nilp else trA (ZR o.pa x (Z8 o.fr t nx).1 (Z8 o.fr t nx).2.1)
section
variable {t x:JT} {o:JOp} {nx:Int}
theorem Qby (h:o.fr.length < o.pa.length∧o.pa.take o.fr.length=o.fr):tmv t o nx=(t,nx,9)∧tmA t o nx= .nilp:=by unfold tmv tmA;rw [if_pos h,if_pos h];exact ⟨rfl,rfl⟩
theorem Qbz (h:¬(o.fr.length < o.pa.length∧o.pa.take o.fr.length=o.fr)) (hx:Xi o.fr t=none):tmv t o nx=(t,nx,6)∧tmA t o nx= .pp (tc t):=by unfold tmv tmA;rw [if_neg h,if_neg h,hx];exact ⟨rfl,rfl⟩
theorem QbA (h:¬(o.fr.length < o.pa.length∧o.pa.take o.fr.length=o.fr)) (hx:Xi o.fr t=some x) (he:o.pa=o.fr):tmv t o nx=(t,nx,0)∧tmA t o nx= .pp (tc t):=by
 unfold tmv tmA;rw [if_neg h,if_neg h,hx];simp only;rw [if_pos he,if_pos he];exact ⟨rfl,rfl⟩
theorem QbB (h:¬(o.fr.length < o.pa.length∧o.pa.take o.fr.length=o.fr)) (hx:Xi o.fr t=some x) (he:¬o.pa=o.fr) (hr:¬(Z8 o.fr t nx).2.2=0):tmv t o nx=Z8 o.fr t nx∧tmA t o nx= .nilp:=by
 unfold tmv tmA;rw [if_neg h,if_neg h,hx];simp only;rw [if_neg he,if_neg he,if_pos hr,if_pos hr];exact ⟨rfl,rfl⟩
theorem QbC (h:¬(o.fr.length < o.pa.length∧o.pa.take o.fr.length=o.fr)) (hx:Xi o.fr t=some x) (he:¬o.pa=o.fr) (hr:(Z8 o.fr t nx).2.2=0):tmv t o nx=tE (ZR o.pa x (Z8 o.fr t nx).1 (Z8 o.fr t nx).2.1)∧tmA t o nx=trA (ZR o.pa x (Z8 o.fr t nx).1 (Z8 o.fr t nx).2.1):=by
 unfold tmv tmA;rw [if_neg h,if_neg h,hx];simp only;rw [if_neg he,if_neg he,if_neg (fun z=>z hr),if_neg (fun z=>z hr)];exact ⟨rfl,rfl⟩
theorem Qec (h:(tmv t o nx).2.2=0):tmA t o nx= .pp (tc (tmv t o nx).1):=by
 by_cases h1:o.fr.length < o.pa.length∧o.pa.take o.fr.length=o.fr
 ·rw [(Qby h1).1] at h;exact absurd h (show ¬(9:Int)=0 by decide)
 ·cases hx:Xi o.fr t with
  |none=>rw [(Qbz h1 hx).1] at h;exact absurd h (show ¬(6:Int)=0 by decide)
  |some x=>
   by_cases he:o.pa=o.fr
   ·obtain ⟨e1,e2⟩:=QbA (nx:=nx) h1 hx he;rw [e1,e2]
   ·by_cases hr:(Z8 o.fr t nx).2.2=0
    ·obtain ⟨e1,e2⟩:=QbC (nx:=nx) h1 hx he hr;rw [e1] at h;rw [e1,e2];exact Q4U h
    ·obtain ⟨e1,e2⟩:=QbB (nx:=nx) h1 hx he hr;rw [e1] at h;exact absurd h hr
noncomputable def tdA (t:JT) (o:JOp) (nx:Int):AV:=open Classical in
 if o.op=1 then trA (ZR o.pa (tj o.v nx) t (nx+Q6 o.v)) else
 if o.op=2 then cA (Z8 o.pa t nx) else
 if o.op=3 then trA (Kn o.pa o.v t nx) else
 if o.op=4 then tmA t o nx else
 match Xi (if o.op=6 then o.pa else o.fr) t with
 |none=>.nilp
 |some x=>if o.op=5 then trA (ZR o.pa x t nx) else if tv x=o.v then .pp (tc t) else .nilp
theorem Qbq (h:o.op=1):tdo t o nx=tE (ZR o.pa (tj o.v nx) t (nx+Q6 o.v))∧tdA t o nx=trA (ZR o.pa (tj o.v nx) t (nx+Q6 o.v)):=by unfold tdo tdA;rw [if_pos h,if_pos h];exact ⟨rfl,rfl⟩
theorem Qbr (h:o.op=2):tdo t o nx=Z8 o.pa t nx∧tdA t o nx=cA (Z8 o.pa t nx):=by unfold tdo tdA;rw [if_neg (show ¬o.op=1 by omega),if_neg (show ¬o.op=1 by omega),if_pos h,if_pos h];exact ⟨rfl,rfl⟩
theorem Qbs (h:o.op=3):tdo t o nx=tE (Kn o.pa o.v t nx)∧tdA t o nx=trA (Kn o.pa o.v t nx):=by unfold tdo tdA;rw [if_neg (show ¬o.op=1 by omega),if_neg (show ¬o.op=1 by omega),if_neg (show ¬o.op=2 by omega),if_neg (show ¬o.op=2 by omega),if_pos h,if_pos h];exact ⟨rfl,rfl⟩
theorem Qbt (h:o.op=4):tdo t o nx=tmv t o nx∧tdA t o nx=tmA t o nx:=by
 unfold tdo tdA;rw [if_neg (show ¬o.op=1 by omega),if_neg (show ¬o.op=1 by omega),if_neg (show ¬o.op=2 by omega),if_neg (show ¬o.op=2 by omega),if_neg (show ¬o.op=3 by omega),if_neg (show ¬o.op=3 by omega),if_pos h,if_pos h];exact ⟨rfl,rfl⟩
variable (n1:¬o.op=1) (n2:¬o.op=2) (n3:¬o.op=3) (n4:¬o.op=4)
include n1 n2 n3 n4
theorem Qbu (hx:Xi (if o.op=6 then o.pa else o.fr) t=none):tdo t o nx=(t,nx,6)∧tdA t o nx= .nilp:=by
 unfold tdo tdA;rw [if_neg n1,if_neg n1,if_neg n2,if_neg n2,if_neg n3,if_neg n3,if_neg n4,if_neg n4,hx];exact ⟨rfl,rfl⟩
theorem Qbv (hx:Xi (if o.op=6 then o.pa else o.fr) t=some x) (h:o.op=5):tdo t o nx=tE (ZR o.pa x t nx)∧tdA t o nx=trA (ZR o.pa x t nx):=by
 unfold tdo tdA;rw [if_neg n1,if_neg n1,if_neg n2,if_neg n2,if_neg n3,if_neg n3,if_neg n4,if_neg n4,hx];simp only;rw [if_pos h,if_pos h];exact ⟨rfl,rfl⟩
theorem Qbw (hx:Xi (if o.op=6 then o.pa else o.fr) t=some x) (h:¬o.op=5) (hs:¬tv x=o.v):tdo t o nx=(t,nx,8)∧tdA t o nx= .nilp:=by
 unfold tdo tdA;rw [if_neg n1,if_neg n1,if_neg n2,if_neg n2,if_neg n3,if_neg n3,if_neg n4,if_neg n4,hx];simp only;rw [if_neg h,if_neg h,if_neg hs,if_neg hs];exact ⟨rfl,rfl⟩
theorem Qbx (hx:Xi (if o.op=6 then o.pa else o.fr) t=some x) (h:¬o.op=5) (hs:tv x=o.v):tdo t o nx=(t,nx,0)∧tdA t o nx= .pp (tc t):=by
 unfold tdo tdA;rw [if_neg n1,if_neg n1,if_neg n2,if_neg n2,if_neg n3,if_neg n3,if_neg n4,if_neg n4,hx];simp only;rw [if_neg h,if_neg h,if_pos hs,if_pos hs];exact ⟨rfl,rfl⟩
omit n1 n2 n3 n4
theorem Qbp (h:(tdo t o nx).2.2=0):tdA t o nx= .pp (tc (tdo t o nx).1):=by
 by_cases n1:o.op=1
 ·obtain ⟨e1,e2⟩:=Qbq (t:=t) (nx:=nx) n1;rw [e1] at h;rw [e1,e2];exact Q4U h
 by_cases n2:o.op=2
 ·obtain ⟨e1,e2⟩:=Qbr (t:=t) (nx:=nx) n2;rw [e1] at h;rw [e1,e2];exact QbN h
 by_cases n3:o.op=3
 ·obtain ⟨e1,e2⟩:=Qbs (t:=t) (nx:=nx) n3;rw [e1] at h;rw [e1,e2];exact Q4U h
 by_cases n4:o.op=4
 ·obtain ⟨e1,e2⟩:=Qbt (t:=t) (nx:=nx) n4;rw [e1] at h;rw [e1,e2];exact Qec h
 cases hx:Xi (if o.op=6 then o.pa else o.fr) t with
 |none=>rw [(Qbu n1 n2 n3 n4 hx).1] at h;exact absurd h (show ¬(6:Int)=0 by decide)
 |some x=>
  by_cases n5:o.op=5
  ·obtain ⟨e1,e2⟩:=Qbv (nx:=nx) n1 n2 n3 n4 hx n5;rw [e1] at h;rw [e1,e2];exact Q4U h
  ·by_cases hs:tv x=o.v
   ·obtain ⟨e1,e2⟩:=Qbx (nx:=nx) n1 n2 n3 n4 hx n5 hs;rw [e1,e2]
   ·rw [(Qbw n1 n2 n3 n4 hx n5 hs).1] at h;exact absurd h (show ¬(8:Int)=0 by decide)
theorem Qd8 (m:Nat):(tmA t o nx).lt m:=by
 unfold tmA
 split
 ·trivial
 ·split
  ·exact VU _ _
  ·split
   ·exact VU _ _
   ·split
    ·trivial
    ·exact Vn _ _
end
end Lg
namespace Lg
open Go
variable [GLay]
noncomputable def tpA (l:List JOp) (t:JT) (nx:Int):AV:=if (tap l t nx 0).2.2.1=0 then .pp (tc (tap l t nx 0).1) else .nilp
noncomputable def tpN (l:List JOp) (t:JT) (nx:Int):Int:=if (tap l t nx 0).2.2.1=0 then (tap l t nx 0).2.1 else nx
theorem Q8Y {l:List JOp} {t:JT} {nx:Int} (h:(tap l t nx 0).2.2.1=0):tpA l t nx= .pp (tc (tap l t nx 0).1)∧tpN l t nx=(tap l t nx 0).2.1:=by unfold tpA tpN;rw [if_pos h,if_pos h];exact ⟨rfl,rfl⟩
theorem Q8Z {l:List JOp} {t:JT} {nx:Int} (h:¬(tap l t nx 0).2.2.1=0):tpA l t nx= .nilp∧tpN l t nx=nx:=by unfold tpA tpN;rw [if_neg h,if_neg h];exact ⟨rfl,rfl⟩
theorem Q3d {l:List JOp} {i:Nat} {o:JOp} (h:l[i]? =some o):Xf (l.drop i)=Jy o+Xf (l.drop (i+1)):=by
 have hi:=(List.getElem?_eq_some_iff.1 h).1
 rw [List.drop_eq_getElem_cons hi,Xf]
 have:=List.getElem?_eq_getElem hi
 rw [h] at this;rw [Option.some.inj this]
noncomputable def tck (t:JT) (o:JOp) (nx:Int):Int:=Xm (tv (tdo t o nx).1,(tdo t o nx).2.2)
theorem Qea {t:JT} {o:JOp} {nx:Int} (h:¬(tdo t o nx).2.2=0):tck t o nx=(tdo t o nx).2.2:=Q0A (r:=(tv (tdo t o nx).1,(tdo t o nx).2.2)) h
theorem Qe9 {t:JT} {o:JOp} {nx:Int} (h:(tdo t o nx).2.2=0) (h1:3000 < Q6 (tv (tdo t o nx).1)):tck t o nx=5:=Q7g (r:=(tv (tdo t o nx).1,(tdo t o nx).2.2)) h h1
theorem Qe8 {t:JT} {o:JOp} {nx:Int} (h:(tdo t o nx).2.2=0) (h1:¬3000 < Q6 (tv (tdo t o nx).1)) (h2:32 < QZ (tv (tdo t o nx).1)):tck t o nx=3:=Q7f (r:=(tv (tdo t o nx).1,(tdo t o nx).2.2)) h h1 h2
theorem Qd1 {t:JT} {o:JOp} {nx:Int} (h:(tdo t o nx).2.2=0) (h1:¬3000 < Q6 (tv (tdo t o nx).1)) (h2:¬32 < QZ (tv (tdo t o nx).1)):tck t o nx=0:=Q47 (r:=(tv (tdo t o nx).1,(tdo t o nx).2.2)) h h1 h2
theorem Qe7 {t:JT} {o:JOp} {nx:Int} (h:tck t o nx=0):(tdo t o nx).2.2=0∧Q6 (tv (tdo t o nx).1)≤3000∧QZ (tv (tdo t o nx).1)≤32:=Q0z h
theorem QaN {t:JT} {o:JOp} {nx:Int} (hob:OPB o) (hw:TW t) (hb:jb (tv t)) (hz:Q6 (tv t)≤3000):0≤tck t o nx∧tck t o nx≤9:=by
 have h:=Q1l hob nx hw
 have h2:=Q1O hob hb (Jx t hw) hz
 rw [(GT hob).1,←h.1] at h2
 exact h2
end Lg
namespace Lg
open Go
variable [GLay]
def tbx (q:Nat) (frm:Int) (S:LS):AO:=.box [.mapv q,.int .i64 frm,.int .i64 S.2.1,.int .i64 S.2.2]
def tst (σ:List AO) (p q:Nat) (frm:Int) (S:LS):List AO:=(σ.set p (tbx q frm S)).set q (.map (Za S.1))
section
variable {σ l:List AO} {p q:Nat} {frm:Int} {S S':LS}
theorem XI:(tst σ p q frm S).length=σ.length:=by unfold tst;simp
theorem Q2z (h:p ≠ q) (hp:p < σ.length):(tst σ p q frm S)[p]? =some (tbx q frm S):=s2_p h hp
theorem Q2A (hq:q < σ.length):(tst σ p q frm S)[q]? =some (.map (Za S.1)):=Qe3 hq
theorem Q4X (h:p ≠ q):tst (tst σ p q frm S) p q frm S'=tst σ p q frm S':=QcT h
theorem F9 (hp:σ[p]? =some (tbx q frm S)) (hq:σ[q]? =some (.map (Za S.1))):tst σ p q frm S=σ:=QaA hp hq
theorem Zm (hc:closed σ.length σ) (hq:q < σ.length) (hl:∀ a∈S.1,a.2.lt σ.length):closed σ.length (tst σ p q frm S):=Q68 hc (by simp [tbx,AO.cells,AV.ltL,AV.lt];omega) (Wy _ _ hl)
theorem Q6N {P:Program} {f:FuncId} {args:List AV} {v:AV} (hp:p < σ.length) (hq:q < σ.length) (h:ACalls P f args (σ++l) (Ret v (tst (σ++l) p q frm S))):ACalls P f args (σ++l) (Ret v (tst σ p q frm S++l)):=QbP hp hq h
end
structure TP (G:Int→JV) (N:Int) (t:JT) (deep frm:Int) (S:LS) (p q:Nat) (σ:List AO):Prop where
 hp:σ[p]? =some (tbx q frm S)
 hq:σ[q]? =some (.map (Za S.1))
 w:TW t
 jb:Lg.jb (tv t)
 con:Con G N t
 sg:SG G N S.1
 len:(S.1.length:Int)+Q6 (tv t)≤20000
 d0:0≤deep
 dd:deep+QZ (tv t)≤40
 nN:N≤1000000000000
 n0:0≤S.2.1
 nb:S.2.1+Q6 (tv t)≤1000000
theorem TP.ne {G:Int→JV} {N:Int} {t:JT} {deep frm:Int} {S:LS} {p q:Nat} {σ:List AO} (h:TP G N t deep frm S p q σ):p ≠ q:=fun e=>by
 have h1:=h.hp;have h2:=h.hq
 rw [e,h2] at h1;cases h1
theorem Q9l (frm:Int) (a b:List (Int×AV)):cnt frm (a++b)=cnt frm a+cnt frm b:=by unfold cnt;rw [List.filter_append,List.length_append]
theorem QbR (frm:Int) (a:List (Int×AV)):cnt frm a≤a.length:=List.length_filter_le _ _
theorem LR.nb {G:Int→JV} {N frm:Int} {S S':LS} {c:Int} (h:LR G N frm S S' c):S.2.1≤S'.2.1∧S'.2.1≤S.2.1+c:=by
 obtain ⟨r,hr⟩:=h.ext
 have h1:=h.new
 have h2:=h.len
 rw [hr,Q9l] at h1
 rw [hr,List.length_append] at h2
 have:=QbR frm r
 constructor<;>omega
theorem FC (l:List JT) (i:Nat):Qm (tvs (l.take i))≤Qm (tvs l):=by rw [Vp];exact ZA _ i
section
variable {G:Int→JV} {N:Int} {t:JT} {deep frm:Int} {S:LS} {p q:Nat} {σ:List AO} (h:TP G N t deep frm S p q σ)
include h
theorem TP.take (i:Nat):LR G N frm S (lks frm (t.ch.take i) S) (Qm (tvs (t.ch.take i))):=
 Q3c _ S (fun x hx=>((Vq t).1 h.w).2.2.2.2 x (List.mem_of_mem_take hx)) (fun x hx=>((KY t).1 h.con).2.2.2 x (List.mem_of_mem_take hx)) h.sg
theorem TP.kid {i:Nat} {y:JT} (hy:t.ch[i]? =some y) {τ l:List AO} (hp:τ[p]? =some (tbx q frm (lks frm (t.ch.take i) S))) (hq:τ[q]? =some (.map (Za (lks frm (t.ch.take i) S).1))):
  TP G N y (deep+1) frm (lks frm (t.ch.take i) S) p q (τ++l):=by
 have h1:=h.take i
 have h2:=h1.nb
 have h3:=h1.len
 have h4:=h.len
 have h5:=h.nb
 have h6:=V8 h.w
 have h7:Qm (tvs (t.ch.take i))+Q6 (tv y)≤Qm (tvs t.ch):=by
  have:=FC t.ch (i+1)
  rw [QV hy,Ua,tvs,tvs,Jg,Qm,Qm] at this;omega
 have h8:=FO h.w
 have h9:=Q7x (YP hy)
 have h10:t.k=4∨t.k=5:=by
  by_cases h4:t.k=4
  ·exact .inl h4
  ·by_cases h5:t.k=5
   ·exact .inr h5
   ·rw [Q0c h.w h4 h5] at hy;simp at hy
 rw [if_pos h10] at h8
 have h11:=h.dd
 have h12:=h.d0
 have h13:=h.n0
 exact ⟨QD hp,QD hq,JW h.w hy,Q6k h.w hy h.jb,Q0n h.con hy,h1.sg,by omega,by omega,by omega,h.nN,by omega,by omega⟩
theorem TP.all:LR G N frm S (lk frm t S) (Q6 (tv t)):=(Q1U t S h.w h.con h.sg).1
theorem TP.lt (k:Nat) (i:Nat):∀ a∈(lks frm (t.ch.take i) S).1,a.2.lt k:=fun a ha=>by
 rw [((h.take i).sg.val a ha).1];simp [AV.lt]
theorem TP.ltA (k:Nat):∀ a∈(lk frm t S).1,a.2.lt k:=fun a ha=>by
 rw [(h.all.sg.val a ha).1];simp [AV.lt]
theorem TP.own:G t.id=tv t∧0≤t.id∧t.id < N:=by obtain ⟨h1,h2,h3,_⟩:=(KY t).1 h.con;exact ⟨h3,h1,h2⟩
end
theorem Qcn {frm:Int} {t:JT} {S Sn:LS} (hs:lks frm t.ch S=Sn) {j:Nat} {a:AV} (h:Z9 Sn.1 t.id=some (j,a)):lk frm t S=(Sn.1,Sn.2.1,max Sn.2.2 t.id):=by
 rw [Qbb,hs];unfold lk1;rw [h];rfl
theorem Q5C {frm:Int} {t:JT} {S Sn:LS} (hs:lks frm t.ch S=Sn) (h:Z9 Sn.1 t.id=none):lk frm t S=(Sn.1++[(t.id,.agg (Qf (tv t)))],Sn.2.1+(if frm≤t.id then 1 else 0),max Sn.2.2 t.id):=by
 rw [Qbb,hs];unfold lk1;rw [h];rfl
theorem SG.get {G:Int→JV} {N:Int} {M:List (Int×AV)} (h:SG G N M) {id:Int} {z:Nat×AV} (hg:Z9 M id=some z):z.2= .agg (Qf (G id)):=(h.val _ (Q1M hg)).1
theorem AOp.le {P:Program} {σ σ':List AO} {e:Env} {o:Oper} {v v':AV} (h:AOp P σ e o v σ') (hle:AVle v v'):AOp P σ e o v' σ':=
 fun s a hs g hv K Q hk hq=>h s a hs g hv K Q (fun w cv s' hN g' x' hV=>hk v' cv s' ⟨rfl,hN.2⟩ g' x' (by obtain ⟨rfl,_⟩:=hN;exact hle _ _ hV)) hq
theorem AVle.tup2 {a b a' b':AV} (h:AVle a a') (k:AVle b b'):AVle (.tup [a,b]) (.tup [a',b']):=fun s v hv=>by
 cases hv with
 |tup cs vs hl hc=>
  match vs,hl with
  |[x,y],_=>exact V.tup2 (h s x (hc 0 a x rfl rfl)) (k s y (hc 1 b y rfl rfl))
section
variable {T K E:TypeId} {a b:Operand} {m:List (Int×AV)} {k:Int} {z:Value} {P:Program} {σ:List AO} {e:Env} {o:Oper}
theorem XT {q:Nat} {w:AV} {has:Bool} (ho:o.op= .lookup T a b true) (hu:P.underlying T=some (.map K E)) (hK:P.underlying K=some (.int .i64)) (hz:∀ w,(zeroValue E).run P w=Result.ok z w) (hx:opO e a=some (.mapv q)) (hy:opO e b=some (.int .i64 k))
  (hσ:σ[q]? =some (.map (Za m))) (hh:(Z9 m k).isSome=has) (hn:AVle (((Z9 m k).map (·.2)).getD (VC z)) w):AOp P σ e o (.tup [w,.bool has]) σ:=by
 have h:=Q24 ho hu hK hz hx hy hσ
 rw [hh] at h
 exact h.le (AVle.tup2 hn (AVle.refl _))
end
end Lg
set_option maxRecDepth 20000
set_option maxHeartbeats 4000000
namespace Lg
open Go Go.Proofs Go.RowKit
variable [GLay]
theorem Hz (w v:JV) (cs ds:List AV) (σ:List AO) (hc:Qf w=cs) (hd:Qf v=ds) (hw:jb w) (hv:jb v) (hs:Q6 w≤100000):ACalls Tryz.prog 18 [.agg cs,.agg ds] σ (Ret (.bool (pb (w=v))) σ):=by
  subst hc;subst hd
  exact UU 100000 w v σ hs hw hv
theorem HS {M:List (Int×AV)} {id:Int} {v:JV} {z:AV} {G:Int→JV} {N:Int} (hs:SG G N M) (hG:G id=v) (hjb:jb v) (hsz:Q6 v≤100000) (hz:AVle z (.agg (Qf vz))):∃ w:JV,AVle (((Z9 M id).map (·.2)).getD z) (.agg (Qf w))∧((Z9 M id).isSome=true→w=v)∧jb w∧Q6 w≤100000:=by
  cases hg:Z9 M id with
  |none=>exact ⟨vz,hz,(fun h=>nomatch h),XF,by rw [Q58];decide⟩
  |some q=>exact ⟨v,by show AVle q.2 _;rw [hs.get hg,hG];exact AVle.refl _,fun _=>rfl,hjb,hsz⟩
theorem Q9e:AVle (.agg [.int .i64 0,.bool false,.bool false,.str ⟨#[]⟩,.int .i64 0,.str ⟨#[]⟩,.nils,.nils]) (.agg (Qf vz)):=AVle.agg (Qdi XA Xt)
theorem Qd6 (n:Nat) (G:Int→JV) (N:Int) (ih:∀ (y:JT) (deep frm:Int) (S:LS) (p q:Nat) (τ:List AO),Q6 (tv y)≤n→TP G N y deep frm S p q τ→ACalls Tryz.prog 13 [.ptr p 0,.pp (tc y),.int .i64 deep] τ (Ret (.int .i64 1) (tst τ p q frm (lk frm y S)))) (t:JT) (v:JV) (hv:tv t=v) (deep frm:Int) (S:LS) (p q:Nat) (σ:List AO) (hn:Q6 v≤n+1) (hP:TP G N t deep frm S p q σ) (hk:v.kind=4):ACalls Tryz.prog 13 [.ptr p 0,.pp (tc t),.int .i64 deep] σ (Ret (.int .i64 1) (tst σ p q frm (lk frm t S))):=by
 have hw:=hP.w
 have hjb:=hP.jb
 have hlen:=hP.len
 have hd0:=hP.d0
 have hdd:=hP.dd
 have hnN:=hP.nN
 have hn0:=hP.n0
 have hnb:=hP.nb
 have hjs:=V8 hw
 have hjd:=Yl (tv t)
 have hpl:p < σ.length:=(List.getElem?_eq_some_iff.1 hP.hp).1
 have hql:q < σ.length:=(List.getElem?_eq_some_iff.1 hP.hq).1
 have hpq:=hP.ne
 have hps:=hP.hp
 have hqs:=hP.hq
 have hps1:σ[p]? =some (.box [.mapv q,.int .i64 frm,.int .i64 (S.2.1),.int .i64 (S.2.2)]):=hps
 have hbl:=ZD t.ks
 have htl:=X0 t.ch
 have him:(Za S.1).length=S.1.length:=List.length_map _
 rw [hv] at hjb hlen hdd hnb hjs hjd
 have hvl:=Xz t.ch
 have hlln:=Yu (tvs t.ch)
 have hvp:=Qi v
 obtain ⟨hb1,hb2,hb3,hb4,hb5,hb6⟩:=(Zy v).1 hjb
 have hll:=Q50 hv hk
 have hm0:=Q93 hw hv (show ¬v.kind=5 by omega)
 have hk0:t.ks.length=0:=by rw [Uc hw (by rw [← XK,hv];omega)];rfl
 refine Qc Tryz.func13 rfl Tryz.ntmps13 (XE Tryz.results13) (Nat.le_of_ble_eq_true rfl) (fun hcl hal=>?_)
 rw [FB t,hv]
 refine zw1 ?_
 refine Q0 ?_
 refine zu4 ?_
 refine ztG rfl rfl (XH rfl rfl rfl (by omega)) ?_
 refine zg6 ?_
 refine ztG rfl rfl (UI rfl rfl Tryz.underlying38 rfl hqs) ?_
 refine ztG rfl rfl (XH rfl rfl rfl (by omega)) ?_
 refine zv1 ?_
 refine Qd rfl ?_
 refine Q1 ?_
 refine Q0 ?_
 refine Q0 ?_
 refine Qb #[0,1,3,7,15,31,63,127,255,511,1023,2047,127,4223,12415,28799,61567,131071,262143,524287,1048575,2097151,4194303,8388607,16777215,33554431,67108863,134217727,268435455,536870911,1073741823,2147483647,4294967295,8589934591,17179869183,34359738367,68719476735,137438953471,274877906943,549755813887,1099511627775,2199023255551,4398046511103,8796093022207,17592186044415,35184372088831,70368744177663,140737488355327,281474976710655,562949953421311,1125899906842623,2251799813685247,4503599627370495,9007199254740991,18014398509481983,36028797018963967,72057594037927935,144115188075855871,4503599627370495,292733975779082239,869194728082505727,2022116232689352703,4327959241903046655,8939645260330434559,18446744073709551615,36893488147419103231,73786976294838206463] Tryz.mixed (by decide +kernel) (by decide +kernel) ?_
 refine zd4 ?_
 refine zp1 ?_
 refine yA rfl rfl (fun _=>Xx rfl rfl rfl (by omega)) ?_
 refine Uh ?_
 refine zd8 ?_
 refine zp1 ?_
 refine yAG rfl rfl rfl (fun _=>Q4u rfl rfl rfl (by omega)) ?_
 refine zd4 ?_
 refine zp1 ?_
 refine zd1 ?_
 refine yAG rfl rfl rfl (fun _=>XH rfl rfl rfl (by omega)) ?_
 refine zd7 ?_
 refine zp1 ?_
 refine yAG rfl rfl rfl (fun _=>Q0P rfl rfl rfl (by omega)) ?_
 refine Uh ?_
 refine zd4 ?_
 refine zp1 ?_
 refine zd5 ?_
 refine zp1 ?_
 refine zd2 ?_
 refine yAG rfl rfl rfl (fun _=>XH rfl rfl rfl (by decide)) ?_
 refine zd1 ?_
 refine RP.nil rfl ?_
 refine Qd rfl ?_
 refine Q1 ?_
 refine zw6 ?_
 refine Q0 ?_
 refine Q0 ?_
 refine Xv 0 6 8 1 rfl rfl rfl ?_
 refine Q4 ?_
 refine zv1 ?_
 refine Qa ?_
 refine Qs (ι:=Nat×List AO) (fun z=>z.1≤v.l.length∧z.2=tst σ p q frm (lks frm (t.ch.take z.1) S)) (fun z=>⟨[],[(0,.ptr p 0),(1,.pp [.int .i64 t.id,.int .i64 v.kind,.bool v.b,.bool v.n.neg,.str v.n.digits,.int .i64 v.n.exp,.str v.s,.nils,.nils,.sl false 1 (ZC t.ks),.sl false 1 (tcs t.ch)]),(2,.int .i64 deep),(7,.ptr (z.2.length+0) 0),(8,.int .i64 (z.1:Int))]⟩) (fun z=>z.2++[.box [.int .i64 v.kind,.bool v.b,.bool v.n.neg,.str v.n.digits,.int .i64 v.n.exp,.str v.s,.arr (z.2.length+1) z.1 8 0 z.1,.nils],.arr 8 z.1 (Q7 (v.l.take z.1)).flatten]) (fun z=>v.l.length - z.1) ((0,σ)) (⟨Nat.zero_le _,by simp only [List.take_zero,lks];exact (F9 hps hqs).symm⟩) ?_ rfl (fun z hz=>?_)
 ·exact ⟨rfl,rfl,rfl,rfl,rfl,rfl,trivial⟩
 obtain ⟨i,τ⟩:=z
 obtain ⟨hz1,hτ⟩:=hz
 simp only at hz1 hτ ⊢
 have hτl:τ.length=σ.length:=by rw [hτ];exact XI
 have hpt:p < τ.length:=by omega
 have hqt:q < τ.length:=by omega
 have hτp:τ[p]? =some (tbx q frm (lks frm (t.ch.take i) S)):=by rw [hτ];exact Q2z hpq hpl
 have hτq:τ[q]? =some (.map (Za (lks frm (t.ch.take i) S).1)):=by rw [hτ];exact Q2A hql
 have hτc:closed τ.length τ:=by rw [hτl,hτ];exact Zm hcl hql (hP.lt _ _)
 refine Q0 ?_
 refine zw7 ?_
 refine Q2 rfl (fun h1=>?_) (fun h1=>?_)
 ·(try rw [h1]);replace h1:=zcl h1
  obtain ⟨x,hx⟩:∃ x,v.l[i]? =some x:=⟨_,List.getElem?_eq_getElem (show i < v.l.length by omega)⟩
  obtain ⟨y,hy,rfl⟩:=Q4Z hv hk hx
  have hrow:=KK hy
  have hkid:=hP.kid (l:=[.box [.int .i64 v.kind,.bool v.b,.bool v.n.neg,.str v.n.digits,.int .i64 v.n.exp,.str v.s,.arr (τ.length+1) i 8 0 i,.nils],.arr 8 i (Q7 (v.l.take i)).flatten]) hy hτp hτq
  have hkg:=(Q1U (frm:=frm) y (lks frm (t.ch.take i) S) hkid.w hkid.con hkid.sg).2
  have hkz:Q6 (tv y)≤n:=by have:=hkid.w;have h1:=ZG (YP hy);omega
  refine Q1 ?_
  refine Q0 ?_
  refine Qa ?_
  refine Q0 ?_
  refine zu6 ?_
  refine zt rfl (Qe rfl Tryz.underlying55 Tryz.sizeOf34 rfl rfl (by omega) (hrow)) ?_
  refine zg3 ?_
  refine zt rfl (zc rfl (Q6N hpt hqt (ih y (deep+1) frm (lks frm (t.ch.take i) S) p q _ hkz hkid))) ?_
  obtain ⟨τ2,ht2⟩:∃ tt,tt=tst τ p q frm (lk frm y (lks frm (t.ch.take i) S)):=⟨_,rfl⟩
  rw [← ht2]
  have hl2:τ2.length=τ.length:=by rw [ht2];exact XI
  rw [← hl2]
  have hp2:τ2[p]? =some (.box [.mapv q,.int .i64 frm,.int .i64 ((lk frm y (lks frm (t.ch.take i) S)).2.1),.int .i64 ((lk frm y (lks frm (t.ch.take i) S)).2.2)]):=by rw [ht2];exact Q2z hpq hpt
  have hq2:τ2[q]? =some (.map (Za (lk frm y (lks frm (t.ch.take i) S)).1)):=by rw [ht2];exact Q2A hqt
  have hc2:closed τ2.length τ2:=by rw [hl2,ht2];exact Zm hτc hqt (hkid.ltA _)
  refine zt rfl (Xx rfl rfl rfl (by decide)) ?_
  refine zon ?_
  refine Qd rfl ?_
  refine Q1 ?_
  refine Q0 ?_
  refine Qb #[0,1,3,7,0,16,48,112,0,496,1008,2032,4080,8176,16383,0,65535] Tryz.mixed (by decide +kernel) (by decide +kernel) ?_
  refine zd3 ?_
  refine zp1 ?_
  refine zd3 ?_
  refine zp1 ?_
  refine zd1 ?_
  refine yA rfl rfl (fun _=>Qe rfl Tryz.underlying55 Tryz.sizeOf34 rfl rfl (by omega) (hrow)) ?_
  refine zp1 ?_
  rw [FB y]
  refine zd2 ?_
  refine zp1 ?_
  refine yP rfl rfl (YW rfl Tryz.underlying38 Tryz.underlying3 Tryz.zeroValue28 rfl rfl (QD hq2) hkg) (trivial) ?_
  rw [Q3 (tv y)]
  refine yE rfl rfl (zoa) (⟨.inr (by rw [← Q3 (tv y)];exact YW rfl Tryz.underlying38 Tryz.underlying3 Tryz.zeroValue28 rfl rfl (QD hq2) hkg),⟨.inr zoa,⟨.inr zoa,⟨.inr zoa,⟨.inr zoa,trivial⟩⟩⟩⟩⟩) (trivial) ?_
  refine yEN rfl rfl rfl (zoa) (⟨.inl rfl,⟨.inl rfl,⟨.inl rfl,⟨.inl rfl,⟨.inl rfl,trivial⟩⟩⟩⟩⟩) (⟨rfl,trivial⟩) ?_
  refine RP.nil rfl ?_
  refine zu5 ?_
  refine zt rfl (JI rfl rfl rfl (by omega)) ?_
  refine zon ?_
  refine Qj rfl ?_
  refine Q4 ?_
  refine zg3 ?_
  refine zt rfl (Ql [[_,_,_,_,_,_,_,_]] rfl Tryz.underlying25 Tryz.sizeOf28 Tryz.zeroValue28 rfl (by decide) (by decide) rfl rfl rfl rfl rfl) ?_
  refine zt rfl (Qv rfl 1 (sz:=8) (m:=1) (len:=i) (cs:=_) rfl (.inr ⟨_,rfl⟩) Tryz.underlying25 Tryz.underlying25 Tryz.type28 rfl rfl rfl (by decide) rfl rfl (by rw [XC,List.length_take];omega) rfl rfl rfl (by show (i+1) * 112≤_;omega) (by omega) rfl) ?_
  refine zg1 ?_
  refine ztN rfl rfl (QX (r:=[.int .i64 v.kind,.bool v.b,.bool v.n.neg,.str v.n.digits,.int .i64 v.n.exp,.str v.s,.arr (τ2.length+1) (i+1) 8 0 (i+1),.nils]) rfl Tryz.sizeOf25 rfl rfl rfl rfl rfl (by decide)) ?_
  refine zon ?_
  refine Q4 ?_
  refine zv3 ?_
  refine ⟨(i+1,τ2),τ2.length+2,⟨by simp only;omega,?_⟩,by simp only;omega,by simp;omega,⟨rfl,rfl,rfl,rfl,rfl,rfl,trivial⟩,Qh 2 hc2 ?_,?_,?_⟩
  ·show τ2=_;rw [ht2,hτ,Q4X hpq,Q1V hy]
  ·simp [ownLt,AO.cells,AV.ltL,AV.lt,Z0,Y6,K4]
  ·simp [ltE,AV.lt,AV.ltL];omega
  ·refine (Qo 2).trans ?_
   rw [QV hx,ZO,Q3 (tv y)];rfl
 ·(try rw [h1]);replace h1:=zcl h1
  refine Qg ?_
  refine Q0 ?_
  have hie:i=v.l.length:=by omega
  subst hie
  have htk:t.ch.take v.l.length=t.ch:=List.take_of_length_le (by omega)
  rw [htk] at hτ hτp hτq
  rw [List.take_length]
  refine Xa 0 6 1 v.l.length 8 v.l.length rfl rfl rfl (Q7 v.l) rfl (Vb _) (QG _) (by decide) ?_
  refine QN 0 (bs':=[.int .i64 v.kind,.bool v.b,.bool v.n.neg,.str v.n.digits,.int .i64 v.n.exp,.str v.s,.sl false 8 (Q7 v.l),.sl false 9 (Q5 [])]) rfl ⟨AVle.refl _,AVle.refl _,AVle.refl _,AVle.refl _,AVle.refl _,AVle.refl _,AVle.refl _,Xt,trivial⟩ ?_
  have hvc:Qf v=[.int .i64 v.kind,.bool v.b,.bool v.n.neg,.str v.n.digits,.int .i64 v.n.exp,.str v.s,.sl false 8 (Q7 v.l),.sl false 9 (Q5 [])]:=by rw [Q3 v,hm0]
  obtain ⟨Sn,hSn⟩:∃ s,lks frm t.ch S=s:=⟨_,rfl⟩
  have hSG:=(hP.take t.ch.length).sg
  rw [List.take_length,hSn] at hSG
  rw [hSn] at hτ hτp hτq
  have hSb:=(hP.take t.ch.length).nb
  rw [List.take_length,hSn] at hSb
  have hτp1:τ[p]? =some (.box [.mapv q,.int .i64 frm,.int .i64 (Sn.2.1),.int .i64 (Sn.2.2)]):=hτp
  obtain ⟨has,hhas⟩:∃ b,(Z9 Sn.1 t.id).isSome=b:=⟨_,rfl⟩
  obtain ⟨w,hw0,hw1,hjw,hzw⟩:=HS (id:=t.id) hSG (hP.own.1.trans hv) hjb (by omega) Q9e
  refine Qb #[0,1,3,7,0,16,48,112,255,511,1023,1023,0,6143,16383] Tryz.mixed (by decide +kernel) (by decide +kernel) ?_
  refine zd3 ?_
  refine zp1 ?_
  refine zd3 ?_
  refine zp1 ?_
  refine yP rfl rfl (XT rfl Tryz.underlying38 Tryz.underlying3 Tryz.zeroValue28 rfl rfl (QD hτq) hhas hw0) (trivial) ?_
  rw [Q3 w]
  refine zd3 ?_
  refine yE rfl rfl (zoa) (⟨.inr (by rw [← Q3 w];exact XT rfl Tryz.underlying38 Tryz.underlying3 Tryz.zeroValue28 rfl rfl (QD hτq) hhas hw0),⟨.inr zoa,⟨.inr zoa,trivial⟩⟩⟩) (trivial) ?_
  refine yEN rfl rfl rfl (zoa) (⟨.inl rfl,⟨.inl rfl,⟨.inl rfl,trivial⟩⟩⟩) (⟨rfl,trivial⟩) ?_
  refine zd1 ?_
  refine RP.nil rfl ?_
  refine zu2 ?_
  refine zt rfl (zc rfl (Hz w v _ _ _ (Q3 w) hvc hjw hjb hzw)) ?_
  refine zv1 ?_
  refine Q0 ?_
  refine zu2 ?_
  refine zsp 176 rfl (fun h2=>?_) fun h2=>?_
  ·rw [h2];replace h2:=zcl h2
   refine zv3 ?_
   refine Q2 rfl (fun h3=>?_) (fun h3=>?_)
   ·(try rw [h3]);replace h3:=zcl h3
    rw [hw1 (hhas.trans h2),UP rfl] at h3;cases h3
   ·(try rw [h3]);replace h3:=zcl h3
    have hhas2:(Z9 Sn.1 t.id).isSome=true:=by rw [hhas];exact h2
    obtain ⟨j,hgs⟩:∃ j,Z9 Sn.1 t.id=some (j,.agg (Qf v)):=by
     cases hg:Z9 Sn.1 t.id with
     |none=>rw [hg] at hhas2;cases hhas2
     |some z=>exact ⟨z.1,by have:=hSG.get hg;rw [hP.own.1,hv] at this;rw [← this]⟩
    have hLk:=Qcn hSn hgs
    have hnw:(lk frm t S).2.1=Sn.2.1:=by rw [hLk]
    have hM:(lk frm t S).1=Sn.1:=by rw [hLk]
    have hls:(lk frm t S).2.2=max Sn.2.2 t.id:=by rw [hLk]
    refine Q1 ?_
    refine Q0 ?_
    refine Q0 ?_
    refine Qb #[0,1,3,7,15,31,63,7,135,391,903,2047,4095] Tryz.mixed (by decide +kernel) (by decide +kernel) ?_
    refine Uh ?_
    refine zd3 ?_
    refine RP.nil rfl ?_
    refine Qd rfl ?_
    refine Q1 ?_
    refine Q0 ?_
    refine Qn (σ':=τ.set p (.box [.mapv q,.int .i64 frm,.int .i64 ((lk frm t S).2.1),.int .i64 (Sn.2.2)])++[.box [.int .i64 v.kind,.bool v.b,.bool v.n.neg,.str v.n.digits,.int .i64 v.n.exp,.str v.s,.sl false 8 (Q7 v.l),.sl false 9 (Q5 [])],.dead,.box [.int .i64 w.kind,.bool w.b,.bool w.n.neg,.str w.n.digits,.int .i64 w.n.exp,.str w.s,.sl false 8 (Q7 w.l),.sl false 9 (Q5 w.m)]]) (by first|(rw [hnw,Z1 hpt];rfl)|(rw [hnw,QO hτp1];rfl)) ?_
    obtain ⟨τ3,ht3⟩:∃ tt,tt=τ.set p (.box [.mapv q,.int .i64 frm,.int .i64 ((lk frm t S).2.1),.int .i64 (Sn.2.2)]):=⟨_,rfl⟩
    rw [← ht3]
    have hl3:τ3.length=τ.length:=by rw [ht3];simp
    rw [← hl3]
    have h3p:τ3[p]? =some (.box [.mapv q,.int .i64 frm,.int .i64 ((lk frm t S).2.1),.int .i64 (Sn.2.2)]):=by rw [ht3];exact Qk hpt
    have h3q:τ3[q]? =some (.map (Za Sn.1)):=by rw [ht3,List.getElem?_set,if_neg hpq];exact hτq
    refine Qb #[0,1,3,7,0,16,48,112,0,511] Tryz.mixed (by decide +kernel) (by decide +kernel) ?_
    refine zd3 ?_
    refine zp1 ?_
    refine zd3 ?_
    refine zp2 ?_
    refine yEN rfl rfl rfl ((show AOp _ _ _ _ .any ((τ3++([.box [.int .i64 v.kind,.bool v.b,.bool v.n.neg,.str v.n.digits,.int .i64 v.n.exp,.str v.s,.sl false 8 (Q7 v.l),.sl false 9 (Q5 [])],.dead,.box [.int .i64 w.kind,.bool w.b,.bool w.n.neg,.str w.n.digits,.int .i64 w.n.exp,.str w.s,.sl false 8 (Q7 w.l),.sl false 9 (Q5 w.m)]]:List AO)).set q (.map (Za (lk frm t S).1))) from by rw [hM];first|exact X5 rfl Tryz.underlying38 Tryz.underlying3 rfl rfl rfl (QD h3q) (hvc ▸ hgs)|(rw [hvc];exact Xy rfl Tryz.underlying38 Tryz.underlying3 rfl rfl rfl (QD h3q) hgn))) (⟨.inl rfl,⟨.inl rfl,⟨.inl rfl,trivial⟩⟩⟩) (trivial) ?_
    obtain ⟨τ4,ht4⟩:∃ tt,tt=τ3.set q (.map (Za (lk frm t S).1)):=⟨_,rfl⟩
    rw [Z1 (by omega),←ht4]
    have hl4:τ4.length=τ3.length:=by rw [ht4];simp
    have h4p:τ4[p]? =some (.box [.mapv q,.int .i64 frm,.int .i64 ((lk frm t S).2.1),.int .i64 (Sn.2.2)]):=by rw [ht4,List.getElem?_set,if_neg (Ne.symm hpq)];exact h3p
    refine RP.nil rfl ?_
    refine Q0 ?_
    refine Qb #[0,0,2,6,14,0,32,96,224,510,1023,2047,4095] Tryz.mixed (by decide +kernel) (by decide +kernel) ?_
    refine zd4 ?_
    refine zp1 ?_
    refine zd3 ?_
    refine zp1 ?_
    refine zd3 ?_
    refine yEN rfl rfl rfl (Zo (r:=[.mapv q,.int .i64 frm,.int .i64 (lk frm t S).2.1,.int .i64 (max Sn.2.2 t.id)]) rfl Tryz.sizeOf3 rfl rfl rfl (QD h4p) rfl (by decide)) (⟨.inl rfl,⟨.inl rfl,trivial⟩⟩) (trivial) ?_
    rw [Z1 (by omega)]
    refine RP.nil rfl ?_
    refine zw1 ?_
    refine zrt ?_
    have hfin:τ4.set p (.box [.mapv q,.int .i64 frm,.int .i64 ((lk frm t S).2.1),.int .i64 (max Sn.2.2 t.id)])=tst σ p q frm (lk frm t S):=by rw [ht4,ht3,hτ,←hls];unfold tst tbx;exact Yx hpq
    rw [hfin]
    have hfl:(tst σ p q frm (lk frm t S)).length=σ.length:=XI
    refine Yc (v:=.int .i64 1) σ.length (Nat.le_refl _) rfl ?_ trivial ?_
    ·have hcc:closed (tst σ p q frm (lk frm t S)).length (tst σ p q frm (lk frm t S)):=by rw [hfl];exact Zm hcl hql (hP.ltA _)
     rw [← hfl]
     exact Zw hcc
    ·rw [List.take_left' hfl];exact ⟨rfl,rfl⟩
  ·rw [h2];replace h2:=zcl h2
   refine zv3 ?_
   refine Qd rfl ?_
   refine Q1 ?_
   refine Q0 ?_
   refine Q0 ?_
   refine Qb #[0,1,3,7,15,31,63,7,135,391,903,2047,4095] Tryz.mixed (by decide +kernel) (by decide +kernel) ?_
   refine zd6 ?_
   refine zp1 ?_
   refine zd3 ?_
   refine zp1 ?_
   refine zd2 ?_
   refine RP.nil rfl ?_
   refine Q2 rfl (fun h4=>?_) (fun h4=>?_)
   ·(try rw [h4]);replace h4:=zcl h4
    have hgn:Z9 Sn.1 t.id=none:=by
     cases hg:Z9 Sn.1 t.id with
     |none=>rfl
     |some z=>rw [hg] at hhas;simp only [Option.isSome_some] at hhas;rw [← hhas] at h2;cases h2
    have hLk:=Q5C hSn hgn
    have hM:(lk frm t S).1=Sn.1++[(t.id,.agg (Qf v))]:=by rw [hLk,hv]
    have hls:(lk frm t S).2.2=max Sn.2.2 t.id:=by rw [hLk]
    have hnw:(lk frm t S).2.1=Sn.2.1+1:=by rw [hLk];simp only;rw [if_pos h4]
    refine Q4 ?_
    refine zg7 ?_
    refine ztN rfl rfl (Zo (r:=[.mapv q,.int .i64 frm,.int .i64 (Sn.2.1+1),.int .i64 Sn.2.2]) rfl Tryz.sizeOf3 rfl rfl rfl (QD hτp1) rfl (by decide)) ?_
    refine zon ?_
    refine Q0 ?_
    refine Qn (σ':=τ.set p (.box [.mapv q,.int .i64 frm,.int .i64 ((lk frm t S).2.1),.int .i64 (Sn.2.2)])++[.box [.int .i64 v.kind,.bool v.b,.bool v.n.neg,.str v.n.digits,.int .i64 v.n.exp,.str v.s,.sl false 8 (Q7 v.l),.sl false 9 (Q5 [])],.dead,.box [.int .i64 w.kind,.bool w.b,.bool w.n.neg,.str w.n.digits,.int .i64 w.n.exp,.str w.s,.sl false 8 (Q7 w.l),.sl false 9 (Q5 w.m)]]) (by first|(rw [hnw,Z1 hpt];rfl)|(rw [hnw,QO hτp1];rfl)) ?_
    obtain ⟨τ3,ht3⟩:∃ tt,tt=τ.set p (.box [.mapv q,.int .i64 frm,.int .i64 ((lk frm t S).2.1),.int .i64 (Sn.2.2)]):=⟨_,rfl⟩
    rw [← ht3]
    have hl3:τ3.length=τ.length:=by rw [ht3];simp
    rw [← hl3]
    have h3p:τ3[p]? =some (.box [.mapv q,.int .i64 frm,.int .i64 ((lk frm t S).2.1),.int .i64 (Sn.2.2)]):=by rw [ht3];exact Qk hpt
    have h3q:τ3[q]? =some (.map (Za Sn.1)):=by rw [ht3,List.getElem?_set,if_neg hpq];exact hτq
    refine Qb #[0,1,3,7,0,16,48,112,0,511] Tryz.mixed (by decide +kernel) (by decide +kernel) ?_
    refine zd3 ?_
    refine zp1 ?_
    refine zd3 ?_
    refine zp2 ?_
    refine yEN rfl rfl rfl ((show AOp _ _ _ _ .any ((τ3++([.box [.int .i64 v.kind,.bool v.b,.bool v.n.neg,.str v.n.digits,.int .i64 v.n.exp,.str v.s,.sl false 8 (Q7 v.l),.sl false 9 (Q5 [])],.dead,.box [.int .i64 w.kind,.bool w.b,.bool w.n.neg,.str w.n.digits,.int .i64 w.n.exp,.str w.s,.sl false 8 (Q7 w.l),.sl false 9 (Q5 w.m)]]:List AO)).set q (.map (Za (lk frm t S).1))) from by rw [hM];first|exact X5 rfl Tryz.underlying38 Tryz.underlying3 rfl rfl rfl (QD h3q) (hvc ▸ hgs)|(rw [hvc];exact Xy rfl Tryz.underlying38 Tryz.underlying3 rfl rfl rfl (QD h3q) hgn))) (⟨.inl rfl,⟨.inl rfl,⟨.inl rfl,trivial⟩⟩⟩) (trivial) ?_
    obtain ⟨τ4,ht4⟩:∃ tt,tt=τ3.set q (.map (Za (lk frm t S).1)):=⟨_,rfl⟩
    rw [Z1 (by omega),←ht4]
    have hl4:τ4.length=τ3.length:=by rw [ht4];simp
    have h4p:τ4[p]? =some (.box [.mapv q,.int .i64 frm,.int .i64 ((lk frm t S).2.1),.int .i64 (Sn.2.2)]):=by rw [ht4,List.getElem?_set,if_neg (Ne.symm hpq)];exact h3p
    refine RP.nil rfl ?_
    refine Q0 ?_
    refine Qb #[0,0,2,6,14,0,32,96,224,510,1023,2047,4095] Tryz.mixed (by decide +kernel) (by decide +kernel) ?_
    refine zd4 ?_
    refine zp1 ?_
    refine zd3 ?_
    refine zp1 ?_
    refine zd3 ?_
    refine yEN rfl rfl rfl (Zo (r:=[.mapv q,.int .i64 frm,.int .i64 (lk frm t S).2.1,.int .i64 (max Sn.2.2 t.id)]) rfl Tryz.sizeOf3 rfl rfl rfl (QD h4p) rfl (by decide)) (⟨.inl rfl,⟨.inl rfl,trivial⟩⟩) (trivial) ?_
    rw [Z1 (by omega)]
    refine RP.nil rfl ?_
    refine zw1 ?_
    refine zrt ?_
    have hfin:τ4.set p (.box [.mapv q,.int .i64 frm,.int .i64 ((lk frm t S).2.1),.int .i64 (max Sn.2.2 t.id)])=tst σ p q frm (lk frm t S):=by rw [ht4,ht3,hτ,←hls];unfold tst tbx;exact Yx hpq
    rw [hfin]
    have hfl:(tst σ p q frm (lk frm t S)).length=σ.length:=XI
    refine Yc (v:=.int .i64 1) σ.length (Nat.le_refl _) rfl ?_ trivial ?_
    ·have hcc:closed (tst σ p q frm (lk frm t S)).length (tst σ p q frm (lk frm t S)):=by rw [hfl];exact Zm hcl hql (hP.ltA _)
     rw [← hfl]
     exact Zw hcc
    ·rw [List.take_left' hfl];exact ⟨rfl,rfl⟩
   ·(try rw [h4]);replace h4:=zcl h4
    have hgn:Z9 Sn.1 t.id=none:=by
     cases hg:Z9 Sn.1 t.id with
     |none=>rfl
     |some z=>rw [hg] at hhas;simp only [Option.isSome_some] at hhas;rw [← hhas] at h2;cases h2
    have hLk:=Q5C hSn hgn
    have hM:(lk frm t S).1=Sn.1++[(t.id,.agg (Qf v))]:=by rw [hLk,hv]
    have hls:(lk frm t S).2.2=max Sn.2.2 t.id:=by rw [hLk]
    have hnw:(lk frm t S).2.1=Sn.2.1:=by rw [hLk];simp only;rw [if_neg (by omega),Int.add_zero]
    refine Q1 ?_
    refine Q0 ?_
    refine Qn (σ':=τ.set p (.box [.mapv q,.int .i64 frm,.int .i64 ((lk frm t S).2.1),.int .i64 (Sn.2.2)])++[.box [.int .i64 v.kind,.bool v.b,.bool v.n.neg,.str v.n.digits,.int .i64 v.n.exp,.str v.s,.sl false 8 (Q7 v.l),.sl false 9 (Q5 [])],.dead,.box [.int .i64 w.kind,.bool w.b,.bool w.n.neg,.str w.n.digits,.int .i64 w.n.exp,.str w.s,.sl false 8 (Q7 w.l),.sl false 9 (Q5 w.m)]]) (by first|(rw [hnw,Z1 hpt];rfl)|(rw [hnw,QO hτp1];rfl)) ?_
    obtain ⟨τ3,ht3⟩:∃ tt,tt=τ.set p (.box [.mapv q,.int .i64 frm,.int .i64 ((lk frm t S).2.1),.int .i64 (Sn.2.2)]):=⟨_,rfl⟩
    rw [← ht3]
    have hl3:τ3.length=τ.length:=by rw [ht3];simp
    rw [← hl3]
    have h3p:τ3[p]? =some (.box [.mapv q,.int .i64 frm,.int .i64 ((lk frm t S).2.1),.int .i64 (Sn.2.2)]):=by rw [ht3];exact Qk hpt
    have h3q:τ3[q]? =some (.map (Za Sn.1)):=by rw [ht3,List.getElem?_set,if_neg hpq];exact hτq
    refine Qb #[0,1,3,7,0,16,48,112,0,511] Tryz.mixed (by decide +kernel) (by decide +kernel) ?_
    refine zd3 ?_
    refine zp1 ?_
    refine zd3 ?_
    refine zp2 ?_
    refine yEN rfl rfl rfl ((show AOp _ _ _ _ .any ((τ3++([.box [.int .i64 v.kind,.bool v.b,.bool v.n.neg,.str v.n.digits,.int .i64 v.n.exp,.str v.s,.sl false 8 (Q7 v.l),.sl false 9 (Q5 [])],.dead,.box [.int .i64 w.kind,.bool w.b,.bool w.n.neg,.str w.n.digits,.int .i64 w.n.exp,.str w.s,.sl false 8 (Q7 w.l),.sl false 9 (Q5 w.m)]]:List AO)).set q (.map (Za (lk frm t S).1))) from by rw [hM];first|exact X5 rfl Tryz.underlying38 Tryz.underlying3 rfl rfl rfl (QD h3q) (hvc ▸ hgs)|(rw [hvc];exact Xy rfl Tryz.underlying38 Tryz.underlying3 rfl rfl rfl (QD h3q) hgn))) (⟨.inl rfl,⟨.inl rfl,⟨.inl rfl,trivial⟩⟩⟩) (trivial) ?_
    obtain ⟨τ4,ht4⟩:∃ tt,tt=τ3.set q (.map (Za (lk frm t S).1)):=⟨_,rfl⟩
    rw [Z1 (by omega),←ht4]
    have hl4:τ4.length=τ3.length:=by rw [ht4];simp
    have h4p:τ4[p]? =some (.box [.mapv q,.int .i64 frm,.int .i64 ((lk frm t S).2.1),.int .i64 (Sn.2.2)]):=by rw [ht4,List.getElem?_set,if_neg (Ne.symm hpq)];exact h3p
    refine RP.nil rfl ?_
    refine Q0 ?_
    refine Qb #[0,0,2,6,14,0,32,96,224,510,1023,2047,4095] Tryz.mixed (by decide +kernel) (by decide +kernel) ?_
    refine zd4 ?_
    refine zp1 ?_
    refine zd3 ?_
    refine zp1 ?_
    refine zd3 ?_
    refine yEN rfl rfl rfl (Zo (r:=[.mapv q,.int .i64 frm,.int .i64 (lk frm t S).2.1,.int .i64 (max Sn.2.2 t.id)]) rfl Tryz.sizeOf3 rfl rfl rfl (QD h4p) rfl (by decide)) (⟨.inl rfl,⟨.inl rfl,trivial⟩⟩) (trivial) ?_
    rw [Z1 (by omega)]
    refine RP.nil rfl ?_
    refine zw1 ?_
    refine zrt ?_
    have hfin:τ4.set p (.box [.mapv q,.int .i64 frm,.int .i64 ((lk frm t S).2.1),.int .i64 (max Sn.2.2 t.id)])=tst σ p q frm (lk frm t S):=by rw [ht4,ht3,hτ,←hls];unfold tst tbx;exact Yx hpq
    rw [hfin]
    have hfl:(tst σ p q frm (lk frm t S)).length=σ.length:=XI
    refine Yc (v:=.int .i64 1) σ.length (Nat.le_refl _) rfl ?_ trivial ?_
    ·have hcc:closed (tst σ p q frm (lk frm t S)).length (tst σ p q frm (lk frm t S)):=by rw [hfl];exact Zm hcl hql (hP.ltA _)
     rw [← hfl]
     exact Zw hcc
    ·rw [List.take_left' hfl];exact ⟨rfl,rfl⟩
end Lg
