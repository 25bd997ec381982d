/- A logic over the machine, and what the functions of the seat come to: part 12. No claim stands here; the theorems are used by the row. -/
import Derived.Test.YtbojdflgjpjbiaaGreatJ11
set_option linter.unusedSimpArgs false
set_option linter.unnecessarySimpa false
set_option linter.unusedVariables false
namespace Go.Proofs.YtbojdflgjpjbiaaGreat.L
open Go
section
attribute [local irreducible] T TL
set_option maxRecDepth 10000
set_option maxHeartbeats 4000000
theorem mergedT_spec (g:Nat) (ts:List Ty) (hn:ts.length≤200000) (hr:∀ t∈ts,InR t):Fn PP 203 [bU g ts] (aK E g (RT ts)) fun o S'=>∃ ys,ys.length=ts.length∧o=.ret (TS (jA ts))∧S'=aK E g (RT ys):=by
 refine cL (aJ aI Tryz.func203 rfl (by rfl) (by rfl) ?_)
 have kg:aK E g (RT ts) g=some (.row ts.length 5 64 (ts.map eT)):=aA _ _ _
 refine nO ?_;intros
 refine lY aI (nO ?_);intros
 refine aF ?_;intros
 refine aV (sortLo kg) (aB _) ?_
 rintro o S' ⟨rfl,ys,hp,hs,rfl⟩ -
 unfold dR
 have hyl:ys.length=ts.length:=hp.length_eq
 have hyr:∀ t∈ys,InR t:=fun t ht=>hr t (hp.mem_iff.1 ht)
 rw[← joinS_perm hp hs hr,cW,aN,show AO.row ts.length 5 64 (ys.map eT)=RT ys from by rw[← hyl]]
 have hys:aK E g (RT ys) g=some (.row ys.length 5 64 (ys.map eT)):=aA _ _ _
 have hrv:bU g ts=bU g ys:=by unfold bU;rw[hyl]
 rw[hrv]
 rw[← hyl] at hn
 clear hp hs hr kg hrv
 refine nO ?_;intros
 refine lY aI (nO ?_);intros
 refine gJ 3 5 64 rfl fun gq hgq=>?_
 have ngq:g≠gq:=fun e=>by rw[← e] at hgq;rw[hys] at hgq;cases hgq
 let out:Nat→List Ty:=fun i=>(ys.take i).foldl eE []
 let st:Nat→aD:=fun i=>aK (aK E g (RT ys)) gq (RT (out i))
 refine aF ?_;intros
 refine aU (aY (α:=Nat) (inv:=fun i=>i≤ys.length) (tm:=fun i=>gF 64 [(3,bU gq (out i)),(9,bU g ys),(10,.int .i64 ys.length),(11,.int .i64 i)]) (st:=st) (μ:=fun i=>ys.length - i) 0 (by omega) ?_ (aB _) ?_)
 ·repeat' (first | exact trivial | exact rfl | refine And.intro ?_ ?_)
 intro i hi
 have hS:st i gq=some (.row (out i).length 5 64 ((out i).map eT)):=aA _ _ _
 have hG:st i g=some (.row ys.length 5 64 (ys.map eT)):=by simp only[st];rw[aC ngq];exact hys
 have hol:(out i).length≤ys.length:=by
  have:=fold_len (ys.take i) []
  simp only[List.length_nil,List.length_take] at this
  simp only[out];omega
 refine aF ?_;intros
 refine fC (fun hc=>?_) (fun hc=>?_)
 ·have hil:i<ys.length:=by omega
  have hnext:out (i+1)=eE (out i) ys[i]:=by
   simp only[out];rw[List.take_succ_eq_append_getElem hil,List.foldl_append];rfl
  have hri:=hyr _ (List.getElem_mem hil)
  have hyi:(ys.map eT)[i]?=some (eT ys[i]):=by rw[List.getElem?_map,List.getElem?_eq_getElem hil];rfl
  refine aF ?_;intros
  refine aG fun g1 hg1=>?_
  have hS1:∀ x,aK (st i) g1 x gq=some (.row (out i).length 5 64 ((out i).map eT)):=fun x=>aE hS hg1
  have hfin:∀ z:List Ty,z=out (i+1)→bV (aK (aK (st i) g1 (.row 0 5 0 [eT ys[i]])) gq (RT z)) (st (i+1)):=fun z hz=>by
   have n1:g1≠gq:=fun e=>by rw[e,hS] at hg1;cases hg1
   have:aK (st i) gq (RT z)=st (i+1):=by simp only[st];rw[aN,hz]
   rw[← this,cK n1]
   refine aR ?_
   rw[aC n1];exact hg1
  obtain⟨ou,hou⟩:∃ ou,ou=out i:=⟨_,rfl⟩
  rw[← hou] at hS1 hS hol hnext
  rw[← hou]
  have hoi:∀ x∈ou,InR x:=by rw[hou];exact fold_in _ _ (fun t ht=>hyr t (List.mem_of_mem_take ht)) (by simp)
  have hos:∀ x∈ou,x=cC x.lo x.hi:=by rw[hou];exact yF _ _ (by simp)
  have hfin':∀ z:List Ty,out (i+1)=z→∀ n w,n=z.length→w=z.map eT→bV (aK (aK (st i) g1 (.row 0 5 0 [eT ys[i]])) gq (.row n 5 64 w)) (st (i+1)):=by
   rintro z hz n w rfl rfl
   exact hfin z hz.symm
  rcases List.eq_nil_or_concat ou with e | ⟨lo,o,e⟩
  ·have eln:ou.length=0:=by rw[e];rfl
   have hrow:bU gq ou=.row gq 0 0 0 5:=by unfold bU;rw[eln]
   rw[eln] at hS1 hS
   have hS2:=hS1 (.row 0 5 0 [eT ys[i]])
   rw[hrow]
   refine aF ?_;intros
   refine aU (aT aI (by rfl) 23 (by decide) ?_)
   refine aF ?_;intros
   have hA:out (i+1)=ou++[cC ys[i].lo ys[i].hi]:=hnext.trans (by rw[e];rfl)
   refine aF ?_;intros
   refine And.intro (by simpa using eln) (And.intro rfl (And.intro (show (0+1)*64≤140737488355328 by omega) ?_))
   refine aF ?_;intros
   refine⟨i+1,by omega,by omega,?_,?_⟩
   ·repeat' (first | exact trivial | exact rfl | refine And.intro ?_ ?_)
    unfold bU
    rw[hA];simp;try omega
   ·refine hfin' _ hA _ _ (by simp;try omega) ?_
    simp
  ·rw[List.concat_eq_append] at e
   have eln:ou.length=lo.length+1:=by rw[e];simp
   have hoR:InR o:=hoi o (by rw[e];simp)
   obtain⟨a,b,rfl⟩:∃ a b,o=cC a b:=⟨_,_,hos o (by rw[e];simp)⟩
   have hoo:∀ h:lo.length<ou.length,ou[lo.length]=cC a b:=by rw[e];simp
   obtain⟨b1,b2,b3⟩:=hoR
   simp only[tZ,iB,sJ,iU] at b1 b2 b3
   have hrow:bU gq ou=.row gq (lo.length+1) 0 (lo.length+1) 5:=by unfold bU;rw[eln]
   rw[eln] at hS1 hS
   have hS2:=hS1 (.row 0 5 0 [eT ys[i]])
   rw[hrow]
   have hlt:lo.length<ou.length:=by omega
   have hoo':=hoo hlt
   have hoh:ou[lo.length].hi=b:=by rw[hoo'];rfl
   have b4:-9223372036854775808≤ou[lo.length].hi:=by rw[hoh];omega
   have b5:ou[lo.length].hi≤9223372036854775807:=by rw[hoh];omega
   refine aF ?_;intros
   refine aU (aT aI (by rfl) 23 (by decide) ?_)
   refine aF ?_;intros
   have e9:((lo.length+1:Nat):Int) - 1=(lo.length:Int):=by omega
   refine And.intro (fun _=>?_) (fun h=>absurd h (by simp))
   refine aF ?_;intros
   rw[e9]
   refine aF ?_;intros
   refine And.intro (fun q1=>?_) (fun q1=>?_)
   ·have q2:¬ ou[lo.length].hi=9223372036854775807:=by simpa using q1
    refine aF ?_;intros
    rw[e9]
    refine aF ?_;intros
    refine And.intro (fun q3=>?_) (fun q3=>?_)
    ·have q3:ys[i].lo≤b+1:=by rw[hoh] at q3;simpa using q3
     refine aF ?_;intros
     have hJ:out (i+1)=lo++[cC a (max b ys[i].hi)]:=hnext.trans (by rw[e];exact stepJ_y (Or.inr q3))
     refine aU (aT aI (by rfl) 14 (by decide) ?_)
     refine aF ?_;intros
     rw[e9]
     refine aF ?_;intros
     refine sN (f:=eT) (cC a (max b ys[i].hi)) hS2 hlt (Nat.le_of_ble_eq_true rfl) (by rw[hoo'];rfl) ?_
     refine aF ?_;intros
     refine⟨i+1,by omega,by omega,?_,?_⟩
     ·repeat' (first | exact trivial | exact rfl | refine And.intro ?_ ?_)
      unfold bU
      rw[hJ];simp
     ·refine hfin' _ hJ _ _ (by simp) ?_
      rw[e];simp
    ·have q3:¬ ys[i].lo≤b+1:=by rw[hoh] at q3;simpa using q3
     have q4:¬ ((cC a b).hi=iB∨ys[i].lo≤(cC a b).hi+1):=by rintro (h | h);exact q2 (by rw[hoh];exact h);exact q3 h
     have hA:out (i+1)=ou++[cC ys[i].lo ys[i].hi]:=hnext.trans (by rw[e];exact stepJ_n q4)
     refine aF ?_;intros
     refine And.intro (by simpa using eln) (And.intro rfl (And.intro (show (lo.length+1+1)*64≤140737488355328 by omega) ?_))
     refine aF ?_;intros
     refine⟨i+1,by omega,by omega,?_,?_⟩
     ·repeat' (first | exact trivial | exact rfl | refine And.intro ?_ ?_)
      unfold bU
      rw[hA];simp;try omega
     ·refine hfin' _ hA _ _ (by simp;try omega) ?_
      simp
   ·have q2:b=iB:=by rw[hoh] at q1;simpa using q1
    refine aF ?_;intros
    have hJ:out (i+1)=lo++[cC a (max b ys[i].hi)]:=hnext.trans (by rw[e];exact stepJ_y (Or.inl q2))
    refine aU (aT aI (by rfl) 14 (by decide) ?_)
    refine aF ?_;intros
    rw[e9]
    refine aF ?_;intros
    refine sN (f:=eT) (cC a (max b ys[i].hi)) hS2 hlt (Nat.le_of_ble_eq_true rfl) (by rw[hoo'];rfl) ?_
    refine aF ?_;intros
    refine⟨i+1,by omega,by omega,?_,?_⟩
    ·repeat' (first | exact trivial | exact rfl | refine And.intro ?_ ?_)
     unfold bU
     rw[hJ];simp
    ·refine hfin' _ hJ _ _ (by simp) ?_
     rw[e];simp
 ·have e:i=ys.length:=by omega
  subst e
  have hm:out ys.length=qT [] ys:=by simp only[out];rw[List.take_length,nN]
  refine aF ?_;intros
  refine⟨_,aB _,aO.freeze hS (eQ (List.length_map _).symm) (aO.weak (S':=aK E g (RT ys)) ?_ (aO.same ⟨ys,hyl,?_,rfl⟩))⟩
  ·intro k x hk
   have ek:k=g:=by
    by_cases ek:k=g
    ·exact ek
    ·rw[aC ek] at hk;cases hk
   subst ek
   rw[hys] at hk
   simp only[iZ]
   rw[if_neg ngq,hG]
   exact hk
  ·rw[hm]
end
end Go.Proofs.YtbojdflgjpjbiaaGreat.L
