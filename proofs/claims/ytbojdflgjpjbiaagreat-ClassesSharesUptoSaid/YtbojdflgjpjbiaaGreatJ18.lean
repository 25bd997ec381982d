/- A logic over the machine, and what the functions of the seat come to: part 18. No claim stands here; the theorems are used by the row. -/
import Derived.Test.YtbojdflgjpjbiaaGreatJ4
import Derived.Test.YtbojdflgjpjbiaaGreatJ5
import Derived.Test.YtbojdflgjpjbiaaGreatJ17
set_option linter.unusedSimpArgs false
set_option linter.unnecessarySimpa false
set_option linter.unusedVariables false
namespace Go.Proofs.YtbojdflgjpjbiaaGreat.L
open Go
section
attribute [local irreducible] T TL
set_option maxRecDepth 10000
set_option maxHeartbeats 4000000
def tlC:Code→Option Code
 | .seq a b=>match rfC a with
  | some _=>(match tlC a with | some c=>some c | none=>some b)
  | none=>tlC b
 | .block _ c=>tlC c
 | .loop c=>tlC c
 | .scope c=>tlC c
 | _=>none
noncomputable def tl55:Code:=match Tryz.f55.body with
 | some c=>(match tlC c with | some x=>x | none=>.skip)
 | none=>.skip
def ansS (out:List OwnT):List OwnT × Bool:=if dJ [] out then (out,decide (out.length≤64)) else ([],false)
def slotsR (gq:Nat) (S0:aD) (out:List OwnT) (o:iY) (S':aD):Prop:=
 (dJ [] out=true∧o=.ret (.tup [.row gq out.length 0 out.length 10,.bool (decide (out.length≤64))])∧S'=aK S0 gq (RO out))∨(dJ [] out=false∧o=.ret (.tup [.nils,.bool false])∧S'=S0)
theorem tail55 {n:vU} {out:List OwnT} {S S0:aD} {b4 b5 gd:Nat} (hlen:out.length≤1920) (f4:S b4=some (.row 0 1 0 [[.nils]])) (f5:S b5=some (.row 0 1 0 [[.bool false]])) (f6:S n.b6=some (CO n out)) (fq:S n.gq=some (RO out)) (fd:S gd=some .dfr)
  (e45:b5≠b4) (hs:bV S S0) (z4:S0 b4=none) (z5:S0 b5=none) (zq:S0 n.gq=none) (zd:S0 gd=none)
  {R:iY→aD→Prop} (hR1:dJ [] out=true→R (.ret (.tup [.row n.gq out.length 0 out.length 10,.bool (decide (out.length≤64))])) (aK S0 n.gq (RO out))) (hR2:dJ [] out=false→R (.ret (.tup [.nils,.bool false])) S0) :
  T PP none tl55 (endDX GT PP Tryz.f55.results.toList R) (gF 67 [(4,.ptr b4 0 0 0 1),(5,.ptr b5 0 0 0 1),(6,.ptr n.b6 0 0 0 1)]) S [.mark gd]:=by
 have e46:b4≠n.b6:=bH f4 f6 (by simp)
 have e4q:b4≠n.gq:=bH f4 fq (by simp)
 have e4d:b4≠gd:=bH f4 fd (by simp)
 have e5q:b5≠n.gq:=bH f5 fq (by simp)
 have e5d:b5≠gd:=bH f5 fd (by simp)
 have eqd:n.gq≠gd:=bH fq fd (by simp)
 refine aF ?_;intros
 refine aG fun gk hk=>?_
 have k4:=fun y=>aE (y:=y) f4 hk
 have k5:=fun y=>aE (y:=y) f5 hk
 have k6:=fun y=>aE (y:=y) f6 hk
 have kq:=fun y=>aE (y:=y) fq hk
 have kd:=fun y=>aE (y:=y) fd hk
 have k4a:=k4 (.map true fun _=>none)
 have k5a:=k5 (.map true fun _=>none)
 have k6a:=k6 (.map true fun _=>none)
 have kqa:=kq (.map true fun _=>none)
 have hkM:kM []=fun _=>none:=by funext k;cases k <;> rfl
 refine aF ?_;intros
 refine aU (aY (α:=Nat) (inv:=fun k=>k≤out.length∧dJ [] out=dJ ((out.take k).map (·.slot.key)) (out.drop k)) (tm:=fun k=>gF 67 [(4,.ptr b4 0 0 0 1),(5,.ptr b5 0 0 0 1),(6,.ptr n.b6 0 0 0 1),(12,.map gk),(38,.row n.gq out.length 0 out.length 10),(39,.int .i64 out.length),(40,.int .i64 k)])
  (st:=fun k=>aK S gk (.map true (kM ((out.take k).map (·.slot.key))))) (μ:=fun k=>out.length - k) 0 ⟨by omega,rfl⟩ ?_ (by rw[List.take_zero,List.map_nil,hkM];exact aB _) ?_)
 ·repeat' (first | exact trivial | exact rfl | refine And.intro ?_ ?_)
 rintro k ⟨hkl,hpr⟩
 have q4:=k4 (.map true (kM ((out.take k).map (·.slot.key))))
 have q5:=k5 (.map true (kM ((out.take k).map (·.slot.key))))
 have q6:=k6 (.map true (kM ((out.take k).map (·.slot.key))))
 have qq:=kq (.map true (kM ((out.take k).map (·.slot.key))))
 have qd:=kd (.map true (kM ((out.take k).map (·.slot.key))))
 have qk:aK S gk (.map true (kM ((out.take k).map (·.slot.key)))) gk=some (.map true (kM ((out.take k).map (·.slot.key)))):=aA _ _ _
 clear k4a k5a k6a kqa
 refine aF ?_;intros
 refine fC (fun hc=>?_) (fun hc=>?_)
 ·have hlt:k<out.length:=by omega
  refine aF ?_;intros
  refine aG fun b14 h14=>?_
  refine aF ?_;intros
  generalize hks:(out.take k).map (·.slot.key)=ks at *
  have hkl2:ks.length≤1920:=by rw[← hks];simp;omega
  have hcnt:=cntB_le ks out[k].slot.key
  have hcnt':qM (ks++[out[k].slot.key]) out[k].slot.key=qM ks out[k].slot.key+1:=by rw[cntB_app];simp
  have htk:(out.take (k+1)).map (·.slot.key)=ks++[out[k].slot.key]:=by rw[List.take_succ_eq_append_getElem hlt,List.map_append,hks];rfl
  have hst:dJ ks (out.drop k)=((decide (out[k].slot.key=qZ) || !(ks.any fun x=>decide (x=out[k].slot.key))) && dJ (ks++[out[k].slot.key]) (out.drop (k+1))):=by rw[List.drop_eq_getElem_cons hlt,dJ]
  generalize hY:aK (aK S gk _) b14 _=Y
  have y14:Y b14=some (.row 0 10 0 [eO out[k]]):=by rw[← hY];exact aA _ _ _
  have y4:Y b4=some (.row 0 1 0 [[.nils]]):=by rw[← hY];exact aE q4 h14
  have y5:Y b5=some (.row 0 1 0 [[.bool false]]):=by rw[← hY];exact aE q5 h14
  have y6:Y n.b6=some (CO n out):=by rw[← hY];exact aE q6 h14
  have yq:Y n.gq=some (RO out):=by rw[← hY];exact aE qq h14
  have yd:Y gd=some .dfr:=by rw[← hY];exact aE qd h14
  have yk:Y gk=some (.map true (kM ks)):=by rw[← hY];exact aE qk h14
  have hsY:bV Y (aK S gk (.map true (kM ks))):=by rw[← hY];exact aR h14
  have n14k:b14≠gk:=aL qk h14
  have n4k:b4≠gk:=bH q4 qk (by simp)
  have n5k:b5≠gk:=bH q5 qk (by simp)
  have n6k:n.b6≠gk:=bH q6 qk (by simp)
  have nqk:n.gq≠gk:=bH qq qk (by simp)
  have ndk:gd≠gk:=bH qd qk (by simp)
  clear hY h14 q4 q5 q6 qq qd qk
  by_cases h0:qM ks out[k].slot.key=0
  ·have hz0:=h0
   refine jN yk (kM_none h0) ?_
   refine aF ?_;intros
   refine dL yk ?_
   have ema:fD (kM ks) (.s out[k].slot.key) (.int .i64 (0+1))=kM (ks++[out[k].slot.key]):=by
    rw[← kM_add]
    rw[h0];rfl
   generalize hY3:aK Y gk _=Y3
   have w:∀ {g y},Y g=some y→g≠gk→Y3 g=some y:=fun {g y} h e=>by rw[← hY3,aC e];exact h
   have wk:Y3 gk=some (.map true (kM (ks++[out[k].slot.key]))):=by rw[← hY3,aA,← ema];rfl
   have w4:=w y4 n4k
   have w5:=w y5 n5k
   have w6:=w y6 n6k
   have wq:=w yq nqk
   have wd:=w yd ndk
   have w14:=w y14 n14k
   have hs3:bV Y3 (aK S gk (.map true (kM ((out.take (k+1)).map (·.slot.key))))):=by
    rw[htk]
    intro g y hy
    by_cases e1:g=gk
    ·subst e1;rw[aA] at hy;rw[← hy];exact wk
    rw[aC e1] at hy
    rw[← hY3,aC e1]
    refine hsY g y ?_
    rw[aC e1];exact hy
   have hs3S:bV Y3 S:=fun g y hy=>by
    have e1:g≠gk:=by rintro rfl;rw[hk] at hy;cases hy
    exact hs3 g y (by rw[aC e1];exact hy)
   clear hY3 w
   refine aF ?_;intros
   refine And.intro (fun a1=>?_) (fun a1=>?_)
   ·have a1:¬ out[k].slot.key=qZ:=by simpa using a1
    refine aF ?_;intros
    refine fV wk (kM_some (by rw[hcnt'];omega)) ?_
    refine aF ?_;intros
    refine And.intro (fun a2=>?_) (fun a2=>?_)
    ·have a2:0<qM ks out[k].slot.key:=by rw[hcnt'] at a2;simp at a2;omega
     have hno:dJ [] out=false:=by rw[hpr,hst,wW];simp[a1,a2]
     refine aF ?_;intros
     refine gG (by rw[aC e45];exact w5) (Nat.le_refl _) ?_
     refine aF ?_;intros
     refine And.intro (by unfold pG;rw[aC (Ne.symm e5d),aC (Ne.symm e4d)];exact wd) ?_
     refine aF ?_;intros
     refine aS (by unfold iZ;rw[if_neg e4d,aC (Ne.symm e45),aA]) rfl ?_
     refine aF ?_;intros
     refine aS (by unfold iZ;rw[if_neg e5d,aA]) rfl ?_
     refine aF ?_;intros
     refine⟨S0,fun g y hy=>?_,hR2 hno⟩
     have x1:g≠gd:=by rintro rfl;rw[zd] at hy;cases hy
     have x2:g≠b5:=by rintro rfl;rw[z5] at hy;cases hy
     have x3:g≠b4:=by rintro rfl;rw[z4] at hy;cases hy
     unfold iZ
     rw[if_neg x1,aC x2,aC x3]
     exact hs3S g y (hs g y hy)
    ·have a2:qM ks out[k].slot.key=0:=by rw[hcnt'] at a2;simp at a2;omega
     refine aF ?_;intros
     refine⟨k+1,⟨by omega,by rw[hpr,hst,htk,wW];simp[a2]⟩,by omega,?_,hs3⟩
     repeat' (first | exact trivial | exact rfl | refine And.intro ?_ ?_)
   ·have a1:out[k].slot.key=qZ:=by simpa using a1
    refine aF ?_;intros
    refine⟨k+1,⟨by omega,by rw[hpr,hst,htk];simp[a1]⟩,by omega,?_,hs3⟩
    repeat' (first | exact trivial | exact rfl | refine And.intro ?_ ?_)
  ·have hz0:=h0
   refine fV yk (kM_some h0) ?_
   refine aF ?_;intros
   refine dL yk ?_
   have ema:fD (kM ks) (.s out[k].slot.key) (.int .i64 ((qM ks out[k].slot.key:Nat)+1))=kM (ks++[out[k].slot.key]):=by
    rw[← kM_add]
    rfl
   generalize hY3:aK Y gk _=Y3
   have w:∀ {g y},Y g=some y→g≠gk→Y3 g=some y:=fun {g y} h e=>by rw[← hY3,aC e];exact h
   have wk:Y3 gk=some (.map true (kM (ks++[out[k].slot.key]))):=by rw[← hY3,aA,← ema];rfl
   have w4:=w y4 n4k
   have w5:=w y5 n5k
   have w6:=w y6 n6k
   have wq:=w yq nqk
   have wd:=w yd ndk
   have w14:=w y14 n14k
   have hs3:bV Y3 (aK S gk (.map true (kM ((out.take (k+1)).map (·.slot.key))))):=by
    rw[htk]
    intro g y hy
    by_cases e1:g=gk
    ·subst e1;rw[aA] at hy;rw[← hy];exact wk
    rw[aC e1] at hy
    rw[← hY3,aC e1]
    refine hsY g y ?_
    rw[aC e1];exact hy
   have hs3S:bV Y3 S:=fun g y hy=>by
    have e1:g≠gk:=by rintro rfl;rw[hk] at hy;cases hy
    exact hs3 g y (by rw[aC e1];exact hy)
   clear hY3 w
   refine aF ?_;intros
   refine And.intro (fun a1=>?_) (fun a1=>?_)
   ·have a1:¬ out[k].slot.key=qZ:=by simpa using a1
    refine aF ?_;intros
    refine fV wk (kM_some (by rw[hcnt'];omega)) ?_
    refine aF ?_;intros
    refine And.intro (fun a2=>?_) (fun a2=>?_)
    ·have a2:0<qM ks out[k].slot.key:=by rw[hcnt'] at a2;simp at a2;omega
     have hno:dJ [] out=false:=by rw[hpr,hst,wW];simp[a1,a2]
     refine aF ?_;intros
     refine gG (by rw[aC e45];exact w5) (Nat.le_refl _) ?_
     refine aF ?_;intros
     refine And.intro (by unfold pG;rw[aC (Ne.symm e5d),aC (Ne.symm e4d)];exact wd) ?_
     refine aF ?_;intros
     refine aS (by unfold iZ;rw[if_neg e4d,aC (Ne.symm e45),aA]) rfl ?_
     refine aF ?_;intros
     refine aS (by unfold iZ;rw[if_neg e5d,aA]) rfl ?_
     refine aF ?_;intros
     refine⟨S0,fun g y hy=>?_,hR2 hno⟩
     have x1:g≠gd:=by rintro rfl;rw[zd] at hy;cases hy
     have x2:g≠b5:=by rintro rfl;rw[z5] at hy;cases hy
     have x3:g≠b4:=by rintro rfl;rw[z4] at hy;cases hy
     unfold iZ
     rw[if_neg x1,aC x2,aC x3]
     exact hs3S g y (hs g y hy)
    ·have a2:qM ks out[k].slot.key=0:=by rw[hcnt'] at a2;simp at a2;omega
     refine aF ?_;intros
     refine⟨k+1,⟨by omega,by rw[hpr,hst,htk,wW];simp[a2]⟩,by omega,?_,hs3⟩
     repeat' (first | exact trivial | exact rfl | refine And.intro ?_ ?_)
   ·have a1:out[k].slot.key=qZ:=by simpa using a1
    refine aF ?_;intros
    refine⟨k+1,⟨by omega,by rw[hpr,hst,htk];simp[a1]⟩,by omega,?_,hs3⟩
    repeat' (first | exact trivial | exact rfl | refine And.intro ?_ ?_)
 ·have e:k=out.length:=by omega
  subst e
  rw[List.drop_length] at hpr
  have hyes:dJ [] out=true:=hpr
  generalize hY:aK S gk _=Y at *
  refine aF ?_;intros
  have hYS:bV Y S:=by rw[← hY];exact aR hk
  have fin:∀ p v:PV,p=.row n.gq out.length 0 out.length 10→v=.bool (decide ((out.length:Int)≤64))→∃ S',bV (iZ (aK (aK Y b4 (.row 0 1 0 [[p]])) b5 (.row 0 1 0 [[v]])) gd) S'∧R (.ret (.tup [p,v])) S':=by
   rintro p v rfl rfl
   have hbb:decide ((out.length:Int)≤64)=decide (out.length≤64):=decide_eq_decide.2 (by omega)
   refine⟨aK S0 n.gq (RO out),fun g y hy=>?_,by rw[hbb];exact hR1 hyes⟩
   by_cases x4:g=n.gq
   ·subst x4
    rw[aA] at hy
    unfold iZ
    rw[if_neg eqd,aC (Ne.symm e5q),aC (Ne.symm e4q),← hy];exact qq
   rw[aC x4] at hy
   have x1:g≠gd:=by rintro rfl;rw[zd] at hy;cases hy
   have x2:g≠b5:=by rintro rfl;rw[z5] at hy;cases hy
   have x3:g≠b4:=by rintro rfl;rw[z4] at hy;cases hy
   unfold iZ
   rw[if_neg x1,aC x2,aC x3]
   exact hYS g y (hs g y hy)
  refine aU (T_drawN aI (by rfl) ?_)
  refine goN ?_;intros
  refine And.intro ?_ ?_
  ·refine goN ?_;intros
   refine And.intro ?_ ?_
   ·refine goN ?_;intros
    refine And.intro ?_ ?_
    ·refine goN ?_;intros
     refine And.intro ?_ ?_
     ·refine goN ?_;intros
      refine And.intro (by unfold pG;rw[aC (Ne.symm e5d),aC (Ne.symm e4d)];exact qd) ?_
      refine aF ?_;intros
      refine aS (by unfold iZ;rw[if_neg e4d,aC (Ne.symm e45),aA]) rfl ?_
      refine aF ?_;intros
      refine aS (by unfold iZ;rw[if_neg e5d,aA]) rfl ?_
      refine aF ?_;intros
      exact fin _ _ rfl rfl
     ·refine goN ?_;intros
      refine And.intro (by unfold pG;rw[aC (Ne.symm e5d),aC (Ne.symm e4d)];exact qd) ?_
      refine aF ?_;intros
      refine aS (by unfold iZ;rw[if_neg e4d,aC (Ne.symm e45),aA]) rfl ?_
      refine aF ?_;intros
      refine aS (by unfold iZ;rw[if_neg e5d,aA]) rfl ?_
      refine aF ?_;intros
      exact fin _ _ rfl rfl
    ·refine goN ?_;intros
     refine And.intro (by unfold pG;rw[aC (Ne.symm e5d),aC (Ne.symm e4d)];exact qd) ?_
     refine aF ?_;intros
     refine aS (by unfold iZ;rw[if_neg e4d,aC (Ne.symm e45),aA]) rfl ?_
     refine aF ?_;intros
     refine aS (by unfold iZ;rw[if_neg e5d,aA]) rfl ?_
     refine aF ?_;intros
     exact fin _ _ rfl rfl
   ·refine goN ?_;intros
    refine And.intro (by unfold pG;rw[aC (Ne.symm e5d),aC (Ne.symm e4d)];exact qd) ?_
    refine aF ?_;intros
    refine aS (by unfold iZ;rw[if_neg e4d,aC (Ne.symm e45),aA]) rfl ?_
    refine aF ?_;intros
    refine aS (by unfold iZ;rw[if_neg e5d,aA]) rfl ?_
    refine aF ?_;intros
    exact fin _ _ rfl rfl
  ·refine goN ?_;intros
   refine And.intro ?_ ?_
   ·refine goN ?_;intros
    refine And.intro ?_ ?_
    ·refine goN ?_;intros
     refine And.intro ?_ ?_
     ·refine goN ?_;intros
      refine And.intro (by unfold pG;rw[aC (Ne.symm e5d),aC (Ne.symm e4d)];exact qd) ?_
      refine aF ?_;intros
      refine aS (by unfold iZ;rw[if_neg e4d,aC (Ne.symm e45),aA]) rfl ?_
      refine aF ?_;intros
      refine aS (by unfold iZ;rw[if_neg e5d,aA]) rfl ?_
      refine aF ?_;intros
      exact fin _ _ rfl rfl
     ·refine goN ?_;intros
      refine And.intro (by unfold pG;rw[aC (Ne.symm e5d),aC (Ne.symm e4d)];exact qd) ?_
      refine aF ?_;intros
      refine aS (by unfold iZ;rw[if_neg e4d,aC (Ne.symm e45),aA]) rfl ?_
      refine aF ?_;intros
      refine aS (by unfold iZ;rw[if_neg e5d,aA]) rfl ?_
      refine aF ?_;intros
      exact fin _ _ rfl rfl
    ·refine goN ?_;intros
     refine And.intro (by unfold pG;rw[aC (Ne.symm e5d),aC (Ne.symm e4d)];exact qd) ?_
     refine aF ?_;intros
     refine aS (by unfold iZ;rw[if_neg e4d,aC (Ne.symm e45),aA]) rfl ?_
     refine aF ?_;intros
     refine aS (by unfold iZ;rw[if_neg e5d,aA]) rfl ?_
     refine aF ?_;intros
     exact fin _ _ rfl rfl
   ·refine goN ?_;intros
    refine And.intro ?_ ?_
    ·refine goN ?_;intros
     refine And.intro ?_ ?_
     ·refine goN ?_;intros
      refine And.intro (by unfold pG;rw[aC (Ne.symm e5d),aC (Ne.symm e4d)];exact qd) ?_
      refine aF ?_;intros
      refine aS (by unfold iZ;rw[if_neg e4d,aC (Ne.symm e45),aA]) rfl ?_
      refine aF ?_;intros
      refine aS (by unfold iZ;rw[if_neg e5d,aA]) rfl ?_
      refine aF ?_;intros
      exact fin _ _ rfl rfl
     ·refine goN ?_;intros
      refine And.intro (by unfold pG;rw[aC (Ne.symm e5d),aC (Ne.symm e4d)];exact qd) ?_
      refine aF ?_;intros
      refine aS (by unfold iZ;rw[if_neg e4d,aC (Ne.symm e45),aA]) rfl ?_
      refine aF ?_;intros
      refine aS (by unfold iZ;rw[if_neg e5d,aA]) rfl ?_
      refine aF ?_;intros
      exact fin _ _ rfl rfl
    ·refine goN ?_;intros
     refine And.intro (by unfold pG;rw[aC (Ne.symm e5d),aC (Ne.symm e4d)];exact qd) ?_
     refine aF ?_;intros
     refine aS (by unfold iZ;rw[if_neg e4d,aC (Ne.symm e45),aA]) rfl ?_
     refine aF ?_;intros
     refine aS (by unfold iZ;rw[if_neg e5d,aA]) rfl ?_
     refine aF ?_;intros
     exact fin _ _ rfl rfl
end
end Go.Proofs.YtbojdflgjpjbiaaGreat.L
