/- A logic over the machine, and what the functions of the seat come to: part 10. No claim stands here; the theorems are used by the row. -/
import Derived.Test.YtbojdflgjpjbiaaGreatJ3
import Derived.Test.YtbojdflgjpjbiaaGreatJ5
import Derived.Test.YtbojdflgjpjbiaaGreatJ8
import Derived.Test.YtbojdflgjpjbiaaGreatJ9
set_option linter.unusedSimpArgs false
set_option linter.unnecessarySimpa false
set_option linter.unusedVariables false
namespace Go.Proofs.YtbojdflgjpjbiaaGreat.L
open Go
section
attribute [local irreducible] T TL
set_option maxRecDepth 10000
set_option maxHeartbeats 4000000
variable {l:List ClassI} {n:pY} {B:aD}
abbrev hp (n:pY):PV:=.ptr n.gh 0 0 0 4
theorem sle_drop {S:aD} {gq g1:Nat} {X Y Z:AO} (h1:aK S gq X g1=none):bV (aK (aK (aK S gq X) g1 Y) gq Z) (aK S gq Z):=fun h y hy=>by
 by_cases e:h=gq
 ·subst e;rw[aA] at hy ⊢;exact hy
 ·rw[aC e] at hy ⊢
  have e1:h≠g1:=by rintro rfl;rw[aC e] at h1;rw[hy] at h1;cases h1
  rw[aC e1,aC e];exact hy
theorem vJ (k:n.Ok) (h0:0<l.length) (b:ByteArray):FnH l n B 194 [hp n,.str b] (.bool (absC l b)):=by
 intro s
 refine aJ aI Tryz.func194 rfl (by rfl) (by rfl) ?_
 have kh:=sE (l:=l) (n:=n) (B:=B) (s:=s)
 have ka:=HK_a (l:=l) (B:=B) k (s:=s)
 refine aF ?_;intros
 refine aU (aT aI (by rfl) 14 (by decide) ?_)
 refine aF ?_;intros
 cases hat:mZ l b with
 | some i=>
  obtain⟨hi,_⟩:=mF hat
  apply Exists.intro;apply And.intro
  ·conv=>whnf
   refine And.intro rfl (fV ka (nA hat) ?_)
   conv=>whnf
  refine aF ?_;intros
  exact⟨_,aB _,s,by unfold absC;rw[pO hat hi],rfl⟩
 | none=>
  apply Exists.intro;apply And.intro
  ·conv=>whnf
   refine And.intro rfl (jN ka (nC hat) ?_)
   conv=>whnf
  refine aF ?_;intros
  refine⟨_,aB _,s,?_,rfl⟩
  unfold absC;rw[getC_no hat]
  cases l with
  | nil=>simp at h0
  | cons c l=>rfl
theorem yB (k:n.Ok) (hl:l.length≤1000) (o:Off n B) (b:ByteArray):FnH l n B 217 [hp n,.str b] (LS (gV l b)):=by
 intro s
 refine cL (aJ aI Tryz.func217 rfl (by rfl) (by rfl) ?_)
 have kh:=sE (l:=l) (n:=n) (B:=B) (s:=s)
 refine nO ?_;intros
 refine lY aI (nO ?_);intros
 refine nO ?_;intros
 refine lY aI (nO ?_);intros
 refine gJ 5 1 16 rfl fun gq hgq=>?_
 have khq:=fun x=>aE (y:=x) kh hgq
 have khq':=khq (.row 0 1 16 [])
 refine aF ?_;intros
 let res:Nat→List ByteArray:=fun i=>gV (l.take i) b
 let st:Nat→aD:=fun i=>aK (bC (HK l n s) B) gq (.row (res i).length 1 16 ((res i).map eS))
 refine aU (aY (α:=Nat) (inv:=fun i=>i≤l.length) (tm:=fun i=>gF 28 [(1,.str b),(5,.row gq (res i).length 0 (res i).length 1),(11,CS l),(12,.int .i64 l.length),(13,.int .i64 i)]) (st:=st) (μ:=fun i=>l.length - i) 0 (by omega) ?_ (aB _) ?_)
 ·repeat' (first | exact trivial | exact rfl | refine And.intro ?_ ?_)
  simp
 intro i hi
 have hS:st i gq=some (.row (res i).length 1 16 ((res i).map eS)):=aA _ _ _
 have hrl:(res i).length≤1000:=by
  have:(res i).length≤(l.take i).length:=by simp only[res,gV,List.length_map];exact List.length_filter_le _ _
  simp at this;omega
 refine aF ?_;intros
 refine fC (fun hc=>?_) (fun hc=>?_)
 ·have hil:i<l.length:=by omega
  have hnext:res (i+1)=res i++(if l[i].supers.any (nL b) then [l[i].name] else []):=by
   simp only[res];rw[List.take_succ_eq_append_getElem hil];unfold gV
   rw[List.filter_append,List.map_append,List.filter_cons,List.filter_nil]
   split <;> rfl
  refine aF ?_;intros
  refine aG fun g1 hg1=>?_
  have hS1:=fun x=>aE (y:=x) hS hg1
  refine aF ?_;intros
  refine And.intro (fun hc=>?_) (fun hc=>?_)
  ·rw[hc,if_pos rfl] at hnext
   refine aF ?_;intros
   refine⟨i+1,by omega,by omega,?_,?_⟩
   ·repeat' (first | exact trivial | exact rfl | refine And.intro ?_ ?_)
    all_goals (rw[hnext];simp)
   ·show bV _ (aK _ gq (.row (res (i+1)).length 1 16 ((res (i+1)).map eS)))
    rw[hnext,List.map_append,List.length_append]
    exact sle_drop hg1
  ·rw[hc,if_neg (by simp),List.append_nil] at hnext
   refine aF ?_;intros
   refine⟨i+1,by omega,by omega,?_,?_⟩
   ·repeat' (first | exact trivial | exact rfl | refine And.intro ?_ ?_)
    all_goals rw[hnext]
   ·show bV _ (aK _ gq (.row (res (i+1)).length 1 16 ((res (i+1)).map eS)))
    rw[hnext]
    exact aR hg1
 ·have e:i=l.length:=by omega
  have e2:res i=gV l b:=by simp only[res];rw[e,List.take_length]
  rw[e2] at hS ⊢
  refine aF ?_;intros
  refine⟨_,aB _,aO.freeze hS (eQ (by simp)) (aO.weak (fun g x hx=>?_) (aO.same ⟨s,rfl,rfl⟩))⟩
  have hne:g≠gq:=by rintro rfl;rw[hx] at hgq;cases hgq
  unfold iZ
  rw[if_neg hne]
  show aK _ gq _ g=_
  rw[aC hne]
  exact hx
end
section
attribute [local irreducible] T TL
set_option maxRecDepth 10000
set_option maxHeartbeats 4000000
theorem rem_spec {St:Type} (st:St→aD) (gm:Nat) (M:St→MK→Option PV) (b:ByteArray) (v:Bool) (k:Nat) (cap:List PV)
  (hm:∀ s,st s gm=some (.map true (M s))) (hv:∀ s p,M s (.s b)=some p→p=.bool v) (hask:FnS st k cap (.bool v)) (hadd:∀ s,∃ s',aK (st s) gm (.map true (fD (M s) (.s b) (.bool v)))=st s') :
  FnS st 215 [.map gm,.str b,.fn (.func k) [] cap] (.bool v):=by
 intro s
 refine aJ aI Tryz.func215 rfl (by rfl) (by rfl) ?_
 have hm0:=hm s
 refine aF ?_;intros
 cases e:M s (.s b) with
 | some p=>
  have hp:=hv s p e
  subst hp
  refine fV hm0 e ?_
  refine aF ?_;intros
  exact⟨_,aB _,s,rfl,rfl⟩
 | none=>
  refine jN hm0 e ?_
  refine aF ?_;intros
  simp only[iS,List.nil_append]
  refine fA hask fun s1=>?_
  have hm1:=hm s1
  refine aF ?_;intros
  refine dL hm1 ?_
  refine aF ?_;intros
  obtain⟨s2,e2⟩:=hadd s1
  exact⟨_,aB _,s2,rfl,e2⟩
variable {l:List ClassI} {n:pY} {B:aD}
theorem remC {k:Nat} {cap:List PV} (o:n.Ok) (b:ByteArray) (hask:FnH l n B k cap (.bool (closedC l b))):FnH l n B 215 [.map n.gc,.str b,.fn (.func k) [] cap] (.bool (closedC l b)):=
 rem_spec (St:=Memo l) (fun s=>bC (HK l n s) B) n.gc (fun s=>s.C) b (closedC l b) k cap (fun s=>HK_c o) (fun s p h=>s.hC b p h) hask fun s=>⟨s.addC b,HK_addC o s b⟩
theorem remV {k:Nat} {cap:List PV} (o:n.Ok) (b:ByteArray) (hask:FnH l n B k cap (.bool (voidC l b))):FnH l n B 215 [.map n.gv,.str b,.fn (.func k) [] cap] (.bool (voidC l b)):=
 rem_spec (St:=Memo l) (fun s=>bC (HK l n s) B) n.gv (fun s=>s.V) b (voidC l b) k cap (fun s=>HK_v o) (fun s p h=>s.hV b p h) hask fun s=>⟨s.addV b,HK_addV o s b⟩
theorem jO {s:Memo l} {x:AO} {k:Nat→aD→Prop} (o:Off n B) (h:∀ g,B g=none→Off n (aK B g x)→bC (HK l n s) (aK B g x) g=some x→k g (bC (HK l n s) (aK B g x))):rJ (bC (HK l n s) B) x k:=
 aG fun g hg=>by
  obtain⟨h1,h2⟩:=bL.1 hg
  rw[cF h1]
  exact h g h2 (o.upd hg) (by rw[gU h1,aA])
theorem kF (o:Off n B) {s:Memo l} {g:Nat} {x:AO} (h:B g=some x):bC (HK l n s) B g=some x:=cZ (HK_Dj o s) g x h
theorem dH {A B C:aD} (h:bV B C):bV (bC A B) (bC A C):=fun g x hx=>by
 cases e:A g with
 | some y=>rw[dM e] at hx ⊢;exact hx
 | none=>rw[gU e] at hx ⊢;exact h g x hx
theorem zG (h:Hier l) (k:n.Ok):∀ (r:Nat) (b:ByteArray),pA l b=r→∀ B,Off n B→FnH l n B 214 [hp n,.str b] (.bool (closedC l b)):=by
 intro r
 induction r using Nat.strongRecOn with
 | _ r ih=>
 intro b hr B o s
 have hl:l.length≤1000:=by have:=h.len;omega
 have hclos:∀ (C:aD) (b1 b2:Nat),Off n C→C b1=some (.row 0 1 0 [[hp n]])→C b2=some (.row 0 1 0 [[.str b]])→FnH l n C 241 [.ptr b1 0 0 0 1,.ptr b2 0 0 0 1] (.bool (closedC l b)):=by
  intro C b1 b2 oc e1 e2 s
  have hsub:∀ x∈gV l b,FnS (fun s:Memo l=>bC (HK l n s) C) 242 ([]++[.str x]++[.ptr b1 0 0 0 1]) (.bool (!closedC l x)):=by
   intro x hx s
   have k1:=kF oc (s:=s) e1
   refine aJ aI Tryz.func242 rfl (by rfl) (by rfl) ?_
   refine aF ?_;intros
   refine jG (ih _ (by rw[← hr];exact jZ h hx) x rfl C oc) fun s'=>?_
   refine aF ?_;intros
   exact⟨_,aB _,s',rfl,rfl⟩
  have k1:=kF oc (s:=s) e1
  have k2:=kF oc (s:=s) e2
  have kh:=sE (l:=l) (n:=n) (B:=C) (s:=s)
  have ka:=HK_a (l:=l) (B:=C) k (s:=s)
  refine aJ aI Tryz.func241 rfl (by rfl) (by rfl) ?_
  refine aF ?_;intros
  refine aU (aT aI (by rfl) 11 (by decide) ?_)
  refine aF ?_;intros
  cases hat:mZ l b with
  | none=>
   apply Exists.intro;apply And.intro
   ·conv=>whnf
    refine And.intro rfl (jN ka (nC hat) ?_)
    conv=>whnf
   refine aF ?_;intros
   exact⟨_,aB _,s,by rw[closedC_eq h,getC_no hat],rfl⟩
  | some i=>
   obtain⟨hi,_⟩:=mF hat
   have hcl:closedC l b=(l[i].sealed && (gV l b).all (closedC l)):=by rw[closedC_eq h,pO hat hi]
   apply Exists.intro;apply And.intro
   ·conv=>whnf
    refine And.intro rfl (fV ka (nA hat) ?_)
    conv=>whnf
   refine aF ?_;intros
   refine And.intro (fun q=>?_) (fun q=>?_)
   ·refine aF ?_;intros
    refine jG (yB k hl oc b) fun s1=>?_
    refine aF ?_;intros
    refine jG (mQ (st:=fun s:Memo l=>bC (HK l n s) C) (gV l b) 242 [] [.ptr b1 0 0 0 1] (fun x=>!closedC l x) hsub) fun s2=>?_
    refine aF ?_;intros
    refine⟨_,aB _,s2,?_,rfl⟩
    have:((gV l b).any fun x=>!closedC l x)=!((gV l b).all (closedC l)):=by rw[← List.not_all_eq_any_not]
    rw[this,hcl,q,Bool.not_not,Bool.true_and]
   ·refine aF ?_;intros
    exact⟨_,aB _,s,by rw[hcl,q];rfl,rfl⟩
 refine aJ aI Tryz.func214 rfl (by rfl) (by rfl) ?_
 have kh:=sE (l:=l) (n:=n) (B:=B) (s:=s)
 refine aF ?_;intros
 refine jO o fun b1 h1 o1 k1=>?_
 refine aF ?_;intros
 refine jO o1 fun b2 h2 o2 k2=>?_
 have e1:=fun y=>aE (y:=y) (aA B b1 (.row 0 [hp n].length 0 [[hp n]])) h2
 have kh:=sE (l:=l) (n:=n) (B:=aK (aK B b1 (.row 0 [hp n].length 0 [[hp n]])) b2 (.row 0 [PV.str b].length 0 [[PV.str b]])) (s:=s)
 have k1':=kF o2 (s:=s) (e1 _)
 refine aF ?_;intros
 refine aU (aT aI (by rfl) 6 (by decide) ?_)
 refine aF ?_;intros
 refine jG (remC k b (hclos _ b1 b2 o2 (e1 _) (aA _ _ _))) fun s'=>?_
 refine aF ?_;intros
 exact⟨_,dH ((aR h2).trans (aR h1)),s',rfl,rfl⟩
theorem void_spec (h:Hier l) (k:n.Ok):∀ (r:Nat) (b:ByteArray),pA l b=r→∀ B,Off n B→FnH l n B 246 [hp n,.str b] (.bool (voidC l b)):=by
 intro r
 induction r using Nat.strongRecOn with
 | _ r ih=>
 intro b hr B o s
 have hl:l.length≤1000:=by have:=h.len;omega
 have h0:0<l.length:=by have:=h.lo;omega
 have hclos:∀ (C:aD) (b1 b2:Nat),Off n C→C b1=some (.row 0 1 0 [[hp n]])→C b2=some (.row 0 1 0 [[.str b]])→FnH l n C 257 [.ptr b1 0 0 0 1,.ptr b2 0 0 0 1] (.bool (voidC l b)):=by
  intro C b1 b2 oc e1 e2 s
  have hsub:∀ x∈gV l b,FnS (fun s:Memo l=>bC (HK l n s) C) 258 ([]++[.str x]++[.ptr b1 0 0 0 1]) (.bool (!voidC l x)):=by
   intro x hx s
   have k1:=kF oc (s:=s) e1
   refine aJ aI Tryz.func258 rfl (by rfl) (by rfl) ?_
   refine aF ?_;intros
   refine jG (ih _ (by rw[← hr];exact jZ h hx) x rfl C oc) fun s'=>?_
   refine aF ?_;intros
   exact⟨_,aB _,s',rfl,rfl⟩
  have hv:=voidC_eq h b
  have k1:=fun s:Memo l=>kF oc (s:=s) e1
  have k2:=fun s:Memo l=>kF oc (s:=s) e2
  have k1s:=k1 s
  have k2s:=k2 s
  refine aJ aI Tryz.func257 rfl (by rfl) (by rfl) ?_
  refine aF ?_;intros
  refine jG (zG h k _ b rfl C oc) fun s1=>?_
  have k1s1:=k1 s1
  have k2s1:=k2 s1
  refine aF ?_;intros
  refine And.intro (fun q=>?_) (fun q=>?_)
  ·refine aF ?_;intros
   refine jG (vJ k h0 b) fun s2=>?_
   have k1s2:=k1 s2
   have k2s2:=k2 s2
   refine aF ?_;intros
   refine And.intro (fun q2=>?_) (fun q2=>?_)
   ·refine aF ?_;intros
    refine jG (yB k hl oc b) fun s3=>?_
    refine aF ?_;intros
    refine jG (mQ (st:=fun s:Memo l=>bC (HK l n s) C) (gV l b) 258 [] [.ptr b1 0 0 0 1] (fun x=>!voidC l x) hsub) fun s4=>?_
    refine aF ?_;intros
    refine⟨_,aB _,s4,?_,rfl⟩
    have:((gV l b).any fun x=>!voidC l x)=!((gV l b).all (voidC l)):=by rw[← List.not_all_eq_any_not]
    rw[this,hv,q,q2,Bool.not_not];rfl
   ·refine aF ?_;intros
    exact⟨_,aB _,s2,by rw[hv,q2,q];rfl,rfl⟩
  ·refine aF ?_;intros
   exact⟨_,aB _,s1,by rw[hv,q];rfl,rfl⟩
 refine aJ aI Tryz.func246 rfl (by rfl) (by rfl) ?_
 have kh:=sE (l:=l) (n:=n) (B:=B) (s:=s)
 refine aF ?_;intros
 refine jO o fun b1 h1 o1 k1=>?_
 refine aF ?_;intros
 refine jO o1 fun b2 h2 o2 k2=>?_
 have e1:=fun y=>aE (y:=y) (aA B b1 (.row 0 [hp n].length 0 [[hp n]])) h2
 have kh:=sE (l:=l) (n:=n) (B:=aK (aK B b1 (.row 0 [hp n].length 0 [[hp n]])) b2 (.row 0 [PV.str b].length 0 [[PV.str b]])) (s:=s)
 have k1':=kF o2 (s:=s) (e1 _)
 refine aF ?_;intros
 refine aU (aT aI (by rfl) 6 (by decide) ?_)
 refine aF ?_;intros
 refine jG (remV k b (hclos _ b1 b2 o2 (e1 _) (aA _ _ _))) fun s'=>?_
 refine aF ?_;intros
 exact⟨_,dH ((aR h2).trans (aR h1)),s',rfl,rfl⟩
end
section
attribute [local irreducible] T TL
set_option maxRecDepth 10000
set_option maxHeartbeats 4000000
theorem fT (l:List Ty):(tA l).length=l.length:=by rw[nX];simp
variable {l:List ClassI} {n:pY} {B:aD}
structure zZ (l:List ClassI) (n:pY) (S:aD):Prop where
 h:S n.gh=some (.row 0 4 0 [[CS l,.map n.ga,.map n.gc,.map n.gv]])
 a:S n.ga=some (.map true (atM (hsOf l)))
theorem zZ.upd {S:aD} (h:zZ l n S) {g:Nat} {x:AO} (hg:S g=none):zZ l n (L.aK S g x):=⟨aE h.h hg,aE h.a hg⟩
theorem zZ.of (k:n.Ok) {s:Memo l}:zZ l n (bC (HK l n s) B):=⟨sE,HK_a k⟩
theorem hasS {S:aD} (h:zZ l n S) (b:ByteArray):Fn PP 166 [hp n,.str b] S fun o S'=>o=.ret (.bool (lI l b))∧S'=S:=by
 refine aJ aI Tryz.func166 rfl (by rfl) (by rfl) ?_
 have kh:=h.h
 have ka:=h.a
 refine aF ?_;intros
 cases hat:mZ l b with
 | some i=>
  refine fV ka (nA hat) ?_
  refine aF ?_;intros
  exact⟨_,aB _,by unfold lI;rw[hat];rfl,rfl⟩
 | none=>
  refine jN ka (nC hat) ?_
  refine aF ?_;intros
  exact⟨_,aB _,by unfold lI;rw[hat];rfl,rfl⟩
theorem T_mid {P:Program} {r:Option Nat} {c c2:Code} {Q Q2:bQ} {t:List PV} {S:aD} {D:List DA} (t0:List PV) (S0:aD) (h1:T P r c2 Q2 t0 S0 D) (h2:T P r c (uA (fun t' S' D'=>D'=D∧yH t' t0∧bV S' S0) Q) t S D) :
  T P r c (uA (T P r c2 Q2) Q) t S D:=
 T.mono h2 fun x t S D h=>by
  cases x with
  | normal=>obtain⟨rfl,a,b⟩:=h;exact h1.weak a b
  | _=>exact h
theorem formed_spec (hl:0<l.length):∀ (t:Ty) (S:aD),zZ l n S→Fn PP 165 [TV t,.fn (.func 166) [hp n] []] S fun o S'=>o=.ret (.bool (zC (lI l) t))∧S'=S:=by
 refine Ty.ind fun t ih=>?_
 intro S hS
 refine aJ aI Tryz.func165 rfl (by rfl) (by rfl) ?_
 refine aF ?_;intros
 refine aG fun b2 h2=>?_
 refine aF ?_;intros
 refine aG fun b3 h3=>?_
 refine nO ?_;intros
 refine lY aI (nO ?_);intros
 refine nO ?_;intros
 have k2:aK (aK S b2 (.row 0 (eT t).length 0 [eT t])) b3 (.row 0 [PV.fn (.func 166) [hp n] []].length 0 [[PV.fn (.func 166) [hp n] []]]) b2=some (.row 0 5 0 [eT t]):=aE (aA _ _ _) h3
 have k3:aK (aK S b2 (.row 0 (eT t).length 0 [eT t])) b3 (.row 0 [PV.fn (.func 166) [hp n] []].length 0 [[PV.fn (.func 166) [hp n] []]]) b3=some (.row 0 1 0 [[PV.fn (.func 166) [hp n] []]]):=aA _ _ _
 have hS2:zZ l n (aK (aK S b2 (.row 0 (eT t).length 0 [eT t])) b3 (.row 0 [PV.fn (.func 166) [hp n] []].length 0 [[PV.fn (.func 166) [hp n] []]])):=(hS.upd h2).upd h3
 have hsl:bV (aK (aK S b2 (.row 0 (eT t).length 0 [eT t])) b3 (.row 0 [PV.fn (.func 166) [hp n] []].length 0 [[PV.fn (.func 166) [hp n] []]])) S:=(aR h3).trans (aR h2)
 generalize aK (aK S b2 (.row 0 (eT t).length 0 [eT t])) b3 (.row 0 [PV.fn (.func 166) [hp n] []].length 0 [[PV.fn (.func 166) [hp n] []]])=S2 at *
 generalize hv:lB (lI l) t.kind t.name t.lo t.hi t.args.length=v
 refine T_seq (T_mid (gF 104 [(2,.ptr b2 0 0 0 5),(3,.ptr b3 0 0 0 1),(5,.bool v)]) S2 ?_ ?_)
 ·refine aF ?_;intros
  refine And.intro (fun q=>?_) (fun q=>?_)
  ·refine aF ?_;intros
   rw[nX]
   refine fA (St:=Unit) (st:=fun _=>S2) (s:=()) (kI t.args 193 [] [.ptr b3 0 0 0 1] (fun a=>!zC (lI l) a) (fun a ha _=>?_)) fun _=>?_
   ·refine aJ aI Tryz.func193 rfl (by rfl) (by rfl) ?_
    refine aF ?_;intros
    refine aG fun b4 h4=>?_
    have k3':=fun y=>aE (y:=y) k3 h4
    refine aF ?_;intros
    refine bN (ih a ha _ hS2) (aR h4) ?_
    refine aF ?_;intros
    exact⟨_,aR h4,(),rfl,rfl⟩
   ·refine aF ?_;intros
    refine⟨_,hsl,?_,rfl⟩
    have:(t.args.any fun x=>!zC (lI l) x)=!(t.args.all (zC (lI l))):=by rw[← List.not_all_eq_any_not]
    rw[vS,hv,q,this,Bool.not_not];rfl
  ·refine aF ?_;intros
   exact⟨_,hsl,by rw[vS,hv,q];rfl,rfl⟩
 ·refine aF ?_;intros
  by_cases q1:t.kind=1
  ·refine fC (fun _=>?_) (fun h=>absurd q1 h)
   refine aF ?_;intros
   refine bN (hasS hS2 t.name) (aB _) ?_
   refine aF ?_;intros
   refine And.intro (fun c1=>?_) (fun c1=>?_)
   ·try simp at c1
    refine aF ?_;intros
    refine And.intro (fun c2=>?_) (fun c2=>?_)
    ·try simp at c2
     refine aF ?_;intros
     refine And.intro (fun c3=>?_) (fun c3=>?_)
     ·try simp at c3
      refine aF ?_;intros
      conv=>whnf
      refine aF ?_;intros
      have hv':v=decide (((tA t.args).length:Int)=0):=by rw[← hv,fT];unfold lB;simp[q1,c1,c2,c3]
      subst hv'
      exact⟨by repeat' (first | exact trivial | exact rfl | refine And.intro ?_ ?_),aB _⟩
     ·try simp at c3
      refine aF ?_;intros
      have hv':v=false:=by
       rw[← hv];unfold lB;simp[q1,c1,c2,c3]
       try (intros;first | omega | (rw[fT] at c1;omega))
      subst hv'
      exact⟨by repeat' (first | exact trivial | exact rfl | refine And.intro ?_ ?_),aB _⟩
    ·try simp at c2
     refine aF ?_;intros
     have hv':v=false:=by
      rw[← hv];unfold lB;simp[q1,c1,c2]
      try (intros;first | omega | (rw[fT] at c1;omega))
     subst hv'
     exact⟨by repeat' (first | exact trivial | exact rfl | refine And.intro ?_ ?_),aB _⟩
   ·try simp at c1
    refine aF ?_;intros
    have hv':v=false:=by
     rw[← hv];unfold lB;simp[q1,c1]
     try (intros;first | omega | (rw[fT] at c1;omega))
    subst hv'
    exact⟨by repeat' (first | exact trivial | exact rfl | refine And.intro ?_ ?_),aB _⟩
  ·refine fC (fun h=>absurd h q1) (fun _=>?_)
   refine aF ?_;intros
   by_cases q2:t.kind=4
   ·refine fC (fun _=>?_) (fun h=>absurd q2 h)
    refine aF ?_;intros
    refine bN (hasS hS2 t.name) (aB _) ?_
    refine aF ?_;intros
    refine And.intro (fun c1=>?_) (fun c1=>?_)
    ·try simp at c1
     refine aF ?_;intros
     refine And.intro (fun c2=>?_) (fun c2=>?_)
     ·try simp at c2
      refine aF ?_;intros
      refine And.intro (fun c3=>?_) (fun c3=>?_)
      ·try simp at c3
       refine aF ?_;intros
       conv=>whnf
       refine aF ?_;intros
       have hv':v=decide (((tA t.args).length:Int)=0):=by rw[← hv,fT];unfold lB;simp[q1,q2,c1,c2,c3]
       subst hv'
       exact⟨by repeat' (first | exact trivial | exact rfl | refine And.intro ?_ ?_),aB _⟩
      ·try simp at c3
       refine aF ?_;intros
       have hv':v=false:=by
        rw[← hv];unfold lB;simp[q1,q2,c1,c2,c3]
        try (intros;first | omega | (rw[fT] at c1;omega))
       subst hv'
       exact⟨by repeat' (first | exact trivial | exact rfl | refine And.intro ?_ ?_),aB _⟩
     ·try simp at c2
      refine aF ?_;intros
      have hv':v=false:=by
       rw[← hv];unfold lB;simp[q1,q2,c1,c2]
       try (intros;first | omega | (rw[fT] at c1;omega))
      subst hv'
      exact⟨by repeat' (first | exact trivial | exact rfl | refine And.intro ?_ ?_),aB _⟩
    ·try simp at c1
     refine aF ?_;intros
     have hv':v=false:=by
      rw[← hv];unfold lB;simp[q1,q2,c1]
      try (intros;first | omega | (rw[fT] at c1;omega))
     subst hv'
     exact⟨by repeat' (first | exact trivial | exact rfl | refine And.intro ?_ ?_),aB _⟩
   ·refine fC (fun h=>absurd h q2) (fun _=>?_)
    refine aF ?_;intros
    by_cases q3:t.kind=2
    ·refine fC (fun _=>?_) (fun h=>absurd q3 h)
     refine aF ?_;intros
     refine And.intro (fun c1=>?_) (fun c1=>?_)
     ·try simp at c1
      refine aF ?_;intros
      refine And.intro (fun c2=>?_) (fun c2=>?_)
      ·try simp at c2
       refine aF ?_;intros
       conv=>whnf
       refine aF ?_;intros
       have hv':v=decide (((tA t.args).length:Int)=0):=by rw[← hv,fT];unfold lB;simp[q1,q2,q3,c1,c2]
       subst hv'
       exact⟨by repeat' (first | exact trivial | exact rfl | refine And.intro ?_ ?_),aB _⟩
      ·try simp at c2
       refine aF ?_;intros
       have hv':v=false:=by
        rw[← hv];unfold lB;simp[q1,q2,q3,c1,c2]
        try (intros;first | omega | (rw[fT] at c1;omega))
       subst hv'
       exact⟨by repeat' (first | exact trivial | exact rfl | refine And.intro ?_ ?_),aB _⟩
     ·try simp at c1
      refine aF ?_;intros
      have hv':v=false:=by
       rw[← hv];unfold lB;simp[q1,q2,q3,c1]
       try (intros;first | omega | (rw[fT] at c1;omega))
      subst hv'
      exact⟨by repeat' (first | exact trivial | exact rfl | refine And.intro ?_ ?_),aB _⟩
    ·refine fC (fun h=>absurd h q3) (fun _=>?_)
     refine aF ?_;intros
     by_cases q4:t.kind=3
     ·refine fC (fun _=>?_) (fun h=>absurd q4 h)
      refine aF ?_;intros
      refine And.intro (fun c0=>?_) (fun c0=>?_)
      ·try simp at c0
       refine aF ?_;intros
       refine And.intro (fun c1=>?_) (fun c1=>?_)
       ·try simp at c1
        refine aF ?_;intros
        refine And.intro (fun c2=>?_) (fun c2=>?_)
        ·try simp at c2
         refine aF ?_;intros
         refine And.intro (fun c3=>?_) (fun c3=>?_)
         ·try simp at c3
          refine aF ?_;intros
          conv=>whnf
          refine aF ?_;intros
          have hv':v=decide (((tA t.args).length:Int)=0):=by rw[← hv,fT];unfold lB;simp[q1,q2,q3,q4,c0,c1,c2,c3]
          subst hv'
          exact⟨by repeat' (first | exact trivial | exact rfl | refine And.intro ?_ ?_),aB _⟩
         ·try simp at c3
          refine aF ?_;intros
          have hv':v=false:=by
           rw[← hv];unfold lB;simp[q1,q2,q3,q4,c0,c1,c2,c3]
           try (intros;first | omega | (rw[fT] at c1;omega))
          subst hv'
          exact⟨by repeat' (first | exact trivial | exact rfl | refine And.intro ?_ ?_),aB _⟩
        ·try simp at c2
         refine aF ?_;intros
         have hv':v=false:=by
          rw[← hv];unfold lB;simp[q1,q2,q3,q4,c0,c1,c2]
          try (intros;first | omega | (rw[fT] at c1;omega))
         subst hv'
         exact⟨by repeat' (first | exact trivial | exact rfl | refine And.intro ?_ ?_),aB _⟩
       ·try simp at c1
        refine aF ?_;intros
        have hv':v=false:=by
         rw[← hv];unfold lB;simp[q1,q2,q3,q4,c0,c1]
         try (intros;first | omega | (rw[fT] at c1;omega))
        subst hv'
        exact⟨by repeat' (first | exact trivial | exact rfl | refine And.intro ?_ ?_),aB _⟩
      ·try simp at c0
       refine aF ?_;intros
       refine And.intro (fun c1=>?_) (fun c1=>?_)
       ·try simp at c1
        refine aF ?_;intros
        refine And.intro (fun c2=>?_) (fun c2=>?_)
        ·try simp at c2
         refine aF ?_;intros
         conv=>whnf
         refine aF ?_;intros
         have hv':v=decide (((tA t.args).length:Int)=0):=by rw[← hv,fT];unfold lB;simp[q1,q2,q3,q4,c0,c1,c2]
         subst hv'
         exact⟨by repeat' (first | exact trivial | exact rfl | refine And.intro ?_ ?_),aB _⟩
        ·try simp at c2
         refine aF ?_;intros
         have hv':v=false:=by
          rw[← hv];unfold lB;simp[q1,q2,q3,q4,c0,c1,c2]
          try (intros;first | omega | (rw[fT] at c1;omega))
         subst hv'
         exact⟨by repeat' (first | exact trivial | exact rfl | refine And.intro ?_ ?_),aB _⟩
       ·try simp at c1
        refine aF ?_;intros
        have hv':v=false:=by
         rw[← hv];unfold lB;simp[q1,q2,q3,q4,c0,c1]
         try (intros;first | omega | (rw[fT] at c1;omega))
        subst hv'
        exact⟨by repeat' (first | exact trivial | exact rfl | refine And.intro ?_ ?_),aB _⟩
     ·refine fC (fun h=>absurd h q4) (fun _=>?_)
      refine aF ?_;intros
      by_cases q5:t.kind=5
      ·refine fC (fun _=>?_) (fun h=>absurd q5 h)
       refine aF ?_;intros
       conv=>whnf
       refine aF ?_;intros
       refine And.intro (fun c1=>?_) (fun c1=>?_)
       ·try simp at c1
        refine aF ?_;intros
        refine And.intro (fun c2=>?_) (fun c2=>?_)
        ·try simp at c2
         refine aF ?_;intros
         refine And.intro (fun c3=>?_) (fun c3=>?_)
         ·try simp at c3
          refine aF ?_;intros
          have hv':v=decide (t.hi=0):=by
           rw[← hv];unfold lB;simp[q1,q2,q3,q4,q5,c1,c2,c3]
           try (intros;first | omega | (rw[fT] at c1;omega))
          subst hv'
          exact⟨by repeat' (first | exact trivial | exact rfl | refine And.intro ?_ ?_),aB _⟩
         ·try simp at c3
          refine aF ?_;intros
          have hv':v=false:=by
           rw[← hv];unfold lB;simp[q1,q2,q3,q4,q5,c1,c2,c3]
           try (intros;first | omega | (rw[fT] at c1;omega))
          subst hv'
          exact⟨by repeat' (first | exact trivial | exact rfl | refine And.intro ?_ ?_),aB _⟩
        ·try simp at c2
         refine aF ?_;intros
         have hv':v=false:=by
          rw[← hv];unfold lB;simp[q1,q2,q3,q4,q5,c1,c2]
          try (intros;first | omega | (rw[fT] at c1;omega))
         subst hv'
         exact⟨by repeat' (first | exact trivial | exact rfl | refine And.intro ?_ ?_),aB _⟩
       ·try simp at c1
        refine aF ?_;intros
        have hv':v=false:=by
         rw[← hv];unfold lB;simp[q1,q2,q3,q4,q5,c1]
         try (intros;first | omega | (rw[fT] at c1;omega))
        subst hv'
        exact⟨by repeat' (first | exact trivial | exact rfl | refine And.intro ?_ ?_),aB _⟩
      ·refine fC (fun h=>absurd h q5) (fun _=>?_)
       refine aF ?_;intros
       refine aF ?_;intros
       have hv':v=false:=by
        rw[← hv];unfold lB;simp[q1,q2,q3,q4,q5]
        try (intros;first | omega | (rw[fT] at c1;omega))
       subst hv'
       exact⟨by repeat' (first | exact trivial | exact rfl | refine And.intro ?_ ?_),aB _⟩
end
section
attribute [local irreducible] T TL
set_option maxRecDepth 10000
set_option maxHeartbeats 4000000
section
variable {σ τ:Type}
def lF (f:σ→Ty→σ ⊕ τ):σ→List Ty→σ ⊕ τ
 | s,[]=>.inl s
 | s,x::l=>match f s x with
  | .inl s'=>lF f s' l
  | .inr y=>.inr y
def SumR (st:σ→aD) (sy:τ→aD) (p q:PV) (r:σ ⊕ τ) (o:iY) (S':aD):Prop:=match r with
 | .inl s=>o=.ret p∧S'=st s
 | .inr y=>o=.ret q∧S'=sy y
theorem indexG (st:σ→aD) (sy:τ→aD) (f:σ→Ty→σ ⊕ τ) (inv:List Ty→σ→Prop) (l:List Ty) (k:Nat) (a c:List PV)
  (hp:∀ x r s,x∈l→inv (x::r) s→Fn PP k (a++[TV x]++c) (st s) (SumR st sy (.bool false) (.bool true) (f s x)))
  (hinv:∀ x r s s',inv (x::r) s→f s x=.inl s'→inv r s') (s0:σ) (h0:inv l s0) :
  Fn PP 211 [TS l,.fn (.func k) a c] (st s0) fun o S'=>match lF f s0 l with
   | .inl s=>o=.ret (.int .i64 (-1))∧S'=st s
   | .inr y=>(∃ i:Nat,o=.ret (.int .i64 (i:Nat)))∧S'=sy y:=by
 refine aJ aI Tryz.func211 rfl (by rfl) (by rfl) ?_
 refine aF ?_;intros
 refine aU (aY (α:=σ × Nat) (inv:=fun x=>x.2≤l.length∧inv (l.drop x.2) x.1∧lF f s0 l=lF f x.1 (l.drop x.2)) (tm:=fun x=>gF 19 [(0,TS l),(1,.fn (.func k) a c),(7,.int .i64 l.length),(8,.int .i64 x.2)]) (st:=fun x=>st x.1) (μ:=fun x=>l.length - x.2) (s0,0) ⟨by simp,h0,rfl⟩ ?_ (aB _) ?_)
 ·repeat' (first | exact trivial | exact rfl | refine And.intro ?_ ?_)
  simp
 rintro⟨s,i⟩ ⟨hi,hin,hf⟩
 dsimp only at hi hin hf ⊢
 refine aF ?_;intros
 refine fC (fun hc=>?_) (fun hc=>?_)
 ·have hlt:i<l.length:=by omega
  rw[List.drop_eq_getElem_cons hlt] at hin hf
  simp only[lF] at hf
  refine aF ?_;intros
  simp only[iS]
  have hpx:=hp _ _ s (List.getElem_mem hlt) hin
  cases e:f s l[i] with
  | inl s'=>
   rw[e] at hpx hf
   refine aV hpx (aB _) ?_
   rintro o S' ⟨rfl,rfl⟩ -
   unfold dR
   rw[cW]
   refine aF ?_;intros
   exact⟨(s',i+1),⟨by dsimp only;omega,hinv _ _ _ _ hin e,hf⟩,by dsimp only;omega,by repeat' (first | exact trivial | exact rfl | refine And.intro ?_ ?_),aB _⟩
  | inr y=>
   rw[e] at hpx hf
   refine aV hpx (aB _) ?_
   rintro o S' ⟨rfl,rfl⟩ -
   unfold dR
   rw[cW]
   refine aF ?_;intros
   exact⟨_,aB _,by rw[hf];exact⟨⟨i,rfl⟩,rfl⟩⟩
 ·have hge:l.drop i=[]:=List.drop_of_length_le (by omega)
  rw[hge] at hf
  refine aF ?_;intros
  exact⟨_,aB _,by rw[hf];exact⟨rfl,rfl⟩⟩
theorem containsG (st:σ→aD) (sy:τ→aD) (f:σ→Ty→σ ⊕ τ) (inv:List Ty→σ→Prop) (l:List Ty) (k:Nat) (a c:List PV)
  (hp:∀ x r s,x∈l→inv (x::r) s→Fn PP k (a++[TV x]++c) (st s) (SumR st sy (.bool false) (.bool true) (f s x)))
  (hinv:∀ x r s s',inv (x::r) s→f s x=.inl s'→inv r s') (s0:σ) (h0:inv l s0) :
  Fn PP 179 [TS l,.fn (.func k) a c] (st s0) (SumR st sy (.bool false) (.bool true) (lF f s0 l)):=by
 refine aJ aI Tryz.func179 rfl (by rfl) (by rfl) ?_
 refine aF ?_;intros
 have hx:=indexG st sy f inv l k a c hp hinv s0 h0
 refine aV hx (aB _) ?_
 cases e:lF f s0 l with
 | inl s=>
  rintro o S' ⟨rfl,rfl⟩ -
  unfold dR
  rw[cW]
  refine aF ?_;intros
  exact⟨_,aB _,rfl,rfl⟩
 | inr y=>
  rintro o S' ⟨⟨i,rfl⟩,rfl⟩ -
  unfold dR
  rw[cW]
  refine aF ?_;intros
  exact⟨_,aB _,by simp,rfl⟩
mutual
def jC (stp:σ→Nat→Ty→σ ⊕ τ) (x:σ) (d:Nat):Ty→σ ⊕ τ
 | .mk k n lo hi a=>if 101<d then .inl x else match stp x d (.mk k n lo hi a) with
  | .inl x'=>eachFs stp x' (d+1) a
  | .inr y=>.inr y
def eachFs (stp:σ→Nat→Ty→σ ⊕ τ) (x:σ) (d:Nat):List Ty→σ ⊕ τ
 | []=>.inl x
 | t::l=>match jC stp x d t with
  | .inl x'=>eachFs stp x' d l
  | .inr y=>.inr y
end
theorem eachFs_eq (stp:σ→Nat→Ty→σ ⊕ τ) (d:Nat):∀ (l:List Ty) (x:σ),eachFs stp x d l=lF (fun x t=>jC stp x d t) x l
 | [],x=>by rw[eachFs,lF]
 | t::l,x=>by
  rw[eachFs,lF]
  cases jC stp x d t with
  | inl x'=>exact eachFs_eq stp d l x'
  | inr y=>rfl
theorem eachF_eq (stp:σ→Nat→Ty→σ ⊕ τ) (x:σ) (d:Nat) (t:Ty):jC stp x d t=if 101<d then .inl x else match stp x d t with
  | .inl x'=>lF (fun x t=>jC stp x (d+1) t) x' t.args
  | .inr y=>.inr y:=by
 cases t
 rw[jC]
 split
 ·rfl
 ·cases stp x d _ with
  | inl x'=>exact eachFs_eq stp (d+1) _ x'
  | inr y=>rfl
theorem foldS_mu {f:σ→Ty→σ ⊕ τ} {μ:σ→Nat}:∀ {l:List Ty},(∀ t∈l,∀ x x',f x t=.inl x'→μ x'≤μ x+t.cnt)→∀ {x x'},lF f x l=.inl x'→μ x'≤μ x+nK l
 | [],_,x,x',h=>by simp only[lF,Sum.inl.injEq] at h;subst h;simp[nK]
 | t::l,hf,x,x',h=>by
  simp only[lF] at h
  cases e:f x t with
  | inr y=>rw[e] at h;cases h
  | inl z=>
   rw[e] at h
   have h1:=hf t (by simp) x z e
   have h2:=foldS_mu (fun t ht=>hf t (by simp[ht])) h
   rw[nK];omega
theorem eachF_mu {stp:σ→Nat→Ty→σ ⊕ τ} {μ:σ→Nat} (hμ:∀ x d t x',stp x d t=.inl x'→μ x'≤μ x+1):∀ (t:Ty) (x x':σ) (d:Nat),jC stp x d t=.inl x'→μ x'≤μ x+t.cnt:=by
 refine Ty.ind fun t ih=>?_
 intro x x' d h
 rw[eachF_eq] at h
 split at h
 ·cases h;omega
 ·cases e:stp x d t with
  | inr y=>rw[e] at h;cases h
  | inl z=>
   rw[e] at h
   have h1:=hμ x d t z e
   have h2:=foldS_mu (μ:=μ) (fun t ht x x' h=>ih t ht x x' (d+1) h) h
   rw[sR];omega
end
end
section
attribute [local irreducible] T TL
set_option maxRecDepth 10000
set_option maxHeartbeats 4000000
theorem mrg_sub {A B C C':aD} (hs:bV A B) (d:Dj A C) (d':Dj A C'):jD (bC A C) (bC B C) (bC B C')=bC A C':=by
 funext g
 cases eb:B g with
 | some y=>have ea:=hs g y eb;simp[jD,bC,eb,ea]
 | none=>
  cases ea:A g with
  | some y=>
   have e1:=d g y ea
   have e2:=d' g y ea
   simp[jD,bC,eb,ea,e1,e2]
  | none=>
   cases e2:C' g with
   | some z=>simp[jD,bC,eb,ea,e2]
   | none=>cases e1:C g <;> simp[jD,bC,eb,ea,e2,e1]
structure Yld {σ τ:Type} (gl:Nat) (ACC:σ→aD) (ACY:τ→aD) (stp:σ→Nat→Ty→σ ⊕ τ) (μ:σ→Nat) (M:Nat):Prop where
 y:∀ x d t,d≤101→μ x<M→YFn PP gl [.int .i64 (d:Nat),TV t] (ACC x) (SumR ACC ACY (.bool true) (.bool false) (stp x d t))
 mu:∀ x d t x',stp x d t=.inl x'→μ x'≤μ x+1
 dom:∀ x x' g,ACC x g=none→ACC x' g=none
 domy:∀ x y g,ACC x g=none→ACY y g=none
variable {σ τ:Type} {gl:Nat} {ACC:σ→aD} {ACY:τ→aD} {stp:σ→Nat→Ty→σ ⊕ τ} {μ:σ→Nat} {M:Nat}
theorem Dj_all (Y:Yld gl ACC ACY stp μ M) {A:aD} {x:σ} (h:Dj A (ACC x)) (x':σ):Dj A (ACC x'):=fun g z hz=>Y.dom x x' g (h g z hz)
theorem Dj_ally (Y:Yld gl ACC ACY stp μ M) {A:aD} {x:σ} (h:Dj A (ACC x)) (y:τ):Dj A (ACY y):=fun g z hz=>Y.domy x y g (h g z hz)
theorem uB {A C:aD} {g:Nat} {z:AO} (d:Dj A C) (h:C g=none):Dj (aK A g z) C:=(wA d.symm h).symm
abbrev eachV (b2 b3:Nat):PV:=.fn (.func 226) [] [.ptr b2 0 0 0 1,.ptr b3 0 0 0 1]
theorem each_spec (Y:Yld gl ACC ACY stp μ M) (CL:aD) (b2 b3:Nat) (e2:CL b2=some (.row 0 1 0 [[.yld gl]])) (e3:CL b3=some (.row 0 1 0 [[eachV b2 b3]])) :
  ∀ (t:Ty) (d:Nat) (x:σ),d≤102→μ x+t.cnt≤M→Dj CL (ACC x) →
  Fn PP 226 [TV t,.int .i64 (d:Nat),.ptr b2 0 0 0 1,.ptr b3 0 0 0 1] (bC CL (ACC x)) (SumR (fun x=>bC CL (ACC x)) (fun y=>bC CL (ACY y)) (.bool true) (.bool false) (jC stp x d t)):=by
 refine Ty.ind fun t ih=>?_
 intro d x hd hM dj
 refine aJ aI Tryz.func226 rfl (by rfl) (by rfl) ?_
 refine aF ?_;intros
 refine aG fun b4 h4=>?_
 refine aF ?_;intros
 refine aG fun b5 h5=>?_
 have n45:b5≠b4:=aL (aA _ _ _) h5
 have h5':bC CL (ACC x) b5=none:=by rw[aC n45] at h5;exact h5
 rw[mC,mC]
 generalize hA:aK (aK CL b4 (.row 0 (eT t).length 0 [eT t])) b5 (.row 0 [PV.int .i64 (d:Nat)].length 0 [[PV.int .i64 (d:Nat)]])=A
 have a4:A b4=some (.row 0 5 0 [eT t]):=by rw[← hA,aC (Ne.symm n45),aA];rfl
 have a5:A b5=some (.row 0 1 0 [[.int .i64 (d:Nat)]]):=by rw[← hA,aA];rfl
 have c4:CL b4=none:=(bL.1 h4).1
 have c5:CL b5=none:=(bL.1 h5').1
 have hsl:bV A CL:=by
  rw[← hA];exact (aR (by rw[aC n45];exact c5)).trans (aR c4)
 have a2:=hsl _ _ e2
 have a3:=hsl _ _ e3
 have djA:Dj A (ACC x):=by
  rw[← hA];exact uB (uB dj (bL.1 h4).2) (bL.1 h5').2
 have u2:∀ C,bC A C b2=some (.row 0 1 0 [[.yld gl]]):=fun C=>dM a2
 have u3:∀ C,bC A C b3=some (.row 0 1 0 [[eachV b2 b3]]):=fun C=>dM a3
 have u4:∀ C,bC A C b4=some (.row 0 5 0 [eT t]):=fun C=>dM a4
 have u5:∀ C,bC A C b5=some (.row 0 1 0 [[.int .i64 (d:Nat)]]):=fun C=>dM a5
 have v2:=u2 (ACC x)
 have v4:=u4 (ACC x)
 have v5:=u5 (ACC x)
 have hleU:∀ C,Dj A C→bV (bC A C) (bC CL C):=fun C dC g z hz=>by
  cases e:CL g with
  | some y=>rw[dM e] at hz;rw[dM (hsl g y e),hz]
  | none=>
   rw[gU e] at hz
   exact cZ dC g z hz
 have dA:∀ x',Dj A (ACC x'):=fun x'=>Dj_all Y djA x'
 have dAy:∀ y,Dj A (ACY y):=fun y=>Dj_ally Y djA y
 have dC:∀ x',Dj CL (ACC x'):=fun x'=>Dj_all Y dj x'
 have dCy:∀ y,Dj CL (ACY y):=fun y=>Dj_ally Y dj y
 have hone:=eachF_eq stp x d t
 refine aF ?_;intros
 refine fC (fun hc=>?_) (fun hc=>?_)
 ·rw[if_pos (by omega)] at hone
  refine aF ?_;intros
  rw[hone]
  exact⟨_,hleU _ djA,rfl,rfl⟩
 ·rw[if_neg (by omega)] at hone
  refine aF ?_;intros
  have hY:=Y.y x d t (by omega) (by have:=cnt_pos t;omega)
  refine lW hY (cZ djA) ?_
  cases e:stp x d t with
  | inr y=>
   rw[e] at hone
   rintro o S' ⟨rfl,rfl⟩ -
   unfold dR
   rw[mrg_r djA (dAy y)]
   refine aF ?_;intros
   rw[hone]
   exact⟨_,hleU _ (dAy y),rfl,rfl⟩
  | inl x1=>
   rw[e] at hone
   dsimp only at hone
   have hμ1:=Y.mu x d t x1 e
   rintro o S' ⟨rfl,rfl⟩ -
   unfold dR
   rw[mrg_r djA (dA x1)]
   have v4:=u4 (ACC x1)
   have v5:=u5 (ACC x1)
   refine aF ?_;intros
   rw[nX]
   have hcl:=containsG (fun x=>bC A (ACC x)) (fun y=>bC A (ACY y)) (fun x t=>jC stp x (d+1) t) (fun r x=>μ x+nK r≤M) t.args 227 [] [.ptr b3 0 0 0 1,.ptr b5 0 0 0 1] (fun a r z ha hz=>?_) (fun a r z z' h1 h2=>?_) x1 (by rw[sR] at hM;omega)
   ·refine aV hcl (aB _) ?_
    unfold SumR
    cases e2:lF (fun x t=>jC stp x (d+1) t) x1 t.args with
    | inl x2=>
     rw[e2] at hone
     rintro o S' ⟨rfl,rfl⟩ -
     unfold dR
     rw[cW]
     refine aF ?_;intros
     rw[hone]
     exact⟨_,hleU _ (dA x2),rfl,rfl⟩
    | inr y=>
     rw[e2] at hone
     rintro o S' ⟨rfl,rfl⟩ -
     unfold dR
     rw[cW]
     refine aF ?_;intros
     rw[hone]
     exact⟨_,hleU _ (dAy y),rfl,rfl⟩
   ·refine aJ aI Tryz.func227 rfl (by rfl) (by rfl) ?_
    have w3:=u3 (ACC z)
    have w5:=u5 (ACC z)
    refine aF ?_;intros
    refine aG fun b6 h6=>?_
    obtain⟨h6a,h6b⟩:=bL.1 h6
    rw[mC]
    have dA6:∀ x' q,Dj (aK A b6 q) (ACC x'):=fun x' q=>uB (dA x') (Y.dom z x' _ h6b)
    have dA6y:∀ y q,Dj (aK A b6 q) (ACY y):=fun y q=>uB (dAy y) (Y.domy z y _ h6b)
    have w3':∀ q,bC (aK A b6 q) (ACC z) b3=some (.row 0 1 0 [[eachV b2 b3]]):=fun q=>dM (aE a3 h6a)
    have w5':∀ q,bC (aK A b6 q) (ACC z) b5=some (.row 0 1 0 [[.int .i64 (d:Nat)]]):=fun q=>dM (aE a5 h6a)
    have w6':∀ q,bC (aK A b6 q) (ACC z) b6=some q:=fun q=>dM (aA _ _ _)
    have w3q:=w3' (.row 0 (eT a).length 0 [eT a])
    have w5q:=w5' (.row 0 (eT a).length 0 [eT a])
    have w6q:bC (aK A b6 (.row 0 (eT a).length 0 [eT a])) (ACC z) b6=some (.row 0 5 0 [eT a]):=w6' _
    refine aF ?_;intros
    have hz1:(((d:Nat):Int)+1)=((d+1:Nat):Int):=by omega
    rw[hz1]
    have hs6:∀ q,bV (aK A b6 q) CL:=fun q=>(aR h6a).trans hsl
    have hle6:∀ q C,Dj (aK A b6 q) C→bV (bC (aK A b6 q) C) (bC CL C):=fun q C dC g z hz=>by
     cases e:CL g with
     | some y=>rw[dM e] at hz;rw[dM (hs6 q g y e),hz]
     | none=>
      rw[gU e] at hz
      exact cZ dC g z hz
    have hlast:∀ q C,Dj (aK A b6 q) C→bV (bC (aK A b6 q) C) (bC A C):=fun q C dC g z hz=>by
     cases e:A g with
     | some y=>rw[dM e] at hz;rw[dM (aR h6a g y e),hz]
     | none=>
      rw[gU e] at hz
      exact cZ dC g z hz
    refine aV (ih a ha (d+1) z (by omega) (by rw[nK] at hz;omega) (dC z)) (hle6 _ _ (dA6 z _)) ?_
    unfold SumR
    cases e3:jC stp z (d+1) a with
    | inl z2=>
     rintro o S' ⟨rfl,rfl⟩ -
     unfold dR
     rw[mrg_sub (hs6 _) (dA6 z _) (dA6 z2 _)]
     refine aF ?_;intros
     exact⟨_,hlast _ _ (dA6 z2 _),rfl,rfl⟩
    | inr y=>
     rintro o S' ⟨rfl,rfl⟩ -
     unfold dR
     rw[mrg_sub (hs6 _) (dA6 z _) (dA6y y _)]
     refine aF ?_;intros
     exact⟨_,hlast _ _ (dA6y y _),rfl,rfl⟩
   ·have:=eachF_mu Y.mu a z z' (d+1) h2
    rw[nK] at h1;omega
end
section
attribute [local irreducible] T TL
set_option maxRecDepth 10000
set_option maxHeartbeats 4000000
theorem yL {S:aD} {g:Nat} {x:AO}:bC (aK E g x) S=aK S g x:=by
 funext h
 by_cases e:h=g
 ·subst e;simp[bC,aA]
 ·simp[bC,aC e,E]
theorem mV {S B:aD} {g:Nat} {x:AO} (hs:bV S B) (h:S g=some x):bV S (aK B g x):=fun k y hy=>by
 by_cases e:k=g
 ·subst e;rw[aA] at hy;rw[h,hy]
 ·rw[aC e] at hy;exact hs k y hy
theorem pT {S A B:aD} (ha:bV S A) (hb:bV S B):bV S (bC A B):=fun g x hx=>by
 cases e:A g with
 | some y=>rw[dM e] at hx;rw[← hx];exact ha g y e
 | none=>rw[gU e] at hx;exact hb g x hx
theorem dN {S S1 S':aD} {g:Nat} {x:AO} (h:S' g=some x):jD S S1 S' g=some x:=by simp[jD,h]
theorem qS {S S1 S':aD} {g:Nat} (h:S' g=none) (h1:S1 g=none):jD S S1 S' g=S g:=by simp[jD,h,h1]
theorem nested_spec (t:Ty):Fn PP 192 [TV t] E fun o S'=>∃ g,o=.ret (.fn (.func 225) [] [.ptr g 0 0 0 5])∧S'=aK E g (.row 0 5 0 [eT t]):=by
 refine aJ aI Tryz.func192 rfl (by rfl) (by rfl) ?_
 refine aF ?_;intros
 refine aG fun g hg=>?_
 refine aF ?_;intros
 exact⟨_,aB _,g,rfl,rfl⟩
variable {σ τ:Type} {gl:Nat} {ACC:σ→aD} {ACY:τ→aD} {stp:σ→Nat→Ty→σ ⊕ τ} {μ:σ→Nat} {M:Nat}
theorem seqT_spec (Y:Yld gl ACC ACY stp μ M) (hgl:∀ x,∃ st pd fn t ps asg bd d,ACC x gl=some (.loop st pd fn t ps asg bd d)) (t:Ty) (bT:Nat) (x:σ) (hM:μ x+t.cnt≤M) (hb:ACC x bT=none) :
  Fn PP 225 [.yld gl,.ptr bT 0 0 0 5] (bC (aK E bT (.row 0 5 0 [eT t])) (ACC x)) (SumR (fun x=>bC (aK E bT (.row 0 5 0 [eT t])) (ACC x)) (fun y=>bC (aK E bT (.row 0 5 0 [eT t])) (ACY y)) (.tup []) (.tup []) (jC stp x 1 t)):=by
 refine aJ aI Tryz.func225 rfl (by rfl) (by rfl) ?_
 have dj:Dj (aK E bT (.row 0 5 0 [eT t])) (ACC x):=fun g z hz=>by
  by_cases e:g=bT
  ·subst e;exact hb
  ·rw[aC e] at hz;cases hz
 obtain⟨st,pd,fn,tt,ps,asg,bd,d,hgl'⟩:=hgl x
 have hglu:bC (aK E bT (.row 0 5 0 [eT t])) (ACC x) gl=some (.loop st pd fn tt ps asg bd d):=cZ dj _ _ hgl'
 refine aF ?_;intros
 refine And.intro (show lH _ _ from dG hglu rfl) (aG fun b2 h2=>?_)
 refine aF ?_;intros
 refine aG fun b3 h3=>?_
 refine aF ?_;intros
 obtain⟨h2a,h2b⟩:=bL.1 h2
 have n23:b3≠b2:=aL (aA _ _ _) h3
 have h3':bC (aK E bT (.row 0 5 0 [eT t])) (ACC x) b3=none:=by rw[aC n23] at h3;exact h3
 obtain⟨h3a,h3b⟩:=bL.1 h3'
 rw[mC,mC]
 have dj':∀ p q,Dj (aK (aK (aK E bT (.row 0 5 0 [eT t])) b2 p) b3 q) (ACC x):=fun p q=>uB (uB dj h2b) h3b
 have hsle:∀ p q C,Dj (aK (aK (aK E bT (.row 0 5 0 [eT t])) b2 p) b3 q) C→bV (bC (aK (aK (aK E bT (.row 0 5 0 [eT t])) b2 p) b3 q) C) (bC (aK E bT (.row 0 5 0 [eT t])) C):=fun p q C dC g z hz=>by
  cases e:aK E bT (.row 0 5 0 [eT t]) g with
  | some y=>rw[dM e] at hz;rw[dM (aE (aE e h2a) (by rw[aC n23];exact h3a)),hz]
  | none=>
   rw[gU e] at hz
   exact cZ dC g z hz
 have kT:∀ p q,bC (aK (aK (aK E bT (.row 0 5 0 [eT t])) b2 p) b3 q) (ACC x) bT=some (.row 0 5 0 [eT t]):=fun p q=>dM (aE (aE (aA _ _ _) h2a) (by rw[aC n23];exact h3a))
 refine aS (kT _ _) rfl ?_
 refine aF ?_;intros
 have dq:=dj' (.row 0 [PV.yld gl].length 0 [[PV.yld gl]]) (.row 0 (aH GT 299).size 0 [[PV.fn (Fn.func 226) [] [PV.ptr b2 0 0 0 [PV.yld gl].length,PV.ptr b3 0 0 0 (aH GT 299).size]]])
 have hq:=hsle (.row 0 [PV.yld gl].length 0 [[PV.yld gl]]) (.row 0 (aH GT 299).size 0 [[PV.fn (Fn.func 226) [] [PV.ptr b2 0 0 0 [PV.yld gl].length,PV.ptr b3 0 0 0 (aH GT 299).size]]])
 generalize hCL:aK (aK (aK E bT (.row 0 5 0 [eT t])) b2 (.row 0 [PV.yld gl].length 0 [[PV.yld gl]])) b3 (.row 0 (aH GT 299).size 0 [[PV.fn (Fn.func 226) [] [PV.ptr b2 0 0 0 [PV.yld gl].length,PV.ptr b3 0 0 0 (aH GT 299).size]]])=CL at *
 have q2:CL b2=some (.row 0 1 0 [[.yld gl]]):=by rw[← hCL,aC (Ne.symm n23),aA];first | done | rfl
 have q3:CL b3=some (.row 0 1 0 [[eachV b2 b3]]):=by rw[← hCL,aA];first | done | rfl
 refine aV (each_spec Y CL b2 b3 q2 q3 t 1 x (by omega) hM dq) (aB _) ?_
 unfold SumR
 cases e:jC stp x 1 t with
 | inl x'=>
  rintro o S' ⟨rfl,rfl⟩ -
  unfold dR
  rw[cW]
  refine aF ?_;intros
  exact⟨_,hq _ (Dj_all Y dq x'),rfl,rfl⟩
 | inr y=>
  rintro o S' ⟨rfl,rfl⟩ -
  unfold dR
  rw[cW]
  refine aF ?_;intros
  exact⟨_,hq _ (Dj_ally Y dq y),rfl,rfl⟩
def gP (n:Nat) (d:Nat) (_:Ty):Nat ⊕ Nat:=if 100<d then .inr n else .inl (n+1)
theorem lim_fold {d:Nat} (hd:d≤100):∀ (l:List Ty),(∀ t∈l,∀ n,(d+t.deep≤100→jC gP n (d+1) t=.inl (n+t.cnt))∧(¬ d+t.deep≤100→∃ k,jC gP n (d+1) t=.inr k))→∀ n,
  (d+zA l≤100→lF (fun x t=>jC gP x (d+1) t) n l=.inl (n+nK l))∧(¬ d+zA l≤100→∃ k,lF (fun x t=>jC gP x (d+1) t) n l=.inr k)
 | [],_,n=>⟨fun _=>by simp[lF,nK],fun h=>absurd (by simp[zA];exact hd) h⟩
 | t::l,h,n=>by
  obtain⟨h1,h2⟩:=h t (by simp) n
  have ih:=lim_fold hd l (fun t ht=>h t (by simp[ht]))
  simp only[lF,zA,nK]
  by_cases e:d+t.deep≤100
  ·rw[h1 e]
   obtain⟨i1,i2⟩:=ih (n+t.cnt)
   constructor
   ·intro hh;exact (i1 (by omega)).trans (by congr 1;omega)
   ·intro hh;exact i2 (by omega)
  ·obtain⟨k,hk⟩:=h2 e
   rw[hk]
   exact⟨fun hh=>by omega,fun _=>⟨k,rfl⟩⟩
theorem lim_each:∀ (t:Ty) (d:Nat),d≤100→∀ n,(d+t.deep≤100→jC gP n (d+1) t=.inl (n+t.cnt))∧(¬ d+t.deep≤100→∃ k,jC gP n (d+1) t=.inr k):=by
 refine Ty.ind fun t ih=>?_
 intro d hd n
 rw[eachF_eq,if_neg (by omega),deep_eq,sR]
 unfold gP
 by_cases e:d=100
 ·subst e
  simp only[Nat.reduceAdd,Nat.lt_add_one,if_true]
  exact⟨fun h=>by omega,fun _=>⟨_,rfl⟩⟩
 ·have e2:¬ 100<d+1:=by omega
  simp only[if_neg e2]
  obtain⟨i1,i2⟩:=lim_fold (d:=d+1) (by omega) t.args (fun a ha n=>ih a ha (d+1) (by omega) n) (n+1)
  constructor
  ·intro h;exact (i1 (by omega)).trans (by congr 1;omega)
  ·intro h;exact i2 (by omega)
theorem lim_inl {t:Ty} {n:Nat} (h:jC gP 0 1 t=.inl n):t.deep≤100∧n=t.cnt:=by
 obtain⟨i1,i2⟩:=lim_each t 0 (by omega) 0
 by_cases e:t.deep≤100
 ·rw[i1 (by omega)] at h;cases h;exact⟨e,by omega⟩
 ·obtain⟨k,hk⟩:=i2 (by omega)
  rw[hk] at h;cases h
theorem lim_inr {t:Ty} {n:Nat} (h:jC gP 0 1 t=.inr n):100<t.deep:=by
 obtain⟨i1,i2⟩:=lim_each t 0 (by omega) 0
 by_cases e:t.deep≤100
 ·rw[i1 (by omega)] at h;cases h
 ·omega
abbrev VI (k:Int):AO:=.row 0 1 0 [[.int .i64 k]]
def A3 (g2 g3 gl:Nat) (e n:Int) (r:AO):aD:=aK (aK (aK E g2 (VI e)) g3 (VI n)) gl r
theorem rf_lim (t:Ty) {S:aD} {g2 g3 gT:Nat} (s2:S g2=some (VI 0)) (s3:S g3=some (VI 0)) (sT:S gT=some (.row 0 5 0 [eT t])) (n23:g3≠g2) (nT2:gT≠g2) (nT3:gT≠g3)
    {fn gd gl:Nat} {t0:List PV} {ps:Array Tmp} {asg bd:Code} {Q:bQ} {D:List DA} (hgd:S gd=none) (hgl:S gl=none) (hne:gd≠gl) (hps:ps.size=2)
    (hround:∀ l n d u,n<t.cnt→d≤101→T PP (some l) asg (yN PP l gl bd (SumR (fun n:Nat=>A3 g2 g3 gl 0 n (.loop .ready none fn t0 ps asg bd gd)) (fun n:Nat=>A3 g2 g3 gl 6 n (.loop .done (some .ret) fn t0 ps asg bd gd)) (.bool true) (.bool false) (gP n d u)))
      (zipT t0 ps.toList [.int .i64 (d:Nat),TV u]) (A3 g2 g3 gl 0 (n:Nat) (.loop .ready none fn t0 ps asg bd gd)) [])
    (hret:∀ n:Nat,jC gP 0 1 t=.inl n→Q .normal t0 (aK (aK (aK E g2 (VI 0)) g3 (VI n)) gd .dfr) (.mark gd::D))
    (hstop:∀ n:Nat,jC gP 0 1 t=.inr n→T PP none .ret Q t0 (aK (aK (aK E g2 (VI 6)) g3 (VI n)) gd .dfr) (.mark gd::D)) :
    ∃ S1 R,Fn PP 225 ([]++[.yld gl]++[.ptr gT 0 0 0 5]) S1 R∧bV (aK (aK S gd .dfr) gl (.loop .ready none fn t0 ps asg bd gd)) S1 ∧
          ∀ o S',R o S'→(∀ g,(S' g).isSome=true→(S1 g).isSome=true∨aK (aK S gd .dfr) gl (.loop .ready none fn t0 ps asg bd gd) g=none) →
            rfX PP Q t0 (jD (aK (aK S gd .dfr) gl (.loop .ready none fn t0 ps asg bd gd)) S1 S') gl gd D o:=by
  have d1:gd≠gT:=aL sT hgd
  have d2:gd≠g2:=aL s2 hgd
  have d3:gd≠g3:=aL s3 hgd
  have l1:gl≠gT:=aL sT hgl
  have l2:gl≠g2:=aL s2 hgl
  have l3:gl≠g3:=aL s3 hgl
  have g2A:∀ e n r,A3 g2 g3 gl e n r g2=some (VI e):=fun e n r=>by unfold A3;rw[aC (Ne.symm l2),aC (Ne.symm n23),aA]
  have g3A:∀ e n r,A3 g2 g3 gl e n r g3=some (VI n):=fun e n r=>by unfold A3;rw[aC (Ne.symm l3),aA]
  have glA:∀ e n r,A3 g2 g3 gl e n r gl=some r:=fun e n r=>by unfold A3;rw[aA]
  have noA:∀ e n r g,A3 g2 g3 gl e n r g=none↔g≠g2∧g≠g3∧g≠gl:=fun e n r g=>by
    constructor
    · intro h
      refine⟨?_,?_,?_⟩
      · rintro rfl;rw[g2A] at h;cases h
      · rintro rfl;rw[g3A] at h;cases h
      · rintro rfl;rw[glA] at h;cases h
    · rintro⟨a,b,c⟩
      unfold A3;rw[aC c,aC b,aC a];rfl
  have Y:Yld gl (fun n:Nat=>A3 g2 g3 gl 0 n (.loop .ready none fn t0 ps asg bd gd)) (fun n:Nat=>A3 g2 g3 gl 6 n (.loop .done (some .ret) fn t0 ps asg bd gd)) gP (fun n=>n) t.cnt:=
    { y:=fun x d u hd hx=>xJ (glA _ _ _) (by simp[hps]) fun l=>hround l x d u hx hd
      mu:=fun x d u x' h=>by
        unfold gP at h
        split at h
        · cases h
        · cases h;exact Nat.le_refl _
      dom:=fun x x' g h=>(noA _ _ _ g).2 ((noA _ _ _ g).1 h)
      domy:=fun x y g h=>(noA _ _ _ g).2 ((noA _ _ _ g).1 h) }
  have hT:A3 g2 g3 gl 0 ((0:Nat):Int) (.loop .ready none fn t0 ps asg bd gd) gT=none:=(noA _ _ _ _).2 ⟨nT2,nT3,Ne.symm l1⟩
  refine⟨_,_,seqT_spec Y (fun x=>⟨_,_,_,_,_,_,_,_,glA _ _ _⟩) t gT 0 (by simp) hT,?_,?_⟩
  · refine pT (fE (by rw[aC (Ne.symm l1),aC (Ne.symm d1)];exact sT)) (mV (mV (fE ?_) ?_) (aA _ _ _))
    · rw[aC (Ne.symm l2),aC (Ne.symm d2)];exact s2
    · rw[aC (Ne.symm l3),aC (Ne.symm d3)];exact s3
  · have rdT:∀ e n r g x,A3 g2 g3 gl e n r g=some x→g≠gT→bC (aK E gT (.row 0 5 0 [eT t])) (A3 g2 g3 gl e n r) g=some x:=fun e n r g x h hg=>by
      rw[gU (by rw[aC hg];rfl)];exact h
    have gdN:∀ e n r,bC (aK E gT (.row 0 5 0 [eT t])) (A3 g2 g3 gl e n r) gd=none:=fun e n r=>bL.2 ⟨by rw[aC d1];rfl,(noA _ _ _ _).2 ⟨d2,d3,hne⟩⟩
    have gdS:aK (aK S gd .dfr) gl (.loop .ready none fn t0 ps asg bd gd) gd=some .dfr:=by rw[aC hne,aA]
    unfold SumR
    cases e:jC gP 0 1 t with
    | inl n=>
      rintro o S' ⟨rfl,rfl⟩ -
      refine⟨_,_,_,_,_,_,_,_,_,dN (rdT _ _ _ _ _ (glA _ _ _) l1),by simp,?_,hret n e⟩
      refine mV (mV (fE ?_) ?_) ?_
      · rw[aC (Ne.symm l2)];exact dN (rdT _ _ _ _ _ (g2A _ _ _) (Ne.symm nT2))
      · rw[aC (Ne.symm l3)];exact dN (rdT _ _ _ _ _ (g3A _ _ _) (Ne.symm nT3))
      · rw[aC hne,qS (gdN _ _ _) (gdN _ _ _)];exact gdS
    | inr n=>
      rintro o S' ⟨rfl,rfl⟩ -
      refine⟨_,_,_,_,_,_,_,_,_,dN (rdT _ _ _ _ _ (glA _ _ _) l1),by simp,?_,hstop n e⟩
      refine mV (mV (fE ?_) ?_) ?_
      · rw[aC (Ne.symm l2)];exact dN (rdT _ _ _ _ _ (g2A _ _ _) (Ne.symm nT2))
      · rw[aC (Ne.symm l3)];exact dN (rdT _ _ _ _ _ (g3A _ _ _) (Ne.symm nT3))
      · rw[aC hne,qS (gdN _ _ _) (gdN _ _ _)];exact gdS
theorem limits_spec (t:Ty) (hM:t.cnt<4611686018427387904):FnP PP 164 [TV t] (.int .i64 (yW t)):=by
 refine tW aI Tryz.func164 rfl (by rfl) (by rfl) ?_
 refine aF ?_;intros
 refine aG fun g1 h1=>?_
 refine aF ?_;intros
 refine aG fun g2 h2=>?_
 refine aF ?_;intros
 refine aG fun g3 h3=>?_
 refine aF ?_;intros
 refine aV (nested_spec t) (aM _) ?_
 rintro o S' ⟨gT,rfl,rfl⟩ hdom
 unfold dR
 rw[xM,yL]
 have hT:aK (aK (aK E g1 (.row 0 5 0 [eT t])) g2 (.row 0 1 0 [[.int .i64 0]])) g3 (.row 0 1 0 [[.int .i64 0]]) gT=none:=by
  rcases hdom gT (by rw[aA];rfl) with h | h
  ·cases h
  ·exact h
 have n12:g2≠g1:=aL (aA _ _ _) h2
 have n13:g3≠g1:=aL (aE (aA _ _ _) h2) h3
 have n23:g3≠g2:=aL (aA _ _ _) h3
 have nT1:gT≠g1:=aL (aE (aE (aA _ _ _) h2) h3) hT
 have nT2:gT≠g2:=aL (aE (aA _ _ _) h3) hT
 have nT3:gT≠g3:=aL (aA _ _ _) hT
 refine aF ?_;intros
 refine aU (pV ?_)
 conv=>whnf
 intro fn gd gl hgd hgl hne
 have d1:gd≠gT:=aL (aA _ _ _) hgd
 have d3:gd≠g3:=aL (aE (aA _ _ _) hT) hgd
 have d2:gd≠g2:=aL (aE (aE (aA _ _ _) h3) hT) hgd
 have l1:gl≠gT:=aL (aA _ _ _) hgl
 have l3:gl≠g3:=aL (aE (aA _ _ _) hT) hgl
 have l2:gl≠g2:=aL (aE (aE (aA _ _ _) h3) hT) hgl
 have d3:gd≠g3:=aL (aE (aA _ _ _) hT) hgd
 have d2:gd≠g2:=aL (aE (aE (aA _ _ _) h3) hT) hgd
 refine rf_lim t (aE (aE (aA _ _ _) h3) hT) (aE (aA _ _ _) hT) (aA _ _ _) n23 nT2 nT3 hgd hgl hne rfl ?_ ?_ ?_
 ·intro l k d u hk hd
  have l3:gl≠g3:=aL (aE (aA _ _ _) hT) hgl
  have l2:gl≠g2:=aL (aE (aE (aA _ _ _) h3) hT) hgl
  generalize hrec:AO.loop .ready none fn _ _ _ _ gd=rec0
  generalize hrecd:AO.loop .done (some .ret) fn _ _ _ _ gd=recd
  have A2:∀ e n r,A3 g2 g3 gl e n r g2=some (VI e):=fun e n r=>by unfold A3;rw[aC (Ne.symm l2),aC (Ne.symm n23),aA]
  have A3':∀ e n r,A3 g2 g3 gl e n r g3=some (VI n):=fun e n r=>by unfold A3;rw[aC (Ne.symm l3),aA]
  have AL:∀ e n r,A3 g2 g3 gl e n r gl=some r:=fun e n r=>by unfold A3;rw[aA]
  refine aF ?_;intros
  refine⟨_,_,_,_,_,_,_,by rw[← hrec];exact AL _ _ _,?_⟩
  rw[show ∀ r r',aK (A3 g2 g3 gl 0 (k:Nat) r) gl r'=A3 g2 g3 gl 0 (k:Nat) r' from fun r r'=>by unfold A3;rw[aN]]
  generalize hrecb:AO.loop .busy none fn _ _ _ _ gd=recb
  have a2:=A2 0 (k:Nat) recb
  have a3:=A3' 0 (k:Nat) recb
  refine aF ?_;intros
  refine fC (fun hc=>?_) (fun hc=>?_)
  ·refine aF ?_;intros
   refine⟨_,_,_,_,_,_,_,_,A3 g2 g3 gl 6 (k:Nat) recd,by rw[aC l2,← hrecb];exact AL _ _ _,?_,?_⟩
   ·refine mV (mV (fE ?_) ?_) ?_
    ·rw[aC (Ne.symm l2),aA];rfl
    ·rw[aC (Ne.symm l3),aC n23];exact a3
    ·rw[aA,← hrecd]
   ·unfold gP;rw[if_pos (by omega)];exact⟨rfl,rfl⟩
  ·refine aF ?_;intros
   refine⟨_,_,_,_,_,_,_,_,A3 g2 g3 gl 0 ((k+1:Nat):Int) rec0,by rw[aC l3,← hrecb];exact AL _ _ _,?_,?_⟩
   ·refine mV (mV (fE ?_) ?_) ?_
    ·rw[aC (Ne.symm l2),aC (Ne.symm n23)];exact a2
    ·rw[aC (Ne.symm l3),aA];rfl
    ·rw[aA,← hrec]
   ·unfold gP;rw[if_neg (by omega)];exact⟨rfl,rfl⟩
 ·intro k hk
  obtain⟨hdeep,rfl⟩:=lim_inl hk
  have b3:aK (aK (aK E g2 (VI 0)) g3 (VI (t.cnt:Nat))) gd .dfr g3=some (VI (t.cnt:Nat)):=by rw[aC (Ne.symm d3)];exact aA _ _ _
  have b2:aK (aK (aK E g2 (VI 0)) g3 (VI (t.cnt:Nat))) gd .dfr g2=some (VI 0):=by rw[aC (Ne.symm d2),aC (Ne.symm n23)];exact aA _ _ _
  have bd:∀ v,aK (aK (aK (aK E g2 (VI 0)) g3 (VI (t.cnt:Nat))) gd .dfr) g2 v gd=some .dfr:=fun v=>by rw[aC d2,aA]
  show T PP none _ _ _ _ _
  refine aF ?_;intros
  refine fC (fun hc=>?_) (fun hc=>?_)
  ·refine aF ?_;intros
   refine And.intro (by unfold pG;exact bd _) ?_
   refine aF ?_;intros
   refine aS (by unfold iZ;rw[if_neg (Ne.symm d2),aA]) rfl ?_
   refine aF ?_;intros
   refine⟨E,aM _,?_,rfl⟩
   have:yW t=2:=by unfold yW;rw[if_neg (by omega),if_pos (by omega)]
   rw[this]
  ·refine aF ?_;intros
   refine And.intro (by unfold pG;exact bd _) ?_
   refine aF ?_;intros
   refine aS (by unfold iZ;rw[if_neg (Ne.symm d2),aA]) rfl ?_
   refine aF ?_;intros
   refine⟨E,aM _,?_,rfl⟩
   have:yW t=0:=by unfold yW;rw[if_neg (by omega),if_neg (by omega)]
   rw[this]
 ·intro k hk
  have hdeep:=lim_inr hk
  have b2:aK (aK (aK E g2 (VI 6)) g3 (VI (k:Nat))) gd .dfr g2=some (VI 6):=by rw[aC (Ne.symm d2),aC (Ne.symm n23)];exact aA _ _ _
  refine aF ?_;intros
  refine And.intro (by unfold pG;exact aA _ _ _) ?_
  refine aF ?_;intros
  refine aS (by unfold iZ;rw[if_neg (Ne.symm d2)];exact b2) rfl ?_
  refine aF ?_;intros
  refine⟨E,aM _,?_,rfl⟩
  have:yW t=6:=by unfold yW;rw[if_pos (by omega)]
  rw[this]
end
section
attribute [local irreducible] T TL
set_option maxRecDepth 10000
set_option maxHeartbeats 4000000
variable {l:List ClassI} {n:pY} {B:aD}
theorem tR (h0:0<l.length) (t:Ty) (hM:t.cnt<4611686018427387904) (S:aD) (hS:zZ l n S):Fn PP 130 [hp n,TV t] S fun o S'=>o=.ret (.int .i64 (iO l t))∧S'=S:=by
 refine aJ aI Tryz.func130 rfl (by rfl) (by rfl) ?_
 haveI:cH 164 [TV t] (.int .i64 (yW t)):=⟨limits_spec t hM⟩
 refine aF ?_;intros
 refine aG fun b3 h3=>?_
 refine aF ?_;intros
 refine ifN (fun hc=>?_) (fun hc=>?_)
 ·refine aF ?_;intros
  refine⟨_,aR h3,?_,rfl⟩
  unfold iO;rw[if_pos hc]
 ·refine aF ?_;intros
  refine bN (formed_spec h0 t _ (hS.upd h3)) (aB _) ?_
  refine aF ?_;intros
  refine And.intro (fun hf=>?_) (fun hf=>?_)
  ·refine aF ?_;intros
   refine⟨_,aR h3,?_,rfl⟩
   have hf:zC (lI l) t=false:=by simpa using hf
   unfold iO;rw[if_neg (by omega),hf];rfl
  ·refine aF ?_;intros
   refine⟨_,aR h3,?_,rfl⟩
   have hf:zC (lI l) t=true:=by simpa using hf
   unfold iO;rw[if_neg (by omega),hf];rfl
theorem wK {l:List ClassI} {S:aD} {kr kp:PV→aD→Prop} (h1:lookB l=false→kr .nilp S) (h2:lookB l=true→∀ n:pY,n.Ok→Off n S→kr (hp n) (bC (HK l n (Memo.nil l)) S)):kJ PP 128 [CS l] S kr kp:=by
 refine aV (look_spec l) (aM _) ?_
 rintro o S' (⟨hb,rfl,rfl⟩ | ⟨hb,n,k,rfl,rfl⟩) hdom
 ·unfold dR
  have:jD S E E=S:=by funext g;simp[jD,E]
  rw[this]
  exact h1 hb
 ·unfold dR
  rw[xM,nH]
  have off:∀ g x,HK l n (Memo.nil l) g=some x→S g=none:=fun g x hx=>by
   rcases hdom g (by rw[nH,hx];rfl) with h | h
   ·cases h
   ·exact h
  refine h2 hb n k ⟨?_,?_,?_,?_⟩
  ·have:=HK_a (l:=l) (B:=E) k (s:=Memo.nil l);rw[nH] at this;exact off _ _ this
  ·have:=HK_c (l:=l) (B:=E) k (s:=Memo.nil l);rw[nH] at this;exact off _ _ this
  ·have:=HK_v (l:=l) (B:=E) k (s:=Memo.nil l);rw[nH] at this;exact off _ _ this
  ·have:=sE (l:=l) (n:=n) (B:=E) (s:=Memo.nil l);rw[nH] at this;exact off _ _ this
theorem checkT_spec (l:List ClassI):FnP PP 84 [CS l] (.int .i64 (if lookB l then 0 else 80)):=by
 refine aJ aI Tryz.func84 rfl (by rfl) (by rfl) ?_
 refine aF ?_;intros
 refine wK (fun hb=>?_) (fun hb n k off=>?_)
 ·refine aF ?_;intros
  exact⟨E,aM _,by rw[hb];rfl,rfl⟩
 ·have kh:=sE (l:=l) (n:=n) (B:=E) (s:=Memo.nil l)
  refine aF ?_;intros
  exact⟨E,aM _,by rw[hb];rfl,rfl⟩
theorem validT_spec (l:List ClassI) (t:Ty) (hM:t.cnt<4611686018427387904):FnP PP 87 [CS l,TV t] (.int .i64 (if lookB l then iO l t else 80)):=by
 refine aJ aI Tryz.func87 rfl (by rfl) (by rfl) ?_
 refine aF ?_;intros
 refine aG fun b3 h3=>?_
 refine aF ?_;intros
 refine wK (fun hb=>?_) (fun hb n k off=>?_)
 ·refine aF ?_;intros
  exact⟨E,aM _,by rw[hb];rfl,rfl⟩
 ·have kh:=sE (l:=l) (n:=n) (B:=aK E b3 (.row 0 (eT t).length 0 [eT t])) (s:=Memo.nil l)
  have k3:=kF off (s:=Memo.nil l) (aA E b3 (.row 0 (eT t).length 0 [eT t]))
  have h0:0<l.length:=by have:=(pR hb).lo;omega
  refine aF ?_;intros
  refine bN (tR h0 t hM _ (zZ.of k)) (aB _) ?_
  refine aF ?_;intros
  exact⟨E,aM _,by rw[hb];rfl,rfl⟩
def bothO (l:List ClassI) (a b:Ty) (o:iY) (S':aD):Prop:=
 (vI l a b=false∧o=.ret .nilp∧S'=E)∨(vI l a b=true∧∃ n:pY,n.Ok∧o=.ret (hp n)∧S'=bC (HK l n (Memo.nil l)) E)
theorem both_spec (l:List ClassI) (a b:Ty) (ha:a.cnt<4611686018427387904) (hb:b.cnt<4611686018427387904):Fn PP 143 [CS l,TV a,TV b] E (bothO l a b):=by
 refine aJ aI Tryz.func143 rfl (by rfl) (by rfl) ?_
 refine aF ?_;intros
 refine aG fun b1 h1=>?_
 refine aF ?_;intros
 refine aG fun b2 h2=>?_
 refine aF ?_;intros
 refine wK (fun hl=>?_) (fun hl n k off=>?_)
 ·refine aF ?_;intros
  exact⟨E,aM _,.inl ⟨by unfold vI;rw[hl];rfl,rfl,rfl⟩⟩
 ·have kh:=sE (l:=l) (n:=n) (B:=aK (aK E b1 (.row 0 (eT a).length 0 [eT a])) b2 (.row 0 (eT b).length 0 [eT b])) (s:=Memo.nil l)
  have k1:=kF off (s:=Memo.nil l) (aE (aA E b1 (.row 0 (eT a).length 0 [eT a])) h2)
  have k2:=kF off (s:=Memo.nil l) (aA (aK E b1 (.row 0 (eT a).length 0 [eT a])) b2 (.row 0 (eT b).length 0 [eT b]))
  have h0:0<l.length:=by have:=(pR hl).lo;omega
  have hsl:bV (bC (HK l n (Memo.nil l)) (aK (aK E b1 (.row 0 (eT a).length 0 [eT a])) b2 (.row 0 (eT b).length 0 [eT b]))) (bC (HK l n (Memo.nil l)) E):=dH (aM _)
  refine aF ?_;intros
  refine bN (tR h0 a ha _ (zZ.of k)) (aB _) ?_
  refine aF ?_;intros
  refine And.intro (fun h=>?_) (fun h=>?_)
  ·have h:iO l a=0:=by simpa using h
   refine aF ?_;intros
   refine bN (tR h0 b hb _ (zZ.of k)) (aB _) ?_
   refine aF ?_;intros
   refine ifN (fun hq=>?_) (fun hq=>?_)
   ·refine aF ?_;intros
    exact⟨E,aM _,.inl ⟨by unfold vI;simp[hl,h,hq],rfl,rfl⟩⟩
   ·refine aF ?_;intros
    exact⟨_,hsl,.inr ⟨by unfold vI;simp[hl,h,hq],n,k,rfl,rfl⟩⟩
  ·have h:¬ iO l a=0:=by simpa using h
   refine aF ?_;intros
   exact⟨E,aM _,.inl ⟨by unfold vI;simp[hl,h],rfl,rfl⟩⟩
end
section
attribute [local irreducible] T TL zU
set_option maxRecDepth 10000
set_option maxHeartbeats 4000000
theorem class_spec (n:ByteArray):FnP PP 202 [.str n] (TV (classT n)):=by
 refine cL (aJ aI Tryz.func202 rfl (by rfl) (by rfl) ?_)
 refine aF ?_;intros
 refine aG fun g hg=>?_
 refine aF ?_;intros
 refine⟨E,aM _,aO.nilv (nilA (qs:=eT (classT n)) ⟨.same _,.same _,.same _,.same _,?_,trivial⟩) (aO.same ⟨rfl,rfl⟩)⟩
 show NilV .nils (.list 64 (tA []))
 rw[nX];exact .nils 64
theorem span_spec (a b:Int):FnP PP 205 [.int .i64 a,.int .i64 b] (TV (cC a b)):=by
 refine cL (aJ aI Tryz.func205 rfl (by rfl) (by rfl) ?_)
 refine aF ?_;intros
 refine aG fun g hg=>?_
 refine aF ?_;intros
 refine⟨E,aM _,aO.nilv (nilA (qs:=eT (cC a b)) ⟨.same _,.same _,.same _,.same _,?_,trivial⟩) (aO.same ⟨rfl,rfl⟩)⟩
 show NilV .nils (.list 64 (tA []))
 rw[nX];exact .nils 64
theorem truth_spec (a:Int):FnP PP 206 [.int .i64 a] (TV (vP a)):=by
 refine cL (aJ aI Tryz.func206 rfl (by rfl) (by rfl) ?_)
 refine aF ?_;intros
 refine aG fun g hg=>?_
 refine aF ?_;intros
 refine⟨E,aM _,aO.nilv (nilA (qs:=eT (vP a)) ⟨.same _,.same _,.same _,.same _,?_,trivial⟩) (aO.same ⟨rfl,rfl⟩)⟩
 show NilV .nils (.list 64 (tA []))
 rw[nX];exact .nils 64
instance (n:ByteArray):cH 202 [.str n] (TV (classT n)):=⟨class_spec n⟩
instance (a b:Int):cH 205 [.int .i64 a,.int .i64 b] (TV (cC a b)):=⟨span_spec a b⟩
instance (a:Int):cH 206 [.int .i64 a] (TV (vP a)):=⟨truth_spec a⟩
structure PNm where
 gp:Nat
 gi:Nat
 gm:Nat
 gk:Nat
structure PNm.Ok (q:PNm):Prop where
 im:q.gm≠q.gi
 ik:q.gk≠q.gi
 ip:q.gp≠q.gi
 cm:q.gk≠q.gm
 mp:q.gp≠q.gm
 kp:q.gp≠q.gk
abbrev RT (l:List Ty):AO:=.row l.length 5 64 (l.map eT)
abbrev bU (g:Nat) (l:List Ty):PV:=.row g l.length 0 l.length 5
abbrev partsC (h:PV) (q:PNm) (p:cI):List PV:=[h,bU q.gi p.ints,bU q.gm p.metas,bU q.gk p.kinds,.bool p.t0,.bool p.t1]
def PK (h:PV) (q:PNm) (p:cI):aD:=aK (aK (aK (aK E q.gi (RT p.ints)) q.gm (RT p.metas)) q.gk (RT p.kinds)) q.gp (.row 0 6 0 [partsC h q p])
variable {h:PV} {q:PNm} {p:cI} {n:pY}
theorem PK_p:PK h q p q.gp=some (.row 0 6 0 [partsC h q p]):=aA _ _ _
theorem PK_k (o:q.Ok):PK h q p q.gk=some (RT p.kinds):=by unfold PK;rw[aC (Ne.symm o.kp),aA]
theorem PK_m (o:q.Ok):PK h q p q.gm=some (RT p.metas):=by unfold PK;rw[aC (Ne.symm o.mp),aC (Ne.symm o.cm),aA]
theorem PK_i (o:q.Ok):PK h q p q.gi=some (RT p.ints):=by unfold PK;rw[aC (Ne.symm o.ip),aC (Ne.symm o.ik),aC (Ne.symm o.im),aA]
theorem PK_none {g:Nat}:PK h q p g=none↔g≠q.gi∧g≠q.gm∧g≠q.gk∧g≠q.gp:=by
 unfold PK
 constructor
 ·intro hh
  have h4:g≠q.gp:=by rintro rfl;rw[aA] at hh;cases hh
  rw[aC h4] at hh
  have h3:g≠q.gk:=by rintro rfl;rw[aA] at hh;cases hh
  rw[aC h3] at hh
  have h2:g≠q.gm:=by rintro rfl;rw[aA] at hh;cases hh
  rw[aC h2] at hh
  have h1:g≠q.gi:=by rintro rfl;rw[aA] at hh;cases hh
  exact⟨h1,h2,h3,h4⟩
 ·rintro⟨h1,h2,h3,h4⟩
  rw[aC h4,aC h3,aC h2,aC h1];rfl
structure lT (h:PV) (q:PNm) (p:cI) (S:aD):Prop where
 r:S q.gp=some (.row 0 6 0 [partsC h q p])
 i:S q.gi=some (RT p.ints)
 m:S q.gm=some (RT p.metas)
 k:S q.gk=some (RT p.kinds)
theorem lT.sle {S:aD} (x:lT h q p S):bV S (PK h q p):=fun g y hy=>by
 unfold PK at hy
 by_cases e4:g=q.gp
 ·subst e4;rw[aA] at hy;rw[← hy];exact x.r
 rw[aC e4] at hy
 by_cases e3:g=q.gk
 ·subst e3;rw[aA] at hy;rw[← hy];exact x.k
 rw[aC e3] at hy
 by_cases e2:g=q.gm
 ·subst e2;rw[aA] at hy;rw[← hy];exact x.m
 rw[aC e2] at hy
 by_cases e1:g=q.gi
 ·subst e1;rw[aA] at hy;rw[← hy];exact x.i
 rw[aC e1] at hy;cases hy
theorem lT.upd {S:aD} (x:lT h q p S) {g:Nat} {y:AO} (hg:S g=none):lT h q p (L.aK S g y):=⟨aE x.r hg,aE x.i hg,aE x.m hg,aE x.k hg⟩
theorem lT.of (o:q.Ok):lT h q p (PK h q p):=⟨PK_p,PK_i o,PK_m o,PK_k o⟩
theorem jY {A B:aD} {g:Nat} {x:AO} (h:bV A B):bV (L.aK A g x) (L.aK B g x):=fun k y hy=>by
 by_cases e:k=g
 ·subst e;rw[aA] at hy ⊢;exact hy
 ·rw[aC e] at hy ⊢;exact h k y hy
theorem kO {l:List Ty} {z:List PV} {c1 c2 c3 c4 c5:PV} {S:aD} {g ver e:Nat} {k:aD→Prop} (hz:z.length=5) (h:S g=some (.row ver 5 e (l.map eT++[z]))) (hk:k (L.aK S g (.row ver 5 e (l.map eT++[[c1,c2,c3,c4,c5]])))) :
  stW S g ver (0+l.length) 0 5 [c1,c2,c3,c4,c5] k:=by
 refine eR (i:=0+l.length) (old:=z) h (by simp) (by simp;omega) fun new hn=>?_
 have e1:[c1,c2,c3,c4,c5]=new:=by
  match z,hz with
  | [z1,z2,z3,z4,z5],_=>simpa[lE,zS] using hn
 subst e1
 rw[Nat.zero_add,show (l.map eT++[z]).set l.length [c1,c2,c3,c4,c5]=l.map eT++[[c1,c2,c3,c4,c5]] by rw[List.set_append];simp]
 exact hk
theorem addInt_spec (o:q.Ok) (t:Ty) (hn:p.ints.length≤100000) (S:aD) (hS:lT (hp n) q p S):Fn PP 229 [.ptr q.gp 0 0 0 6,TV t] S fun o' S'=>o'=.ret (.tup [])∧S'=L.aK (L.aK S q.gi (RT (p.ints++[t]))) q.gp (.row 0 6 0 [partsC (hp n) q { p with ints:=p.ints++[t] }]):=by
 refine aJ aI Tryz.func229 rfl (by rfl) (by rfl) ?_
 refine aF ?_;intros
 refine aG fun b3 h3=>?_
 have x:=hS.upd (y:=.row 0 (eT t).length 0 [eT t]) h3
 have k3:L.aK S b3 (.row 0 (eT t).length 0 [eT t]) b3=some (.row 0 5 0 [eT t]):=aA _ _ _
 have s3:bV (L.aK S b3 (.row 0 (eT t).length 0 [eT t])) S:=aR h3
 generalize L.aK S b3 (.row 0 (eT t).length 0 [eT t])=S1 at *
 have kp:=x.r
 have ki:=x.i
 refine aF ?_;intros
 let R0:AO:=.row (p.ints.length+1) 5 64 (p.ints.map eT++[[.int .i64 0,.str ⟨#[]⟩,.int .i64 0,.int .i64 0,.nils]])
 let R1:AO:=.row (p.ints.length+1) 5 64 (p.ints.map eT++[eT (t)])
 let C1:AO:=.row 0 6 0 [[hp n,.row q.gi (p.ints.length+1) 0 (p.ints.length+1) 5,bU q.gm p.metas,bU q.gk p.kinds,.bool p.t0,.bool p.t1]]
 have hz0:∀ X,L.aK S1 q.gi X q.gi=some X:=fun X=>aA _ _ _
 have hp1:L.aK S1 q.gi R0 q.gp=some (.row 0 6 0 [partsC (hp n) q p]):=by rw[aC o.ip];exact x.r
 have hp2:L.aK S1 q.gi R1 q.gp=some (.row 0 6 0 [partsC (hp n) q p]):=by rw[aC o.ip];exact x.r
 have hz1:L.aK S1 q.gi R0 q.gi=some R0:=aA _ _ _
 have hz3:L.aK (L.aK S1 q.gi R0) q.gp C1 q.gi=some R0:=by rw[aC (Ne.symm o.ip),aA]
 refine aU (oJ aI (by rfl) 7 (by kernel_rfl) (by kernel_rfl) (by kernel_rfl) (by kernel_rfl) (by kernel_rfl) ?_)
 refine aF ?_;intros
 unfold zU
 refine⟨.ptr q.gi (p.ints.length+1) (0+p.ints.length) 0 5,.ptr q.gp 0 0 0 6,.ptr q.gp 0 0 (0+1) 6,L.aK S1 q.gi R1,L.aK (L.aK S1 q.gi R0) q.gp C1,L.aK (L.aK S1 q.gi R1) q.gp C1,⟨?_,?_,?_,?_,?_,?_,?_,?_,?_,?_,?_⟩⟩
 ·refine sI ?_;intros
  exact⟨p.ints.length,rfl,by simp,rfl⟩
 ·refine sI ?_;intros
  exact⟨p.ints.length,rfl,by simp,rfl⟩
 ·refine sI ?_;intros
  refine kO rfl hz1 ?_
  rw[aN]
 ·refine sI ?_;intros
  refine kO rfl hz3 ?_
  rw[cK o.ip,aN]
 ·exact goY
 ·exact goY
 ·exact goY
 ·exact goY
 ·refine sI ?_;intros
  exact gG hp1 (Nat.le_of_ble_eq_true rfl) rfl
 ·refine sI ?_;intros
  exact gG hp2 (Nat.le_of_ble_eq_true rfl) rfl
 have hRF:R1=RT (p.ints++[t]):=by simp only[R1,RT,List.map_append,List.length_append];rfl
 have hCF:C1=.row 0 6 0 [partsC (hp n) q { p with ints:=p.ints++[t] }]:=by simp only[C1,partsC,bU,List.length_append];rfl
 rw[hRF,hCF]
 refine aF ?_;intros
 exact⟨_,jY (jY s3),rfl,rfl⟩
theorem addBool_spec (o:q.Ok) (t:Ty) (hlo:t.lo=0∨t.lo=1) (S:aD) (hS:lT (hp n) q p S):Fn PP 230 [.ptr q.gp 0 0 0 6,TV t] S fun o' S'=>o'=.ret (.tup [])∧S'=L.aK S q.gp (.row 0 6 0 [partsC (hp n) q (if t.lo=0 then { p with t0:=true } else { p with t1:=true })]):=by
 refine aJ aI Tryz.func230 rfl (by rfl) (by rfl) ?_
 refine aF ?_;intros
 refine aG fun b3 h3=>?_
 have x:=hS.upd (y:=.row 0 (eT t).length 0 [eT t]) h3
 have k3:L.aK S b3 (.row 0 (eT t).length 0 [eT t]) b3=some (.row 0 5 0 [eT t]):=aA _ _ _
 have s3:bV (L.aK S b3 (.row 0 (eT t).length 0 [eT t])) S:=aR h3
 generalize L.aK S b3 (.row 0 (eT t).length 0 [eT t])=S1 at *
 have kp:=x.r
 refine aF ?_;intros
 refine aU (aT aI (by rfl) 6 (by decide) ?_)
 refine aF ?_;intros
 rcases hlo with hl | hl
 ·rw[hl]
  refine aF ?_;intros
  exact⟨_,jY s3,rfl,by rw[if_pos rfl]⟩
 ·rw[hl]
  refine aF ?_;intros
  exact⟨_,jY s3,rfl,by rw[if_neg (by decide)]⟩
end
section
attribute [local irreducible] T TL zU
set_option maxRecDepth 10000
set_option maxHeartbeats 4000000
variable {l:List ClassI} {n:pY} {q:PNm} {p:cI}
def tY (n:pY) (q:PNm):Prop:=∀ g,(g=q.gi∨g=q.gm∨g=q.gk∨g=q.gp)→g≠n.ga∧g≠n.gc∧g≠n.gv∧g≠n.gh
theorem Off_PK (b:tY n q):Off n (PK (hp n) q p):=by
 have k:∀ g,(g=n.ga∨g=n.gc∨g=n.gv∨g=n.gh)→PK (hp n) q p g=none:=fun g hg=>PK_none.2 (by
  refine⟨?_,?_,?_,?_⟩ <;> rintro rfl
  ·have:=b q.gi (.inl rfl);rcases hg with h | h | h | h <;> simp_all
  ·have:=b q.gm (.inr (.inl rfl));rcases hg with h | h | h | h <;> simp_all
  ·have:=b q.gk (.inr (.inr (.inl rfl)));rcases hg with h | h | h | h <;> simp_all
  ·have:=b q.gp (.inr (.inr (.inr rfl)));rcases hg with h | h | h | h <;> simp_all)
 exact⟨k _ (.inl rfl),k _ (.inr (.inl rfl)),k _ (.inr (.inr (.inl rfl))),k _ (.inr (.inr (.inr rfl)))⟩
abbrev HP (l:List ClassI) (n:pY) (q:PNm) (s:Memo l) (p:cI):aD:=bC (HK l n s) (PK (hp n) q p)
theorem lT.uni {B:aD} (o:Off n B) (x:lT (hp n) q p B) {s:Memo l}:lT (hp n) q p (L.bC (HK l n s) B):=⟨kF o x.r,kF o x.i,kF o x.m,kF o x.k⟩
theorem qG (b:tY n q) {s:Memo l} {g:Nat} {x:AO} (hg:g=q.gi∨g=q.gm∨g=q.gk∨g=q.gp) {B:aD}:L.aK (L.bC (HK l n s) B) g x=L.bC (HK l n s) (L.aK B g x):=
 cF (cM.2 (b g hg))
theorem upd_self {S:aD} {g:Nat} {x:AO} (h:S g=some x):L.aK S g x=S:=by
 funext k
 by_cases e:k=g
 ·subst e;rw[aA,h]
 ·rw[aC e]
theorem PK_ints (o:q.Ok) {h:PV} (l:List Ty):L.aK (L.aK (PK h q p) q.gi (RT l)) q.gp (.row 0 6 0 [partsC h q { p with ints:=l }])=PK h q { p with ints:=l }:=by
 unfold PK
 rw[cK (Ne.symm o.ip ∘ Eq.symm |> fun _=>o.ip),cK o.ik,cK o.im,aN,aN]
theorem PK_metas (o:q.Ok) {h:PV} (l:List Ty):L.aK (L.aK (PK h q p) q.gm (RT l)) q.gp (.row 0 6 0 [partsC h q { p with metas:=l }])=PK h q { p with metas:=l }:=by
 unfold PK
 rw[cK o.mp,cK o.cm,aN,aN]
theorem PK_kinds (o:q.Ok) {h:PV} (l:List Ty):L.aK (L.aK (PK h q p) q.gk (RT l)) q.gp (.row 0 6 0 [partsC h q { p with kinds:=l }])=PK h q { p with kinds:=l }:=by
 unfold PK
 rw[cK o.kp,aN,aN]
theorem PK_truths {h:PV} (p':cI) (hi:p'.ints=p.ints) (hm:p'.metas=p.metas) (hk:p'.kinds=p.kinds):L.aK (PK h q p) q.gp (.row 0 6 0 [partsC h q p'])=PK h q p':=by
 unfold PK
 rw[aN,hi,hm,hk]
theorem sle_ints (o:q.Ok) {h:PV} {B:aD} (sB:bV B (PK h q p)) {l:List Ty}:bV (L.aK (L.aK B q.gi (RT l)) q.gp (.row 0 6 0 [partsC h q { p with ints:=l }])) (PK h q { p with ints:=l }):=by
 rw[← PK_ints o];exact jY (jY sB)
theorem sle_metas (o:q.Ok) {h:PV} {B:aD} (sB:bV B (PK h q p)) {l:List Ty}:bV (L.aK (L.aK B q.gm (RT l)) q.gp (.row 0 6 0 [partsC h q { p with metas:=l }])) (PK h q { p with metas:=l }):=by
 rw[← PK_metas o];exact jY (jY sB)
theorem sle_kinds (o:q.Ok) {h:PV} {B:aD} (sB:bV B (PK h q p)) {l:List Ty}:bV (L.aK (L.aK B q.gk (RT l)) q.gp (.row 0 6 0 [partsC h q { p with kinds:=l }])) (PK h q { p with kinds:=l }):=by
 rw[← PK_kinds o];exact jY (jY sB)
theorem sle_truths {h:PV} {B:aD} (sB:bV B (PK h q p)) (p':cI) (hi:p'.ints=p.ints) (hm:p'.metas=p.metas) (hk:p'.kinds=p.kinds):bV (L.aK B q.gp (.row 0 6 0 [partsC h q p'])) (PK h q p'):=by
 rw[← PK_truths p' hi hm hk];exact jY sB
def few (p:cI):Prop:=p.ints.length≤100000∧p.metas.length≤100000∧p.kinds.length≤100000
def AddF (l:List ClassI) (n:pY) (q:PNm) (f:Nat) (t:Ty) (p p':cI):Prop:=
 ∀ s:Memo l,Fn PP f [.ptr q.gp 0 0 0 6,TV t] (HP l n q s p) fun o S'=>∃ s':Memo l,o=.ret (.tup [])∧S'=HP l n q s' p'
theorem addInt_A (o:q.Ok) (b:tY n q) (t:Ty) (hf:few p):AddF l n q 229 t p { p with ints:=p.ints++[t] }:=fun s=>by
 refine fO (addInt_spec o t hf.1 _ (lT.uni (Off_PK b) (lT.of o))) ?_
 rintro o' S' ⟨rfl,rfl⟩
 exact⟨s,rfl,by rw[qG b (.inl rfl),qG b (.inr (.inr (.inr rfl))),PK_ints o]⟩
theorem addBool_A (o:q.Ok) (b:tY n q) (t:Ty) (hlo:t.lo=0∨t.lo=1):AddF l n q 230 t p (if t.lo=0 then { p with t0:=true } else { p with t1:=true }):=fun s=>by
 refine fO (addBool_spec o t hlo _ (lT.uni (Off_PK b) (lT.of o))) ?_
 rintro o' S' ⟨rfl,rfl⟩
 exact⟨s,rfl,by rw[qG b (.inr (.inr (.inr rfl))),PK_truths _ (by split <;> rfl) (by split <;> rfl) (by split <;> rfl)]⟩
theorem addClass_A (hh:Hier l) (k:n.Ok) (o:q.Ok) (b:tY n q) (t:Ty) (hf:few p):AddF l n q 228 t p (dY (voidC l) p t):=fun s=>by
 refine aJ aI Tryz.func228 rfl (by rfl) (by rfl) ?_
 obtain⟨hn1,hn2,hn3⟩:=hf
 have o0:=Off_PK (p:=p) b
 refine aF ?_;intros
 refine jO o0 fun b3 h3 o1 _=>?_
 have xB:lT (hp n) q p (L.aK (PK (hp n) q p) b3 (.row 0 (eT t).length 0 [eT t])):=(lT.of o).upd h3
 have kB:L.aK (PK (hp n) q p) b3 (.row 0 (eT t).length 0 [eT t]) b3=some (.row 0 5 0 [eT t]):=aA _ _ _
 have sB:bV (L.aK (PK (hp n) q p) b3 (.row 0 (eT t).length 0 [eT t])) (PK (hp n) q p):=aR h3
 generalize L.aK (PK (hp n) q p) b3 (.row 0 (eT t).length 0 [eT t])=B1 at *
 have x:=lT.uni o1 xB (s:=s)
 have k3:=kF o1 (s:=s) kB
 have kp:=x.r
 have ki:=x.i
 refine aF ?_;intros
 by_cases e1:t.name=cS
 ·refine fC (fun _=>?_) (fun h=>absurd e1 h)
  have hres:dY (voidC l) p t={ p with ints:=p.ints++[cC tZ iB] }:=by unfold dY;rw[if_pos e1]
  rw[hres]
  refine aF ?_;intros
  let R0:AO:=.row (p.ints.length+1) 5 64 (p.ints.map eT++[[.int .i64 0,.str ⟨#[]⟩,.int .i64 0,.int .i64 0,.nils]])
  let R1:AO:=.row (p.ints.length+1) 5 64 (p.ints.map eT++[eT (cC tZ iB)])
  let C1:AO:=.row 0 6 0 [[hp n,.row q.gi (p.ints.length+1) 0 (p.ints.length+1) 5,bU q.gm p.metas,bU q.gk p.kinds,.bool p.t0,.bool p.t1]]
  have hz0:∀ X,L.aK (L.bC (HK l n s) B1) q.gi X q.gi=some X:=fun X=>aA _ _ _
  have hp1:L.aK (L.bC (HK l n s) B1) q.gi R0 q.gp=some (.row 0 6 0 [partsC (hp n) q p]):=by rw[aC o.ip];exact x.r
  have hp2:L.aK (L.bC (HK l n s) B1) q.gi R1 q.gp=some (.row 0 6 0 [partsC (hp n) q p]):=by rw[aC o.ip];exact x.r
  have hz1:L.aK (L.bC (HK l n s) B1) q.gi R0 q.gi=some R0:=aA _ _ _
  have hz3:L.aK (L.aK (L.bC (HK l n s) B1) q.gi R0) q.gp C1 q.gi=some R0:=by rw[aC (Ne.symm o.ip),aA]
  refine aU (oJ aI (by rfl) 7 (by kernel_rfl) (by kernel_rfl) (by kernel_rfl) (by kernel_rfl) (by kernel_rfl) ?_)
  refine aF ?_;intros
  unfold zU
  refine⟨.ptr q.gi (p.ints.length+1) (0+p.ints.length) 0 5,.ptr q.gp 0 0 0 6,.ptr q.gp 0 0 (0+1) 6,L.aK (L.bC (HK l n s) B1) q.gi R1,L.aK (L.aK (L.bC (HK l n s) B1) q.gi R0) q.gp C1,L.aK (L.aK (L.bC (HK l n s) B1) q.gi R1) q.gp C1,⟨?_,?_,?_,?_,?_,?_,?_,?_,?_,?_,?_⟩⟩
  ·refine sI ?_;intros
   exact⟨p.ints.length,rfl,by simp,rfl⟩
  ·refine sI ?_;intros
   exact⟨p.ints.length,rfl,by simp,rfl⟩
  ·refine sI ?_;intros
   refine kO rfl hz1 ?_
   rw[aN]
  ·refine sI ?_;intros
   refine kO rfl hz3 ?_
   rw[cK o.ip,aN]
  ·exact goY
  ·exact goY
  ·exact goY
  ·exact goY
  ·refine sI ?_;intros
   exact gG hp1 (Nat.le_of_ble_eq_true rfl) rfl
  ·refine sI ?_;intros
   exact gG hp2 (Nat.le_of_ble_eq_true rfl) rfl
  have hRF:R1=RT (p.ints++[cC tZ iB]):=by simp only[R1,RT,List.map_append,List.length_append];rfl
  have hCF:C1=.row 0 6 0 [partsC (hp n) q { p with ints:=p.ints++[cC tZ iB] }]:=by simp only[C1,partsC,bU,List.length_append];rfl
  rw[hRF,hCF]
  refine aF ?_;intros
  exact⟨HP l n q s { p with ints:=p.ints++[cC tZ iB] },by rw[qG b (.inl rfl),qG b (.inr (.inr (.inr rfl)))];exact dH (sle_ints o sB),s,rfl,rfl⟩
 ·refine fC (fun h=>absurd h e1) (fun _=>?_)
  refine aF ?_;intros
  by_cases e2:t.name=dX
  ·refine fC (fun _=>?_) (fun h=>absurd e2 h)
   have hres:dY (voidC l) p t={ p with t0:=true,t1:=true }:=by unfold dY;rw[if_neg e1,if_pos e2]
   rw[hres]
   refine aF ?_;intros
   exact⟨HP l n q s { p with t0:=true,t1:=true },by rw[qG b (.inr (.inr (.inr rfl)))];exact dH (sle_truths (p:=p) sB { p with t0:=true,t1:=true } rfl rfl rfl),s,rfl,rfl⟩
  ·refine fC (fun h=>absurd h e2) (fun _=>?_)
   refine aF ?_;intros
   refine aU (aT aI (by rfl) 6 (by decide) ?_)
   refine aF ?_;intros
   refine jG (void_spec hh k _ t.name rfl B1 o1) fun s1=>?_
   have x:=lT.uni o1 xB (s:=s1)
   have k3:=kF o1 (s:=s1) kB
   have kp:=x.r
   have kk:=x.k
   refine aF ?_;intros
   refine And.intro (fun hv=>?_) (fun hv=>?_)
   ·have hv:voidC l t.name=false:=by simpa using hv
    have hres:dY (voidC l) p t={ p with kinds:=p.kinds++[t] }:=by unfold dY;rw[if_neg e1,if_neg e2,hv];rfl
    rw[hres]
    refine aF ?_;intros
    let R0:AO:=.row (p.kinds.length+1) 5 64 (p.kinds.map eT++[[.int .i64 0,.str ⟨#[]⟩,.int .i64 0,.int .i64 0,.nils]])
    let R1:AO:=.row (p.kinds.length+1) 5 64 (p.kinds.map eT++[eT (t)])
    let C1:AO:=.row 0 6 0 [[hp n,bU q.gi p.ints,bU q.gm p.metas,.row q.gk (p.kinds.length+1) 0 (p.kinds.length+1) 5,.bool p.t0,.bool p.t1]]
    have hz0:∀ X,L.aK (L.bC (HK l n s1) B1) q.gk X q.gk=some X:=fun X=>aA _ _ _
    have hp1:L.aK (L.bC (HK l n s1) B1) q.gk R0 q.gp=some (.row 0 6 0 [partsC (hp n) q p]):=by rw[aC o.kp];exact x.r
    have hp2:L.aK (L.bC (HK l n s1) B1) q.gk R1 q.gp=some (.row 0 6 0 [partsC (hp n) q p]):=by rw[aC o.kp];exact x.r
    have hz1:L.aK (L.bC (HK l n s1) B1) q.gk R0 q.gk=some R0:=aA _ _ _
    have hz3:L.aK (L.aK (L.bC (HK l n s1) B1) q.gk R0) q.gp C1 q.gk=some R0:=by rw[aC (Ne.symm o.kp),aA]
    refine aU (oJ aI (by rfl) 7 (by kernel_rfl) (by kernel_rfl) (by kernel_rfl) (by kernel_rfl) (by kernel_rfl) ?_)
    refine aF ?_;intros
    unfold zU
    refine⟨.ptr q.gk (p.kinds.length+1) (0+p.kinds.length) 0 5,.ptr q.gp 0 0 0 6,.ptr q.gp 0 0 (0+3) 6,L.aK (L.bC (HK l n s1) B1) q.gk R1,L.aK (L.aK (L.bC (HK l n s1) B1) q.gk R0) q.gp C1,L.aK (L.aK (L.bC (HK l n s1) B1) q.gk R1) q.gp C1,⟨?_,?_,?_,?_,?_,?_,?_,?_,?_,?_,?_⟩⟩
    ·refine sI ?_;intros
     exact⟨p.kinds.length,rfl,by simp,rfl⟩
    ·refine sI ?_;intros
     exact⟨p.kinds.length,rfl,by simp,rfl⟩
    ·refine sI ?_;intros
     refine kO rfl hz1 ?_
     rw[aN]
    ·refine sI ?_;intros
     refine kO rfl hz3 ?_
     rw[cK o.kp,aN]
    ·exact goY
    ·exact goY
    ·exact goY
    ·exact goY
    ·refine sI ?_;intros
     exact gG hp1 (Nat.le_of_ble_eq_true rfl) rfl
    ·refine sI ?_;intros
     exact gG hp2 (Nat.le_of_ble_eq_true rfl) rfl
    have hRF:R1=RT (p.kinds++[t]):=by simp only[R1,RT,List.map_append,List.length_append];rfl
    have hCF:C1=.row 0 6 0 [partsC (hp n) q { p with kinds:=p.kinds++[t] }]:=by simp only[C1,partsC,bU,List.length_append];rfl
    rw[hRF,hCF]
    refine aF ?_;intros
    exact⟨HP l n q s1 { p with kinds:=p.kinds++[t] },by rw[qG b (.inr (.inr (.inl rfl))),qG b (.inr (.inr (.inr rfl)))];exact dH (sle_kinds o sB),s1,rfl,rfl⟩
   ·have hv:voidC l t.name=true:=by simpa using hv
    have hres:dY (voidC l) p t=p:=by unfold dY;rw[if_neg e1,if_neg e2,hv];rfl
    rw[hres]
    refine aF ?_;intros
    exact⟨HP l n q s1 p,dH sB,s1,rfl,rfl⟩
theorem addMeta_A (hh:Hier l) (k:n.Ok) (o:q.Ok) (b:tY n q) (t:Ty) (hf:few p):AddF l n q 231 t p (if t.name=aP then dY (voidC l) p (classT iK) else { p with metas:=p.metas++[t] }):=fun s=>by
 refine aJ aI Tryz.func231 rfl (by rfl) (by rfl) ?_
 obtain⟨hn1,hn2,hn3⟩:=hf
 have o0:=Off_PK (p:=p) b
 refine aF ?_;intros
 refine jO o0 fun b3 h3 o1 _=>?_
 have xB:lT (hp n) q p (L.aK (PK (hp n) q p) b3 (.row 0 (eT t).length 0 [eT t])):=(lT.of o).upd h3
 have kB:L.aK (PK (hp n) q p) b3 (.row 0 (eT t).length 0 [eT t]) b3=some (.row 0 5 0 [eT t]):=aA _ _ _
 have sB:bV (L.aK (PK (hp n) q p) b3 (.row 0 (eT t).length 0 [eT t])) (PK (hp n) q p):=aR h3
 generalize L.aK (PK (hp n) q p) b3 (.row 0 (eT t).length 0 [eT t])=B1 at *
 have x:=lT.uni o1 xB (s:=s)
 have k3:=kF o1 (s:=s) kB
 have kp:=x.r
 have km:=x.m
 refine aF ?_;intros
 by_cases e1:t.name=aP
 ·refine fC (fun _=>?_) (fun h=>absurd e1 h)
  rw[if_pos e1]
  refine aF ?_;intros
  refine aV (addClass_A hh k o b (classT iK) ⟨hn1,hn2,hn3⟩ s) (dH sB) ?_
  rintro o' S' ⟨s1,rfl,rfl⟩ -
  unfold dR
  refine aF ?_;intros
  exact⟨_,fun g x hx=>dN hx,s1,rfl,rfl⟩
 ·refine fC (fun h=>absurd h e1) (fun _=>?_)
  rw[if_neg e1]
  refine aF ?_;intros
  let R0:AO:=.row (p.metas.length+1) 5 64 (p.metas.map eT++[[.int .i64 0,.str ⟨#[]⟩,.int .i64 0,.int .i64 0,.nils]])
  let R1:AO:=.row (p.metas.length+1) 5 64 (p.metas.map eT++[eT (t)])
  let C1:AO:=.row 0 6 0 [[hp n,bU q.gi p.ints,.row q.gm (p.metas.length+1) 0 (p.metas.length+1) 5,bU q.gk p.kinds,.bool p.t0,.bool p.t1]]
  have hz0:∀ X,L.aK (L.bC (HK l n s) B1) q.gm X q.gm=some X:=fun X=>aA _ _ _
  have hp1:L.aK (L.bC (HK l n s) B1) q.gm R0 q.gp=some (.row 0 6 0 [partsC (hp n) q p]):=by rw[aC o.mp];exact x.r
  have hp2:L.aK (L.bC (HK l n s) B1) q.gm R1 q.gp=some (.row 0 6 0 [partsC (hp n) q p]):=by rw[aC o.mp];exact x.r
  have hz1:L.aK (L.bC (HK l n s) B1) q.gm R0 q.gm=some R0:=aA _ _ _
  have hz3:L.aK (L.aK (L.bC (HK l n s) B1) q.gm R0) q.gp C1 q.gm=some R0:=by rw[aC (Ne.symm o.mp),aA]
  refine aU (oJ aI (by rfl) 7 (by kernel_rfl) (by kernel_rfl) (by kernel_rfl) (by kernel_rfl) (by kernel_rfl) ?_)
  refine aF ?_;intros
  unfold zU
  refine⟨.ptr q.gm (p.metas.length+1) (0+p.metas.length) 0 5,.ptr q.gp 0 0 0 6,.ptr q.gp 0 0 (0+2) 6,L.aK (L.bC (HK l n s) B1) q.gm R1,L.aK (L.aK (L.bC (HK l n s) B1) q.gm R0) q.gp C1,L.aK (L.aK (L.bC (HK l n s) B1) q.gm R1) q.gp C1,⟨?_,?_,?_,?_,?_,?_,?_,?_,?_,?_,?_⟩⟩
  ·refine sI ?_;intros
   exact⟨p.metas.length,rfl,by simp,rfl⟩
  ·refine sI ?_;intros
   exact⟨p.metas.length,rfl,by simp,rfl⟩
  ·refine sI ?_;intros
   refine kO rfl hz1 ?_
   rw[aN]
  ·refine sI ?_;intros
   refine kO rfl hz3 ?_
   rw[cK o.mp,aN]
  ·exact goY
  ·exact goY
  ·exact goY
  ·exact goY
  ·refine sI ?_;intros
   exact gG hp1 (Nat.le_of_ble_eq_true rfl) rfl
  ·refine sI ?_;intros
   exact gG hp2 (Nat.le_of_ble_eq_true rfl) rfl
  have hRF:R1=RT (p.metas++[t]):=by simp only[R1,RT,List.map_append,List.length_append];rfl
  have hCF:C1=.row 0 6 0 [partsC (hp n) q { p with metas:=p.metas++[t] }]:=by simp only[C1,partsC,bU,List.length_append];rfl
  rw[hRF,hCF]
  refine aF ?_;intros
  exact⟨HP l n q s { p with metas:=p.metas++[t] },by rw[qG b (.inr (.inl rfl)),qG b (.inr (.inr (.inr rfl)))];exact dH (sle_metas o sB),s,rfl,rfl⟩
end
section
attribute [local irreducible] T TL zU
set_option maxRecDepth 10000
set_option maxHeartbeats 4000000
variable {l:List ClassI} {n:pY} {q:PNm} {p:cI}
theorem HP_none {s s':Memo l} {p p':cI} {g:Nat} (h:HP l n q s p g=none):HP l n q s' p' g=none:=by
 obtain⟨h1,h2⟩:=bL.1 h
 exact bL.2 ⟨cM.2 (cM.1 h1),PK_none.2 (PK_none.1 h2)⟩
theorem HP_Dj {s s':Memo l} {p p':cI} {C:aD} (h:Dj (HP l n q s p) C):Dj (HP l n q s' p') C:=fun g x hx=>by
 cases e:HP l n q s p g with
 | some y=>exact h g y e
 | none=>rw[HP_none (s':=s') (p':=p') e] at hx;cases hx
def jF (p:cI):Nat:=p.ints.length+p.metas.length+p.kinds.length
theorem few_of (h:jF p≤100000):few p:=by unfold jF at h;exact⟨by omega,by omega,by omega⟩
theorem vF {void:ByteArray→Bool} {t:Ty}:jF (dY void p t)≤jF p+1:=by
 unfold dY
 split
 ·simp[jF];omega
 ·split
  ·simp[jF]
  ·split
   ·omega
   ·simp[jF];omega
theorem size_addLeaf {void:ByteArray→Bool} {t:Ty}:jF (oF void p t)≤jF p+1:=by
 unfold oF
 split
 ·exact vF
 ·split
  ·simp[jF];omega
  ·split
   ·split <;> simp[jF]
   ·split
    ·split
     ·exact vF
     ·simp[jF];omega
    ·omega
theorem size_addTs {void:ByteArray→Bool}:∀ {l:List Ty} {p:cI},(∀ t∈l,∀ p,jF (rL void p t)≤jF p+t.cnt)→jF (nW void p l)≤jF p+nK l
 | [],p,_=>by rw[nW,nK];omega
 | t::l,p,h=>by
  rw[nW,nK]
  have h1:=h t (by simp) p
  have h2:=size_addTs (l:=l) (p:=rL void p t) (fun t ht=>h t (by simp[ht]))
  omega
theorem size_addT {void:ByteArray→Bool}:∀ (t:Ty) (p:cI),jF (rL void p t)≤jF p+t.cnt:=by
 refine Ty.ind fun t ih=>?_
 intro p
 rw[addT_eq]
 have:=cnt_pos t
 split
 ·have:=size_addTs (p:=p) ih
  rw[sR];omega
 ·have:=size_addLeaf (p:=p) (void:=void) (t:=t)
  omega
def addM:MK→Option PV:=fD (fD (fD (fD (fD (fun _=>none) (.i 1) (.fn (.func 228) [] [])) (.i 2) (.fn (.func 229) [] [])) (.i 3) (.fn (.func 230) [] [])) (.i 4) (.fn (.func 231) [] [])) (.i 5) (.fn (.func 200) [] [])
def addFn (k:Int):Nat:=if k=1 then 228 else if k=2 then 229 else if k=3 then 230 else if k=4 then 231 else 200
theorem addM_at {k:Int} (h:k=1∨k=2∨k=3∨k=4∨k=5):addM (.i k)=some (.fn (.func (addFn k)) [] []):=by
 rcases h with rfl | rfl | rfl | rfl | rfl <;> rfl
theorem fm_kind {h:ByteArray→Bool} {t:Ty} (hf:zC h t=true):t.kind=1∨t.kind=2∨t.kind=3∨t.kind=4∨t.kind=5:=by
 rw[vS] at hf
 have h1:=(Bool.and_eq_true_iff.1 hf).1
 unfold lB at h1
 by_cases e1:t.kind=1
 ·exact .inl e1
 by_cases e2:t.kind=2
 ·exact .inr (.inl e2)
 by_cases e3:t.kind=3
 ·exact .inr (.inr (.inl e3))
 by_cases e4:t.kind=4
 ·exact .inr (.inr (.inr (.inl e4)))
 by_cases e5:t.kind=5
 ·exact .inr (.inr (.inr (.inr e5)))
 simp[e1,e2,e3,e4,e5] at h1
theorem fm_lo {h:ByteArray→Bool} {t:Ty} (hf:zC h t=true) (hk:t.kind=3):t.lo=0∨t.lo=1:=by
 rw[vS] at hf
 have h1:=(Bool.and_eq_true_iff.1 hf).1
 unfold lB at h1
 simp[hk] at h1
 exact h1.1.1.1
theorem fm_args {h:ByteArray→Bool} {t:Ty} (hf:zC h t=true):∀ a∈t.args,zC h a=true:=by
 rw[vS] at hf
 exact List.all_eq_true.1 (Bool.and_eq_true_iff.1 hf).2
theorem addUnion_A (hh:Hier l) (k:n.Ok) (o:q.Ok) (b:tY n q):∀ (t:Ty),(∀ a∈t.args,zC (lI l) a=true)→∀ p,jF p+nK t.args≤100000→AddF l n q 200 t p (nW (voidC l) p t.args):=by
 refine Ty.ind fun t ih=>?_
 intro hfm p hsz s
 have hlen:=len_cnts t.args
 refine aJ aI Tryz.func200 rfl (by rfl) (by rfl) ?_
 refine aF ?_;intros
 refine aG fun b3 h3=>?_
 refine aF ?_;intros
 refine aG fun g4 h4=>?_
 refine aF ?_;intros
 refine dL (aA _ _ _) ?_
 refine aF ?_;intros
 refine dL (aA _ _ _) ?_
 refine aF ?_;intros
 refine dL (aA _ _ _) ?_
 refine aF ?_;intros
 refine dL (aA _ _ _) ?_
 refine aF ?_;intros
 refine dL (aA _ _ _) ?_
 rw[aN,aN,aN,aN,aN]
 have n34:g4≠b3:=aL (aA _ _ _) h4
 have h4':HP l n q s p g4=none:=by rw[aC n34] at h4;exact h4
 have hS:L.aK (L.aK (HP l n q s p) b3 (.row 0 (eT t).length 0 [eT t])) g4 (.map false addM)=L.bC (HP l n q s p) (L.aK (L.aK E b3 (.row 0 (eT t).length 0 [eT t])) g4 (.map false addM)):=by
  rw[← cF h4',← cF h3,nH]
 have dj:Dj (HP l n q s p) (L.aK (L.aK E b3 (.row 0 (eT t).length 0 [eT t])) g4 (.map false addM)):=wA (wA Dj_E h3) h4'
 have c3:L.aK (L.aK E b3 (.row 0 (eT t).length 0 [eT t])) g4 (.map false addM) b3=some (.row 0 5 0 [eT t]):=by rw[aC (Ne.symm n34),aA];rfl
 have c4:L.aK (L.aK E b3 (.row 0 (eT t).length 0 [eT t])) g4 (.map false addM) g4=some (.map false addM):=aA _ _ _
 show gX _ _ _ fun t'=>TL Tryz.prog none _ _ _ t' (L.aK (L.aK (HP l n q s p) b3 (.row 0 (eT t).length 0 [eT t])) g4 (.map false addM)) []
 rw[hS]
 generalize L.aK (L.aK E b3 (.row 0 (eT t).length 0 [eT t])) g4 (.map false addM)=C at *
 have dA:∀ s' p',Dj (HP l n q s' p') C:=fun s' p'=>HP_Dj dj
 have k3:=cZ dj _ _ c3
 refine aF ?_;intros
 rw[nX]
 refine aF ?_;intros
 refine aU (aY (α:=Memo l × cI × Nat) (inv:=fun x=>x.2.2≤t.args.length∧nW (voidC l) p t.args=nW (voidC l) x.2.1 (t.args.drop x.2.2)∧jF x.2.1+nK (t.args.drop x.2.2)≤100000)
  (tm:=fun x=>gF 24 [(0,.ptr q.gp 0 0 0 6),(4,.map g4),(10,TS t.args),(11,.int .i64 t.args.length),(12,.int .i64 x.2.2)]) (st:=fun x=>L.bC (HP l n q x.1 x.2.1) C) (μ:=fun x=>t.args.length - x.2.2) (s,p,0) ⟨by simp,rfl,hsz⟩ ?_ (aB _) ?_)
 ·repeat' (first | exact trivial | exact rfl | refine And.intro ?_ ?_)
  simp
 rintro⟨s1,p1,i⟩ ⟨hi,hadd,hsz1⟩
 dsimp only at hi hadd hsz1 ⊢
 have k4:=cZ (dA s1 p1) _ _ c4
 refine aF ?_;intros
 refine fC (fun hc=>?_) (fun hc=>?_)
 ·have hil:i<t.args.length:=by omega
  rw[List.drop_eq_getElem_cons hil] at hadd hsz1
  rw[nW] at hadd
  rw[nK] at hsz1
  have hmem:=List.getElem_mem hil
  have hfa:=hfm _ hmem
  refine aF ?_;intros
  refine aG fun b6 h6=>?_
  obtain⟨h6a,h6b⟩:=bL.1 h6
  have d6:∀ s' p' X,Dj (HP l n q s' p') (L.aK C b6 X):=fun s' p' X=>wA (dA s' p') (HP_none h6a)
  have c4':=fun X=>aE (y:=X) k4 h6
  refine aF ?_;intros
  refine fV (c4' _) (addM_at (fm_kind hfa)) ?_
  have goal:∀ f p2,addFn t.args[i].kind=f→rL (voidC l) p1 t.args[i]=p2→AddF l n q f t.args[i] p1 p2→AddF l n q (addFn t.args[i].kind) t.args[i] p1 (rL (voidC l) p1 t.args[i]):=fun f p2 e1 e2 h=>by rw[e1,e2];exact h
  have hfew:=few_of (p:=p1) (by omega)
  have hadd1:AddF l n q (addFn t.args[i].kind) t.args[i] p1 (rL (voidC l) p1 t.args[i]):=by
   have eT':=addT_eq (voidC l) p1 t.args[i]
   rcases fm_kind hfa with e | e | e | e | e
   ·refine goal 228 _ (by rw[e];rfl) (by rw[eT',if_neg (by omega)];unfold oF;rw[if_pos e]) (addClass_A hh k o b _ hfew)
   ·refine goal 229 _ (by rw[e];rfl) (by rw[eT',if_neg (by omega)];unfold oF;rw[if_neg (by omega),if_pos e]) (addInt_A o b _ hfew)
   ·refine goal 230 _ (by rw[e];rfl) (by rw[eT',if_neg (by omega)];unfold oF;rw[if_neg (by omega),if_neg (by omega),if_pos e]) (addBool_A o b _ (fm_lo hfa e))
   ·refine goal 231 _ (by rw[e];rfl) (by rw[eT',if_neg (by omega)];unfold oF;rw[if_neg (by omega),if_neg (by omega),if_neg (by omega),if_pos e]) (addMeta_A hh k o b _ hfew)
   ·refine goal 200 _ (by rw[e];rfl) (by rw[eT',if_pos e]) (ih _ hmem (fm_args hfa) p1 (by rw[sR] at hsz1;omega))
  refine aF ?_;intros
  rw[cF h6a]
  refine aV (hadd1 s1) dQ ?_
  rintro o' S' ⟨s2,rfl,rfl⟩ -
  unfold dR
  rw[mrg_l (d6 s1 p1 _)]
  refine aF ?_;intros
  have hs2:=size_addT (void:=voidC l) t.args[i] p1
  refine⟨(s2,rL (voidC l) p1 t.args[i],i+1),⟨by dsimp only;omega,hadd,by dsimp only;omega⟩,by dsimp only;omega,by repeat' (first | exact trivial | exact rfl | refine And.intro ?_ ?_),dH (aR h6b)⟩
 ·have hge:t.args.drop i=[]:=List.drop_of_length_le (by omega)
  rw[hge,nW] at hadd
  rw[hadd]
  refine aF ?_;intros
  exact⟨_,dQ,s1,rfl,rfl⟩
end
end Go.Proofs.YtbojdflgjpjbiaaGreat.L
