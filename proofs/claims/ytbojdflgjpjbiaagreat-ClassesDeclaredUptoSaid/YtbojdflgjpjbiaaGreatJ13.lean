/- A logic over the machine, and what the functions of the seat come to: part 13. No claim stands here; the theorems are used by the row. -/
import Derived.Test.YtbojdflgjpjbiaaGreatJ11
import Derived.Shelf.Spec.SlicesGrow
set_option linter.unusedSimpArgs false
set_option linter.unnecessarySimpa false
set_option linter.unusedVariables false
namespace Go.Proofs.YtbojdflgjpjbiaaGreat.L
open Go
section
attribute [local irreducible] T TL
set_option maxRecDepth 10000
set_option maxHeartbeats 4000000
theorem isObj_spec (t:Ty):FnP PP 201 [TV t] (.bool (decide (t.name=aP))):=by
 refine aJ aI Tryz.func201 rfl (by rfl) (by rfl) ?_
 refine aF ?_;intros
 refine aG fun g1 hg1=>?_
 refine aF ?_;intros
 exact⟨E,aM _,rfl,rfl⟩
theorem isCls_spec (t:Ty):FnP PP 208 [TV t] (.bool (decide (t.name=iK))):=by
 refine aJ aI Tryz.func208 rfl (by rfl) (by rfl) ?_
 refine aF ?_;intros
 refine aG fun g1 hg1=>?_
 refine aF ?_;intros
 exact⟨E,aM _,rfl,rfl⟩
theorem isClass_spec (t:Ty) (n:ByteArray):FnP PP 213 [TV t,.str n] (.bool (decide (t.kind=1) && decide (t.name=n))):=by
 refine aJ aI Tryz.func213 rfl (by rfl) (by rfl) ?_
 refine aF ?_;intros
 refine aG fun g1 hg1=>?_
 refine aF ?_;intros
 refine And.intro (fun h=>?_) (fun h=>?_)
 ·refine aF ?_;intros
  exact⟨E,aM _,by rw[h];rfl,rfl⟩
 ·refine aF ?_;intros
  exact⟨E,aM _,by rw[h];rfl,rfl⟩
theorem eqFun0 (k:Nat):FnP PP 235 [TS [],TS [],.fn (.func k) [] []] (.bool true):=by
 refine aJ aI Tryz.func235 rfl (by rfl) (by rfl) ?_
 refine aF ?_;intros
 refine aU (aY (α:=Unit) (inv:=fun _=>True) (tm:=fun _=>gF 32 [(1,TS []),(2,.fn (.func k) [] []),(15,TS []),(16,.int .i64 0),(17,.int .i64 0)]) (st:=fun _=>E) (μ:=fun _=>0) () trivial ?_ (aM _) ?_)
 ·repeat' (first | exact trivial | exact rfl | refine And.intro ?_ ?_)
 intro _ _
 refine aF ?_;intros
 exact⟨E,aM _,rfl,rfl⟩
instance (k:Nat):cH 235 [TS [],TS [],.fn (.func k) [] []] (.bool true):=⟨eqFun0 k⟩
def sameT (t u:Ty):Bool:=decide (t.kind=u.kind) && decide (t.name=u.name) && decide (t.lo=u.lo) && decide (t.hi=u.hi)
theorem sameT_eq {t u:Ty} (ht:t.args=[]) (hu:u.args=[]):sameT t u=true↔t=u:=by
 cases t;cases u
 simp only[Ty.args] at ht hu
 subst ht hu
 simp[sameT,Ty.kind,Ty.name,Ty.lo,Ty.hi,and_assoc]
 exact and_congr decide_eq_true_iff (and_congr decide_eq_true_iff (and_congr decide_eq_true_iff decide_eq_true_iff))
theorem eqT_spec (t u:Ty) (ht:t.args=[]) (hu:u.args=[]):FnP PP 204 [TV t,TV u] (.bool (sameT t u)):=by
 have et:tA t.args=([]:List Ty).map eT:=by rw[ht,nX]
 have eu:tA u.args=([]:List Ty).map eT:=by rw[hu,nX]
 unfold TV eT
 rw[et,eu]
 unfold sameT
 refine aJ aI Tryz.func204 rfl (by rfl) (by rfl) ?_
 refine aF ?_;intros
 refine aG fun g1 hg1=>?_
 refine aF ?_;intros
 refine aG fun g2 hg2=>?_
 refine aF ?_;intros
 refine And.intro (fun hkind=>?_) (fun hkind=>?_)
 ·refine aF ?_;intros
  refine And.intro (fun hname=>?_) (fun hname=>?_)
  ·refine aF ?_;intros
   refine And.intro (fun hlo=>?_) (fun hlo=>?_)
   ·refine aF ?_;intros
    refine And.intro (fun hhi=>?_) (fun hhi=>?_)
    ·refine aF ?_;intros
     exact⟨E,aM _,by rw[hkind,hname,hlo,hhi];rfl,rfl⟩
    ·refine aF ?_;intros
     exact⟨E,aM _,by rw[hhi];simp,rfl⟩
   ·refine aF ?_;intros
    exact⟨E,aM _,by rw[hlo];simp,rfl⟩
  ·refine aF ?_;intros
   exact⟨E,aM _,by rw[hname];simp,rfl⟩
 ·refine aF ?_;intros
  exact⟨E,aM _,by rw[hkind];simp,rfl⟩
end
section
attribute [local irreducible] T TL
set_option maxRecDepth 10000
set_option maxHeartbeats 4000000
variable {l:List ClassI} {n:pY} {B:aD}
def FnQ (l:List ClassI) (n:pY) (B:aD) (f:Nat) (args:List PV) (v:PV):Prop:=
 ∀ s:Memo l,Fn PP f args (bC (HK l n s) B) fun o S'=>o=.ret v∧S'=bC (HK l n s) B
theorem FnQ.toH {f:Nat} {args:List PV} {v:PV} (h:FnQ l n B f args v):FnH l n B f args v:=fun s=>fO (h s) fun o S' ⟨h1,h2⟩=>⟨s,h1,h2⟩
theorem belowQ (k:n.Ok) (a b:ByteArray):FnQ l n B 195 [hp n,.str a,.str b] (.bool (jR l a b)):=by
 intro s
 refine aJ aI Tryz.func195 rfl (by rfl) (by rfl) ?_
 have kh:=sE (l:=l) (n:=n) (B:=B) (s:=s)
 have ka:=HK_a (l:=l) (B:=B) k (s:=s)
 refine aF ?_;intros
 cases hat:mZ l a with
 | some i=>
  refine fV ka (nA hat) ?_
  obtain⟨hi,_⟩:=mF hat
  refine aF ?_;intros
  exact⟨_,aB _,by unfold jR;rw[pO hat hi],rfl⟩
 | none=>
  refine jN ka (nC hat) ?_
  refine aF ?_;intros
  exact⟨_,aB _,by unfold jR;rw[getC_no hat],rfl⟩
theorem less_spec (k:n.Ok) (o:Off n B) (b:Nat) (hb:B b=some (.row 0 1 0 [[hp n]])) (x y:Ty):FnQ l n B 207 [TV x,TV y,.ptr b 0 0 0 1] (.bool (jR l y.name x.name)):=by
 intro s
 refine aJ aI Tryz.func207 rfl (by rfl) (by rfl) ?_
 refine aF ?_;intros
 refine jO o fun b1 h1 o1 k1=>?_
 refine aF ?_;intros
 refine jO o1 fun b2 h2 o2 k2=>?_
 have e1:=fun y=>aE (y:=y) (aA B b1 (.row 0 (eT x).length 0 [eT x])) h2
 have e0:=fun y=>aE (y:=y) (aE (y:=.row 0 (eT x).length 0 [eT x]) hb h1) h2
 have k1':=kF o2 (s:=s) (e1 _)
 have k0':=kF o2 (s:=s) (e0 _)
 refine aF ?_;intros
 refine bN (belowQ k _ _ s) (aB _) ?_
 refine aF ?_;intros
 exact⟨_,dH ((aR h2).trans (aR h1)),rfl,rfl⟩
theorem above_spec (k:n.Ok) (o:Off n B) (b bt bf:Nat) (t x:Ty) (hb:B b=some (.row 0 1 0 [[hp n]])) (ht:B bt=some (.row 0 5 0 [eT t])) (hf:B bf=some (.row 0 1 0 [[.fn (.func 207) [] [.ptr b 0 0 0 1]]])) :
  FnQ l n B 237 [TV x,.ptr bt 0 0 0 5,.ptr bf 0 0 0 1] (.bool (!decide (x.name=t.name) && jR l t.name x.name)):=by
 intro s
 refine aJ aI Tryz.func237 rfl (by rfl) (by rfl) ?_
 refine aF ?_;intros
 refine jO o fun b1 h1 o1 k1=>?_
 have e1:=aA B b1 (.row 0 (eT x).length 0 [eT x])
 have e2:=aE (y:=.row 0 (eT x).length 0 [eT x]) ht h1
 have e3:=aE (y:=.row 0 (eT x).length 0 [eT x]) hf h1
 have e4:=aE (y:=.row 0 (eT x).length 0 [eT x]) hb h1
 have k1':=kF o1 (s:=s) e1
 have k2':=kF o1 (s:=s) e2
 have k3':=kF o1 (s:=s) e3
 refine aF ?_;intros
 refine And.intro (fun q=>?_) (fun q=>?_)
 ·refine aF ?_;intros
  refine bN (less_spec k o1 b e4 x t s) (aB _) ?_
  refine aF ?_;intros
  exact⟨_,dH (aR h1),by rw[q];rfl,rfl⟩
 ·refine aF ?_;intros
  exact⟨_,dH (aR h1),by rw[q];rfl,rfl⟩
inductive FzO (g ver sz e:Nat) (xs:List (List PV)):AO→AO→Prop
 | same (x:AO):FzO g ver sz e xs x x
 | row (v' sz' e':Nat) (ys zs:List (List PV)) (hl:ys.length=zs.length) (hc:∀ (i:Nat) (h1:i<ys.length) (h2:i<zs.length),ys[i].length=zs[i].length)
   (h:∀ (i j:Nat) (h1:i<ys.length) (h2:i<zs.length) (h3:j<ys[i].length) (h4:j<zs[i].length),FzV g ver sz e xs ys[i][j] zs[i][j]):FzO g ver sz e xs (.row v' sz' e' ys) (.row v' sz' e' zs)
theorem View_freezeO {t:List PV} {S S2:aD} {g ver sz e:Nat} {xs:List (List PV)} (hg:S g=some (.row ver sz e xs)) (h2:∀ h y,S2 h=some y→h≠g∧∃ x,S h=some x∧FzO g ver sz e xs x y):qJ t S t S2:=by
 intro a w fr m D hs
 have rel:=hs.rel
 let fr':Nat→Prop:=fun b=>fr b∨∃ v,m g=some (v,some b)
 have hup:∀ b,fr b→fr' b:=fun b h=>.inl h
 have hfr:∀ b v,m g=some (v,some b)→fr' b:=fun b v h=>.inr ⟨v,h⟩
 have hk:iT w fr m w fr' m:=⟨hup,fun _ _=>rfl,fun _ _ h=>h,Nle.refl m⟩
 have hown:∀ b,Own m S2 b→Own m S b:=fun b ⟨h,y,v,e1,e2⟩=>by
  obtain⟨_,x,hx,_⟩:=h2 h y e1
  exact⟨h,x,v,hx,e2⟩
 have hst:bZ w fr m S w fr' m S2:=
  ⟨Nat.le_refl _,hup,fun b hb=>by
   rcases hb with hb | ⟨v,hb⟩
   ·exact .inl hb
   ·exact .inr (.inl ⟨g,_,v,hg,hb⟩),fun b hb=>.inl (hown b hb),fun h hh=>by
    obtain⟨y,hy⟩:=Option.isSome_iff_exists.1 hh
    obtain⟨_,x,hx,_⟩:=h2 h y hy
    exact .inl (by rw[hx];rfl),fun _ _ _=>rfl,fun _ _ h=>h,Nle.refl m,fun _ _ _=>rfl,rfl,rfl⟩
 refine⟨fr',m,⟨⟨fun h y hy=>?_,fun b hb ho=>?_,fun h h' y y' v v' b e1 e2 f1 f2=>?_,fun b hb=>?_,rel.bnd⟩,hs.len,fun i=>(hs.tmp i).keep hk,hs.dfr.keep hk⟩,hst⟩
 ·obtain⟨_,x,hx,hz⟩:=h2 h y hy
  obtain⟨ob,k1,k2⟩:=rel.obj h x hx
  cases hz with
  | same=>
   refine⟨ob,k1,?_⟩
   cases ob with
   | none=>exact k2
   | some b=>obtain⟨o,k3,k4⟩:=k2;exact⟨o,k3,k4.keep hk⟩
  | row v' sz' e' ys zs hl hc hh=>
   refine⟨ob,k1,?_⟩
   cases ob with
   | none=>
    obtain⟨_,_,_,k3⟩:=k2
    cases k3
    have:zs=[]:=List.eq_nil_of_length_eq_zero hl.symm
    subst this
    exact⟨_,_,_,rfl⟩
   | some b=>
    obtain⟨o,k3,he,arr,el,rfl,q1,q2,q3⟩:=k2
    refine⟨_,k3,by rw[← hl];exact he,arr,el,rfl,fun i hi=>by rw[← hc i (by omega) hi];exact q1 i _,by rw[← hl];exact q2,fun i j hi hj=>?_⟩
    have hi':i<ys.length:=by omega
    have hj':j<(ys[i]).length:=by rw[hc i hi' hi];exact hj
    obtain⟨v,q4,q5⟩:=q3 i j hi' hj'
    exact⟨v,q4,(hh i j hi' hi hj' hj).rep rel hg hup hfr q5⟩
 ·rcases hb with hb | ⟨v,hb⟩
  ·exact rel.apart b hb (hown b ho)
  ·obtain⟨h,y,v',e1,e2⟩:=ho
   obtain⟨hne,x,hx,_⟩:=h2 h y e1
   exact hne (rel.inj h g x _ v' v b hx hg e2 hb)
 ·obtain⟨_,x,hx,_⟩:=h2 h y e1
  obtain⟨_,x',hx',_⟩:=h2 h' y' e2
  exact rel.inj h h' x x' v v' b hx hx' f1 f2
 ·rcases hb with hb | ⟨v,hb⟩
  ·exact rel.frz b hb
  ·exact rel.lt ⟨g,_,v,hg,hb⟩
theorem zF {c:Code} {r:Option Nat} {Q:bQ} {t:List PV} {S:aD} {D:List DA} {g gp ver sz e vp szp ep len:Nat} {xs:List (List PV)} {cs:List PV} (j:Nat) (hne:gp≠g) (hg:S g=some (.row ver sz e xs)) (hp:S gp=some (.row vp szp ep [cs]))
  (hj:cs[j]?=some (.row g ver 0 len sz)) (hlen:len=xs.length) (h:T PP r c Q t (aK (iZ S g) gp (.row vp szp ep [cs.set j (.list e xs)])) D):T PP r c Q t S D:=by
 refine sS (View_freezeO hg ?_) h
 intro k y hk
 by_cases e1:k=gp
 ·subst e1
  rw[aA] at hk
  cases hk
  refine⟨hne,_,hp,.row _ _ _ _ _ rfl (fun i h1 h2=>?_) (fun i i2 h1 h2 h3 h4=>?_)⟩
  ·have:i=0:=by simp at h1;exact h1
   subst this;simp
  ·have:i=0:=by simp at h1;exact h1
   subst this
   simp only[List.getElem_cons_zero] at h3 h4 ⊢
   by_cases e2:j=i2
   ·subst e2
    have e3:cs[j]=.row g ver 0 len sz:=by rw[List.getElem?_eq_getElem h3] at hj;exact Option.some.inj hj
    rw[e3,List.getElem_set_self]
    exact eQ hlen
   ·rw[List.getElem_set_ne e2];exact .same _
 ·rw[aC e1] at hk
  unfold iZ at hk
  split at hk
  ·cases hk
  ·rename_i e2
   exact⟨e2,y,hk,.same _⟩
end
section
attribute [local irreducible] T TL
set_option maxRecDepth 10000
set_option maxHeartbeats 4000000
def zX (p:Ty→Ty→Bool):Ty→List Ty→List Ty
 | _,[]=>[]
 | t,u::l=>if p u t then zX p u l else u::zX p u l
def qA (p:Ty→Ty→Bool):List Ty→List Ty
 | []=>[]
 | t::l=>t::zX p t l
theorem cmpG_snoc (p:Ty→Ty→Bool) (x:Ty):∀ (l:List Ty) (t:Ty),zX p t (l++[x])=zX p t l++if p x ((t::l).getLast (by simp)) then [] else [x]
 | [],t=>by simp[zX];rfl
 | u::l,t=>by
  have e:(t::u::l).getLast (by simp)=(u::l).getLast (by simp):=List.getLast_cons (by simp)
  rw[List.cons_append,zX,zX,cmpG_snoc p x l u,e]
  split <;> rfl
theorem cmpF_snoc (p:Ty→Ty→Bool) (x:Ty) (l:List Ty) (h:l≠[]):qA p (l++[x])=qA p l++if p x (l.getLast h) then [] else [x]:=by
 cases l with
 | nil=>exact absurd rfl h
 | cons t l=>rw[List.cons_append,qA,qA,cmpG_snoc];rfl
theorem cmpF_at (p:Ty→Ty→Bool) (l:List Ty) (i:Nat) (h:i+1<l.length):qA p (l.take (i+2))=qA p (l.take (i+1))++if p l[i+1] l[i] then [] else [l[i+1]]:=by
 have hne:l.take (i+1)≠[]:=by intro e;have:=congrArg List.length e;rw[List.length_take,List.length_nil] at this;omega
 rw[List.take_succ_eq_append_getElem h,cmpF_snoc p _ _ hne]
 have:(l.take (i+1)).getLast hne=l[i]:=by
  rw[List.getLast_eq_getElem]
  simp only[List.getElem_take,List.length_take]
  congr 1
  omega
 rw[this]
theorem compact_spec (l:List Ty) (g ver k:Nat) (p:Ty→Ty→Bool) (hp:∀ x y,x∈l→y∈l→FnP PP k [TV x,TV y] (.bool (p x y))) :
  Fn PP 240 [.row g ver 0 l.length 5,.fn (.func k) [] []] (aK E g (.row ver 5 64 (l.map eT)))
  fun o S'=>o=.ret (.row g ver 0 (qA p l).length 5)∧∃ xs,(xs.take (qA p l).length)=(qA p l).map eT∧(qA p l).length≤xs.length∧S'=aK E g (.row ver 5 64 xs):=by
 refine aJ aI Tryz.func240 rfl (by rfl) (by rfl) ?_
 have hS0:(aK E g (.row ver 5 64 (l.map eT))) g=some (.row ver 5 64 (l.map eT)):=aA _ _ _
 refine cJ (row_bound hS0) fun hlen=>?_
 rw[List.length_map] at hlen
 refine aF ?_;intros
 refine fC (fun hc=>?_) (fun hc=>?_)
 ·have hl:qA p l=l:=by
   match l,hc with
   | [],_=>rfl
   | [t],_=>rfl
   | t::u::l,hc=>simp at hc;omega
  refine aF ?_;intros
  refine⟨_,aB _,by rw[hl],l.map eT,by rw[hl,List.take_of_length_le (by simp)],by rw[hl];simp,rfl⟩
 ·have hl2:2≤l.length:=by omega
  let F:Nat→List Ty:=fun j=>qA p (l.take j)
  refine aF ?_;intros
  refine aU (aY (α:=Nat) (inv:=fun i=>i+1≤l.length∧F (i+1)=l.take (i+1)) (tm:=fun i=>gF 66 [(0,.row g ver 0 l.length 5),(1,.fn (.func k) [] []),(5,.int .i64 ((i+1:Nat):Int))]) (st:=fun _=>aK E g (.row ver 5 64 (l.map eT))) (μ:=fun i=>l.length - i) 0 ⟨by omega,?_⟩ ?_ (aB _) ?_)
  ·simp only[F]
   match l,hl2 with
   | t::l,_=>simp[qA,zX]
  ·repeat' (first | exact trivial | exact rfl | refine And.intro ?_ ?_)
  rintro i ⟨hi,hF⟩
  have e9:((i+1:Nat):Int) - 1=(i:Int):=by omega
  refine aF ?_;intros
  refine fC (fun hc=>?_) (fun hc=>?_)
  ·have hil:i+1<l.length:=by omega
   have hi0:i<l.length:=by omega
   have hat:=cmpF_at p l i hil
   haveI:cH k [TV l[i+1],TV l[i]] (.bool (p l[i+1] l[i])):=⟨hp _ _ (List.getElem_mem _) (List.getElem_mem _)⟩
   refine aF ?_;intros
   refine aU (aT aI (by rfl) 11 (by decide) ?_)
   refine aF ?_;intros
   rw[e9]
   refine aF ?_;intros
   refine And.intro (fun hd=>?_) (fun hd=>?_)
   ·rw[hd,if_pos rfl,List.append_nil] at hat
    have hFlen:(F (i+2)).length=i+1:=by
     simp only[F] at hF ⊢
     rw[hat,hF,List.length_take];omega
    let L:Nat→List Ty:=fun q=>F q++l.drop (F q).length
    have hLl:∀ q,(F q).length≤l.length→(L q).length=l.length:=fun q h=>by simp only[L];rw[List.length_append,List.length_drop];omega
    refine aF ?_;intros
    refine bdW_lo (l:=i+1) rfl (by omega) ⟨.inr (by omega),?_⟩
    refine aF ?_;intros
    refine aU (aY (α:=Nat) (inv:=fun j=>i+1+(j+1)≤l.length∧(F (i+1+(j+1))).length≤i+1+j)
     (tm:=fun j=>gF 66 [(0,.row g ver 0 l.length 5),(1,.fn (.func k) [] []),(5,.int .i64 (F (i+1+(j+1))).length),(6,.row g ver (i+1) (l.length - (i+1)) 5),(7,.int .i64 ((j+1:Nat):Int))])
     (st:=fun j=>aK E g (.row ver 5 64 ((L (i+1+(j+1))).map eT))) (μ:=fun j=>l.length - j) 0 ⟨by omega,show (F (i+2)).length≤i+1+0 by omega⟩ ?_ ?_ ?_)
    ·repeat' (first | exact trivial | exact rfl | refine And.intro ?_ ?_)
     ·rw[hFlen]
     ·simp
    ·have:L (i+1+(0+1))=l:=by
      simp only[L,F] at hF hFlen ⊢
      rw[hFlen,hat,hF]
      exact List.take_append_drop _ _
     rw[this];exact aB _
    rintro j ⟨hj,hFj⟩
    have e8:((j+1:Nat):Int) - 1=(j:Int):=by omega
    have hLj:=hLl (i+1+(j+1)) (by omega)
    have hS:(aK E g (.row ver 5 64 ((L (i+1+(j+1))).map eT))) g=some (.row ver 5 64 ((L (i+1+(j+1))).map eT)):=aA _ _ _
    generalize hLq:L (i+1+(j+1))=Lq at *
    have hget:∀ q (h1:q<Lq.length) (h2:q<l.length),(F (i+1+(j+1))).length≤q→Lq[q]=l[q]:=fun q h1 h2 h3=>by
     subst hLq
     simp only[L]
     rw[List.getElem_append_right h3,List.getElem_drop]
     congr 1;omega
    refine aF ?_;intros
    refine fC (fun hc=>?_) (fun hc=>?_)
    ·have hjl:i+1+(j+1)<l.length:=by omega
     have hat2:F (i+1+(j+1)+1)=F (i+1+(j+1))++if p l[i+1+(j+1)] l[i+1+j] then [] else [l[i+1+(j+1)]]:=cmpF_at p l (i+1+j) hjl
     have g1:Lq[i+1+(j+1)]'(by omega)=l[i+1+(j+1)]:=hget _ (by omega) hjl (by omega)
     have g2:Lq[i+1+j]'(by omega)=l[i+1+j]:=hget _ (by omega) (by omega) hFj
     haveI:cH k [TV (Lq[i+1+(j+1)]'(by omega)),TV (Lq[i+1+j]'(by omega))] (.bool (p l[i+1+(j+1)] l[i+1+j])):=⟨by rw[g1,g2];exact hp _ _ (List.getElem_mem _) (List.getElem_mem _)⟩
     refine aF ?_;intros
     refine aU (aT aI (by rfl) 12 (by decide) ?_)
     refine aF ?_;intros
     rw[e8]
     refine aF ?_;intros
     refine And.intro (fun hne=>?_) (fun hne=>?_)
     ·have hn:p l[i+1+(j+1)] l[i+1+j]=false:=by simpa using hne
      rw[if_neg (by rw[hn];simp)] at hat2
      have hLs:Lq.set (F (i+1+(j+1))).length (Lq[i+1+(j+1)]'(by omega))=L (i+1+(j+1)+1):=by
       rw[g1,← hLq]
       simp only[L]
       rw[hat2,List.set_append_right _ _ (Nat.le_refl _),Nat.sub_self,List.length_append,List.drop_eq_getElem_cons (by omega:(F (i+1+(j+1))).length<l.length),List.set_cons_zero,List.append_assoc]
       rfl
      refine aF ?_;intros
      refine sN (f:=eT) (Lq[i+1+(j+1)]'(by omega)) hS (by omega) (Nat.le_of_ble_eq_true rfl) rfl ?_
      refine aF ?_;intros
      refine⟨j+1,⟨by omega,?_⟩,by omega,?_,?_⟩
      ·show (F (i+1+(j+1)+1)).length≤i+1+(j+1)
       rw[hat2];simp;omega
      ·repeat' (first | exact trivial | exact rfl | refine And.intro ?_ ?_)
       show _=PV.int .i64 ((F (i+1+(j+1)+1)).length:Int)
       rw[hat2];simp
      ·show bV _ (aK E g (.row ver 5 64 ((L (i+1+(j+1)+1)).map eT)))
       rw[aN,hLs];exact aB _
     ·have hn:p l[i+1+(j+1)] l[i+1+j]=true:=by simpa using hne
      rw[if_pos hn,List.append_nil] at hat2
      refine aF ?_;intros
      refine⟨j+1,⟨by omega,?_⟩,by omega,?_,?_⟩
      ·show (F (i+1+(j+1)+1)).length≤i+1+(j+1)
       rw[hat2];omega
      ·repeat' (first | exact trivial | exact rfl | refine And.intro ?_ ?_)
       show _=PV.int .i64 ((F (i+1+(j+1)+1)).length:Int)
       rw[hat2]
      ·show bV _ (aK E g (.row ver 5 64 ((L (i+1+(j+1)+1)).map eT)))
       have:L (i+1+(j+1)+1)=Lq:=by rw[← hLq];simp only[L];rw[hat2]
       rw[this];exact aB _
    ·have hjl:i+1+(j+1)=l.length:=by omega
     have hFf:F (i+1+(j+1))=qA p l:=by simp only[F];rw[List.take_of_length_le (by omega)]
     rw[hFf] at hFj
     refine aF ?_;intros
     rw[hFf]
     refine bdW_lo (l:=(qA p l).length) rfl (by omega) ⟨.inr (by omega),?_⟩
     refine aF ?_;intros
     refine And.intro (by rw[List.length_map];omega) ?_
     refine aF ?_;intros
     refine bdW_hi (h:=(qA p l).length) rfl (by omega) ⟨.inl rfl,?_⟩
     refine aF ?_;intros
     have hml:(qA p l).length≤(Lq.map eT).length:=by rw[List.length_map];omega
     refine⟨_,aB _,rfl,_,?_,?_,by rw[aN]⟩
     ·unfold clrL
      rw[Nat.zero_add,List.take_append_of_le_length (by rw[List.length_take];omega),List.take_take,Nat.min_self,← hLq]
      simp only[L]
      rw[hFf,List.map_append,List.take_append_of_le_length (by simp),List.take_of_length_le (by simp)]
     ·unfold clrL
      rw[List.length_append,List.length_take];omega
   ·rw[if_neg (by rw[hd];simp)] at hat
    refine aF ?_;intros
    refine⟨i+1,⟨by omega,?_⟩,by omega,?_,aB _⟩
    ·simp only[F] at hF ⊢
     rw[hat,hF,← List.take_succ_eq_append_getElem hil]
    ·repeat' (first | exact trivial | exact rfl | refine And.intro ?_ ?_)
  ·have e:i+1=l.length:=by omega
   have hl:qA p l=l:=by
    simp only[F] at hF
    rw[e,List.take_length] at hF
    exact hF
   refine aF ?_;intros
   refine⟨_,aB _,by rw[hl],l.map eT,by rw[hl,List.take_of_length_le (by simp)],by rw[hl];simp,rfl⟩
end
section
attribute [local irreducible] T TL
set_option maxRecDepth 10000
set_option maxHeartbeats 4000000
def nY (l:List Ty):Prop:=(∀ t∈l,t.args=[])∧∀ t∈l,∀ u∈l,t.name=u.name→t=u
theorem nY.sub {l m:List Ty} (h:nY l) (hs:∀ t∈m,t∈l):nY m:=⟨fun t ht=>h.1 t (hs t ht),fun t ht u hu e=>h.2 t (hs t ht) u (hs u hu) e⟩
theorem srt_unique:∀ (l m:List Ty),m.Perm l→Srt sG l→Srt sG m→nY l→m=l
 | [],m,hp,_,_,_=>hp.eq_nil
 | t::l,m,hp,hl,hm,hn=>by
  match m,hp,hm with
  | [],hp,_=>exact absurd hp.symm.eq_nil (by simp)
  | u::m,hp,hm=>
   unfold Srt at hl hm
   rw[List.pairwise_cons] at hl hm
   have hu:u∈t::l:=hp.mem_iff.1 (by simp)
   have ht:t∈u::m:=hp.mem_iff.2 (by simp)
   have e:u=t:=by
    rcases List.mem_cons.1 hu with h | h
    ·exact h
    ·rcases List.mem_cons.1 ht with h' | h'
     ·exact h'.symm
     ·have h1:=hl.1 u h
      have h2:=hm.1 t h'
      exact hn.2 u hu t (by simp) (blt_tri h1 h2)
   subst e
   rw[srt_unique l m hp.cons_inv hl.2 hm.2 (hn.sub fun x hx=>by simp[hx])]
theorem cmp_dups:∀ (l:List Ty) (t:Ty),nY (t::l)→t::zX sameT t l=kD (t::l)
 | [],t,_=>by simp[zX,kD]
 | u::l,t,hn=>by
  have hn':nY (u::l):=hn.sub fun x hx=>by simp[hx]
  have ih:=cmp_dups l u hn'
  rw[zX,kD]
  have hst:sameT u t=true↔u=t:=sameT_eq (hn.1 u (by simp)) (hn.1 t (by simp))
  by_cases e:u.name=t.name
  ·have e1:u=t:=hn.2 u (by simp) t (by simp) e
   rw[if_pos (hst.2 e1),if_pos (by simp[e]),← ih,e1]
  ·have e1:¬ u=t:=fun h=>e (by rw[h])
   rw[if_neg (fun h=>e1 (hst.1 h)),if_neg (by simp[e]),ih]
theorem cmp_dups' (l:List Ty) (hn:nY l):qA sameT l=kD l:=by
 cases l with
 | nil=>rfl
 | cons t l=>rw[qA];exact cmp_dups l t hn
variable {l:List ClassI} {n:pY} {B:aD}
def rootsL (l:List ClassI) (k:List Ty):List Ty:=k.filter fun t=>!(k.any fun u=>!decide (u.name=t.name) && jR l t.name u.name)
theorem topL_of {ks ys:List Ty} (hn:nY ks) (hp:ys.Perm (rootsL l ks)) (hs:Srt sG ys):qA sameT ys=jK l ks:=by
 have hr:nY (rootsL l ks):=hn.sub fun t ht=>(List.mem_filter.1 ht).1
 have hso:nY (pN sG (rootsL l ks)):=hr.sub fun t ht=>(mI sG _).mem_iff.1 ht
 have e:ys=pN sG (rootsL l ks):=srt_unique _ _ (hp.trans (mI sG _).symm) (tU sG nmLt_ntr nmLt_asymm _) hs hso
 rw[cmp_dups' ys (by rw[e];exact hso),e]
 rfl
theorem mrg_one {S:aD} {g:Nat} {x y:AO}:jD S (aK E g x) (aK E g y)=aK S g y:=by
 funext k
 by_cases e:k=g
 ·subst e;rw[dN (aA _ _ _),aA]
 ·rw[aC e]
  exact qS (by rw[aC e];rfl) (by rw[aC e];rfl)
theorem xC (k:n.Ok) (ks:List Ty) (hlen:ks.length≤200000) (hn:nY ks) (o:Off n B) (b:Nat) (hb:B b=some (.row 0 1 0 [[hp n]])):FnQ l n B 210 [TS ks,.fn (.func 207) [] [.ptr b 0 0 0 1]] (TS (jK l ks)):=by
 intro s0
 refine cL (aJ aI Tryz.func210 rfl (by rfl) (by rfl) ?_)
 refine nO ?_;intros
 refine lY aI (nO ?_);intros
 refine jO o fun bf hf o1 k1=>?_
 have ebf:=aA B bf (.row 0 1 0 [[.fn (.func 207) [] [.ptr b 0 0 0 1]]])
 have ebb:=aE (y:=.row 0 1 0 [[.fn (.func 207) [] [.ptr b 0 0 0 1]]]) hb hf
 have hsB:bV (aK B bf (.row 0 1 0 [[.fn (.func 207) [] [.ptr b 0 0 0 1]]])) B:=aR hf
 generalize hB1:aK B bf (.row 0 1 0 [[.fn (.func 207) [] [.ptr b 0 0 0 1]]])=B1 at *
 refine nO ?_;intros
 refine lY aI (nO ?_);intros
 refine gJ 5 5 64 rfl fun gq hgq=>?_
 obtain⟨hq1,hq2⟩:=bL.1 hgq
 rw[cF hq1]
 have oq:∀ X,Off n (aK B1 gq X):=fun X=>o1.upd hgq
 have nbq:bf≠gq:=fun e=>by rw[e] at ebf;rw[hq2] at ebf;cases ebf
 let roots:Nat→List Ty:=fun i=>(ks.take i).filter fun t=>!(ks.any fun u=>!decide (u.name=t.name) && jR l t.name u.name)
 let st:Memo l→Nat→aD:=fun s i=>bC (HK l n s) (aK B1 gq (RT (roots i)))
 refine aF ?_;intros
 refine aU (aY (α:=Nat) (inv:=fun i=>i≤ks.length) (tm:=fun i=>gF 27 [(0,TS ks),(3,.ptr bf 0 0 0 1),(5,bU gq (roots i)),(8,TS ks),(9,.int .i64 ks.length),(10,.int .i64 i)]) (st:=fun i=>st s0 i) (μ:=fun i=>ks.length - i) 0 (by simp) ?_ (aB _) ?_)
 ·repeat' (first | exact trivial | exact rfl | refine And.intro ?_ ?_)
  simp
 intro i hi
 have hS:(aK B1 gq (RT (roots i))) gq=some (.row (roots i).length 5 64 ((roots i).map eT)):=aA _ _ _
 have hK:=kF (oq (RT (roots i))) (s:=s0) hS
 have hrl:(roots i).length≤200000:=by
  have h1:=List.length_filter_le (fun t=>!(ks.any fun u=>!decide (u.name=t.name) && jR l t.name u.name)) (ks.take i)
  simp only[List.length_take] at h1
  simp only[roots];omega
 refine aF ?_;intros
 refine fC (fun hc=>?_) (fun hc=>?_)
 ·have hil:i<ks.length:=by omega
  have hnext:roots (i+1)=roots i++(if (!(ks.any fun u=>!decide (u.name=ks[i].name) && jR l ks[i].name u.name))=true then [ks[i]] else []):=by
   simp only[roots]
   rw[List.take_succ_eq_append_getElem hil,List.filter_append,List.filter_cons,List.filter_nil]
  generalize hro:roots i=ro at *
  refine aF ?_;intros
  simp only[st,hro]
  refine aG fun bt hbt=>?_
  obtain⟨ht1,ht2⟩:=bL.1 hbt
  have o2:=(oq (RT ro)).upd (x:=.row 0 5 0 [eT ks[i]]) hbt
  refine aF ?_;intros
  rw[cF ht1]
  have hab:∀ x∈ks,FnS (fun _:Unit=>bC (HK l n s0) (aK (aK B1 gq (RT ro)) bt (.row 0 5 0 [eT ks[i]]))) 237 ([]++[TV x]++[.ptr bt 0 0 0 5,.ptr bf 0 0 0 1]) (.bool (!decide (x.name=ks[i].name) && jR l ks[i].name x.name)):=fun x _ _=>
   fO (above_spec k o2 b bt bf ks[i] x (aE (aE ebb hq2) ht2) (aA _ _ _) (aE (aE ebf hq2) ht2) s0) fun o S' h=>⟨(),h⟩
  refine fA (St:=Unit) (st:=fun _=>bC (HK l n s0) (aK (aK B1 gq (RT ro)) bt (.row 0 5 0 [eT ks[i]]))) (s:=()) (kI ks 237 [] [.ptr bt 0 0 0 5,.ptr bf 0 0 0 1] (fun x=>!decide (x.name=ks[i].name) && jR l ks[i].name x.name) hab) fun _=>?_
  have hK':=kF o2 (s:=s0) (aE hS ht2)
  have hbK:=kF o2 (s:=s0) (aA (aK B1 gq (RT ro)) bt (.row 0 5 0 [eT ks[i]]))
  have hq1':HK l n s0 gq=none:=cM.2 (cM.1 hq1)
  have hfin:∀ z,roots (i+1)=z→bV (bC (HK l n s0) (aK (aK (aK B1 gq (RT ro)) bt (.row 0 5 0 [eT ks[i]])) gq (RT z))) (st s0 (i+1)):=by
   rintro z rfl
   have nqt:bt≠gq:=fun e=>by rw[e,hS] at ht2;cases ht2
   rw[cK nqt,aN]
   refine dH (aR ?_)
   rw[aC nqt]
   rw[aC nqt] at ht2
   exact ht2
  have hfin0:roots (i+1)=ro→bV (bC (HK l n s0) (aK (aK B1 gq (RT ro)) bt (.row 0 5 0 [eT ks[i]]))) (st s0 (i+1)):=fun h=>by
   have:=hfin ro h
   have nqt:bt≠gq:=fun e=>by rw[e,hS] at ht2;cases ht2
   rw[cK nqt,aN] at this
   exact this
  refine aF ?_;intros
  refine And.intro (fun q=>?_) (fun q=>?_)
  ·rw[if_pos q] at hnext
   refine aF ?_;intros
   rw[cF hq1']
   refine⟨i+1,by omega,by omega,?_,?_⟩
   ·repeat' (first | exact trivial | exact rfl | refine And.intro ?_ ?_)
    rw[hnext];simp
   ·have:=hfin _ hnext
    unfold RT at this ⊢
    rw[List.map_append,List.length_append] at this
    exact this
  ·rw[if_neg (by rw[q];simp),List.append_nil] at hnext
   refine aF ?_;intros
   refine⟨i+1,by omega,by omega,?_,hfin0 hnext⟩
   repeat' (first | exact trivial | exact rfl | refine And.intro ?_ ?_)
   rw[hnext]
 ·have e:i=ks.length:=by omega
  subst e
  refine aF ?_;intros
  refine aV (sortNm hK) (aB _) ?_
  rintro o' S' ⟨rfl,ys,hp,hs,rfl⟩ -
  unfold dR
  rw[cW]
  rw[cF (cM.2 (cM.1 hq1)),aN]
  refine aF ?_;intros
  have hyl:ys.length=(roots ks.length).length:=hp.length_eq
  have hrk:roots ks.length=rootsL l ks:=by simp only[roots];rw[List.take_length];rfl
  rw[hrk] at hp
  have hyn:nY ys:=hn.sub fun t ht=>(List.mem_filter.1 (hp.mem_iff.1 ht)).1
  have htop:=topL_of hn hp hs
  rw[← hyl]
  have hrv:bU gq (roots ks.length)=.row gq ys.length 0 ys.length 5:=by unfold bU;rw[hyl]
  rw[hrv]
  have hQ:=kF (oq (.row ys.length 5 64 (ys.map eT))) (s:=s0) (aA B1 gq _)
  refine aV (compact_spec ys gq ys.length 204 sameT fun x y hx hy=>eqT_spec x y (hyn.1 x hx) (hyn.1 y hy)) (fE hQ) ?_
  rintro o' S' ⟨rfl,xs,hx1,hx2,rfl⟩ -
  unfold dR
  rw[mrg_one,cF (cM.2 (cM.1 hq1)),aN]
  rw[htop] at hx1 hx2 ⊢
  refine aF ?_;intros
  have hR:=kF (oq (.row ys.length 5 64 xs)) (s:=s0) (aA B1 gq _)
  have hfz:FzV gq ys.length 5 64 xs (.row gq ys.length 0 (jK l ks).length 5) (TS (jK l ks)):=by
   have:=FzV.row (g:=gq) (ver:=ys.length) (sz:=5) (e:=64) (xs:=xs) 0 (jK l ks).length (by omega)
   rw[List.drop_zero,hx1] at this
   exact this
  have hBq:B gq=none:=by
   cases e:B gq with
   | none=>rfl
   | some x=>have:=hsB gq x e;rw[hq2] at this;cases this
  refine⟨_,aB _,aO.freeze hR hfz (aO.weak (S':=bC (HK l n s0) B) ?_ (aO.same ⟨rfl,rfl⟩))⟩
  intro g x hx
  have hgq':g≠gq:=by
   rintro rfl
   rw[gU (cM.2 (cM.1 hq1))] at hx
   rw[hBq] at hx;cases hx
  unfold iZ
  rw[if_neg hgq']
  cases e:HK l n s0 g with
  | some y=>rw[dM e] at hx ⊢;exact hx
  | none=>rw[gU e] at hx ⊢;rw[aC hgq'];exact hsB g x hx
end
end Go.Proofs.YtbojdflgjpjbiaaGreat.L
namespace Go.Proofs
open Go.Shelf Go.RowKit Go.Lib
theorem Tryz.i46_some:(Tryz.prog.info? 46).isSome=true:=by kernel_rfl
noncomputable def Tryz.i46:TypeInfo:=(Tryz.prog.info? 46).get Tryz.i46_some
theorem Tryz.i46_eq:Tryz.prog.info? 46=some Tryz.i46:=(Option.some_get _).symm
theorem Tryz.z46_some:Tryz.i46.zero.isSome=true:=by kernel_rfl
noncomputable def Tryz.z46:Value:=Tryz.i46.zero.get Tryz.z46_some
theorem Tryz.z46_eq:Tryz.i46.zero=some Tryz.z46:=(Option.some_get _).symm
theorem Tryz.i46_size:Tryz.i46.size=5:=by kernel_rfl
theorem Tryz.i46_bytes:Tryz.i46.bytes=64:=by kernel_rfl
theorem Tryz.z46_size:Tryz.z46.cells.size=5:=by kernel_rfl
theorem Tryz.grow236 (n:Nat) (w:World) (h0:0<n) (hn:n≤1000000):Calls Tryz.prog 236 #[.slice none 0 0,.int .i64 n] w fun e w'=>
  ∃ cap,n≤cap∧e=.returned (.slice (some ⟨w.heap.size,0,none⟩) 0 cap)∧∃ arr:Array Value,∃ el,arr.size=cap*5∧w'=w.drew.alloc (.cells arr el):=by
 have h:=Any8.slices_Grow_grow Tryz.growT Tryz.i46 Tryz.z46 Tryz.i46_eq Tryz.z46_eq (by rw[Tryz.i46_size];decide) none 0 0 n [] w (Nat.le_refl _) (by omega) (by rw[Tryz.i46_bytes];omega) (by omega) (by simp) (fun _=>rfl) (fun a e=>by cases e)
 have hg:0+n≤grownCap w (0+n) 0 (Tryz.growT_ren.t 25):=grownCap_ge w _ _ _
 refine (show Calls Tryz.prog 236 _ _ _ from h).mono ?_
 rintro e w' ⟨rfl,rfl⟩
 refine⟨_,by omega,rfl,_,_,?_,rfl⟩
 simp only[Builtin.zeroCells]
 simp[Tryz.z46_size]
 have hg':n≤grownCap w n 0 (Tryz.growT_ren.t 25):=by simpa using hg
 omega
theorem Tryz.room236 (w:World):Calls Tryz.prog 236 #[.slice none 0 0,.int .i64 (0:Nat)] w fun e w'=>e=.returned (.slice none 0 0)∧w'=w:=
 Any8.slices_Grow_room Tryz.growT none 0 0 0 w (Nat.le_refl _) (by omega) (by omega) (by omega)
end Go.Proofs
namespace Go.Proofs.YtbojdflgjpjbiaaGreat.L
open Go
theorem args2_nil {w:World} {fr:Nat→Prop} {m:aQ} {vs:Array Value} {k:IntKind} {n:Int} (h:gD w fr m vs [.nils,.int k n]):vs=#[.slice none 0 0,.int k n]:=by
 obtain⟨hs,hr⟩:=h
 obtain⟨l⟩:=vs
 match l,hs,hr with
 | [v0,v1],_,hr=>
  have r0:=hr 0 (by simp) (by simp)
  have r1:=hr 1 (by simp) (by simp)
  simp only[List.getElem_toArray,List.getElem_cons_zero,List.getElem_cons_succ] at r0 r1
  cases r0
  cases r1
  rfl
theorem grow_spec (n:Nat) (hn:n≤1000000):Fn PP 236 [.nils,.int .i64 n] E fun o S'=>∃ g,o=.ret (.row g 0 0 0 5)∧S'=aK E g (.row 0 5 64 []):=by
 refine⟨⟨_,Tryz.func236,rfl,rfl⟩,fun w fr m vs rel ha=>?_⟩
 rw[args2_nil ha]
 by_cases h0:n=0
 ·subst h0
  refine (Tryz.room236 w).mono ?_
  rintro e w' ⟨rfl,rfl⟩
  obtain⟨g,m',h1,h2,h3,h4⟩:=nil_row rel 5 64
  exact⟨_,_,fr,m',⟨g,rfl,rfl⟩,h4,h2,h3⟩
 ·refine (Tryz.grow236 n w (by omega) hn).mono ?_
  rintro e w' ⟨cap,hc,rfl,arr,el,hsz,rfl⟩
  obtain⟨g,hm,hS⟩:=pD rel
  have hw:w.drew.alloc (.cells arr el)={ w.drew with heap:=w.heap.push (.cells arr el) }:=rfl
  have hh:(w.drew.alloc (.cells arr el)).heap=w.heap.push (.cells arr el):=rfl
  obtain⟨r1,s1⟩:=nU (w':=w.drew.alloc (.cells arr el)) rel (g:=g) (x':=.row 0 5 64 []) (ob':=some w.heap.size) (by rw[hh];simp) (fun b hb _=>nD w _ b hb) (fun b N h=>kQ w (.cells arr el) b N h) (fun v ob e=>by rw[hm] at e;cases e) (fun b e=>by cases e;exact .inr (Nat.le_refl _))
   ⟨_,by rw[hh];simp,by simp,arr,el,rfl,fun i h=>absurd h (by simp),by simp,fun i j hi=>absurd hi (by simp)⟩ ⟨rfl,rfl⟩
  refine⟨.ret (.row g 0 0 0 5),_,fr,_,⟨g,rfl,rfl⟩,?_,r1,s1⟩
  have:=kU (w':=w.drew.alloc (.cells arr el)) (fr:=fr) (m:=m) g w.heap.size 0 0 cap 5 (cap*5) 0 (Nat.zero_le _) (by unfold World.shape?;rw[hh];simp[hsz]) (by omega)
  rw[Nat.zero_mul] at this
  exact this
end Go.Proofs.YtbojdflgjpjbiaaGreat.L
namespace Go.Proofs.YtbojdflgjpjbiaaGreat.L
open Go
section
attribute [local irreducible] T TL
set_option maxRecDepth 10000
set_option maxHeartbeats 4000000
abbrev eTS (l:List Ty):List PV:=[TS l]
abbrev TSS (ls:List (List Ty)):PV:=.list 24 (ls.map eTS)
theorem zJ (ls:List (List Ty)) (hl:ls.length≤1000) (ht:ls.flatten.length≤1000000):FnP PP 209 [TSS ls] (TS ls.flatten):=by
 refine cL (aJ aI Tryz.func209 rfl (by rfl) (by rfl) ?_)
 refine aF ?_;intros
 let A:Nat→List Ty:=fun i=>(ls.take i).flatten
 have hAl:∀ i,(A i).length≤1000000:=fun i=>by
  have:(A i).length≤ls.flatten.length:=by
   have h1:ls.flatten=A i++(ls.drop i).flatten:=by simp only[A];rw[← List.flatten_append,List.take_append_drop]
   rw[h1,List.length_append];omega
  omega
 have hA:∀ i (h:i<ls.length),A (i+1)=A i++ls[i]:=fun i h=>by simp only[A];rw[List.take_succ_eq_append_getElem h,List.flatten_append];simp
 refine aU (aY (α:=Nat) (inv:=fun i=>i≤ls.length) (tm:=fun i=>gF 36 [(0,TSS ls),(3,.int .i64 (A i).length),(9,TSS ls),(10,.int .i64 ls.length),(11,.int .i64 i)]) (st:=fun _=>E) (μ:=fun i=>ls.length - i) 0 (by omega) ?_ (aM _) ?_)
 ·repeat' (first | exact trivial | exact rfl | refine And.intro ?_ ?_)
  simp
 intro i hi
 have h1:=hAl i
 refine aF ?_;intros
 refine fC (fun hc=>?_) (fun hc=>?_)
 ·have hil:i<ls.length:=by omega
  have h2:=hAl (i+1)
  have h3:=hA i hil
  have h4:(A (i+1)).length=(A i).length+ls[i].length:=by rw[h3,List.length_append]
  refine aF ?_;intros
  refine⟨i+1,by omega,by omega,?_,aM _⟩
  repeat' (first | exact trivial | exact rfl | refine And.intro ?_ ?_)
  show PV.int .i64 _=PV.int .i64 _
  rw[h4];simp
 ·have e:i=ls.length:=by omega
  subst e
  have hAll:A ls.length=ls.flatten:=by simp only[A];rw[List.take_length]
  refine aF ?_;intros
  refine aV (grow_spec (A ls.length).length (by omega)) (aB _) ?_
  rintro o S' ⟨g,rfl,rfl⟩ -
  unfold dR
  rw[cW]
  let st:Nat→aD:=fun i=>aK E g (.row i 5 64 ((A i).map eT))
  have hst0:aK E g (.row 0 5 64 [])=st 0:=by simp only[st,A];rw[List.take_zero];rfl
  rw[hst0]
  refine aF ?_;intros
  refine aU (aY (α:=Nat) (inv:=fun i=>i≤ls.length) (tm:=fun i=>gF 36 [(6,.row g i 0 (A i).length 5),(25,TSS ls),(26,.int .i64 ls.length),(27,.int .i64 i)]) (st:=st) (μ:=fun i=>ls.length - i) 0 (by omega) ?_ (aB _) ?_)
  ·repeat' (first | exact trivial | exact rfl | refine And.intro ?_ ?_)
   simp
  intro i hi
  have hS:st i g=some (.row i 5 64 ((A i).map eT)):=aA _ _ _
  have h1:=hAl i
  refine aF ?_;intros
  refine fC (fun hc=>?_) (fun hc=>?_)
  ·have hil:i<ls.length:=by omega
   have h2:=hAl (i+1)
   have h3:=hA i hil
   have h4:(A (i+1)).length=(A i).length+ls[i].length:=by rw[h3,List.length_append]
   refine aF ?_;intros
   refine⟨i+1,by omega,by omega,?_,?_⟩
   ·repeat' (first | exact trivial | exact rfl | refine And.intro ?_ ?_)
    rw[h4];simp
   ·refine fE ?_
    rw[aA,h3,List.map_append]
  ·have e:i=ls.length:=by omega
   subst e
   rw[hAll] at hS ⊢
   refine aF ?_;intros
   exact⟨_,aB _,aO.freeze hS (eQ (List.length_map _).symm) (aO.weak (aM _) (aO.same ⟨rfl,rfl⟩))⟩
end
end Go.Proofs.YtbojdflgjpjbiaaGreat.L
