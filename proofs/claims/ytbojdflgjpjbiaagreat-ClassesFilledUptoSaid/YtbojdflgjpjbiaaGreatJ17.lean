/- A logic over the machine, and what the functions of the seat come to: part 17. No claim stands here; the theorems are used by the row. -/
import Derived.Test.YtbojdflgjpjbiaaGreatJ5
import Derived.Test.YtbojdflgjpjbiaaGreatJ14
import Derived.Test.YtbojdflgjpjbiaaGreatJ16
set_option linter.unusedSimpArgs false
set_option linter.unnecessarySimpa false
set_option linter.unusedVariables false
namespace Go.Proofs.YtbojdflgjpjbiaaGreat.L
open Go
section
set_option maxRecDepth 10000
mutual
def kH:Ty→Prop
 | .mk _ _ lo hi a=>(tZ≤lo∧hi≤iB)∧numBs a
def numBs:List Ty→Prop
 | []=>True
 | t::l=>kH t∧numBs l
end
theorem numBs_iff:∀ l:List Ty,numBs l↔∀ t∈l,kH t
 | []=>by simp[numBs]
 | t::l=>by simp[numBs,numBs_iff l]
theorem numB_eq (t:Ty):kH t↔(tZ≤t.lo∧t.hi≤iB)∧∀ u∈t.args,kH u:=by
 cases t;rw[kH,numBs_iff];rfl
theorem xL.kind {p:cI} (h:xL p) (void:ByteArray→Bool) (b:ByteArray):xL (dY void p (classT b)):=by
 unfold dY
 split
 ·exact⟨fun t ht=>by
   rcases List.mem_append.1 ht with ht | ht
   ·exact h.i t ht
   ·rw[List.mem_singleton] at ht;subst ht;exact⟨by decide,by decide,by decide⟩,h.m,h.k⟩
 split
 ·exact⟨h.i,h.m,h.k⟩
 split
 ·exact h
 ·exact⟨h.i,h.m,fun t ht=>by
   rcases List.mem_append.1 ht with ht | ht
   ·exact h.k t ht
   ·rw[List.mem_singleton] at ht;subst ht;rfl⟩
theorem addTs_norm (void:ByteArray→Bool):∀ (a:List Ty),(∀ u∈a,∀ p,xL p→xL (rL void p u))→∀ p,xL p→xL (nW void p a)
 | [],_,p,hp=>by rw[nW];exact hp
 | u::a,h,p,hp=>by
  rw[nW]
  exact addTs_norm void a (fun v hv=>h v (List.mem_cons_of_mem _ hv)) _ (h u List.mem_cons_self p hp)
theorem args_nil {t:Ty} (h:t.args.length=0):t.args=[]:=List.length_eq_zero_iff.1 h
theorem norm_add (void hc:ByteArray→Bool):∀ t:Ty,zC hc t=true→kH t→∀ p,xL p→xL (rL void p t):=by
 refine Ty.ind fun t ih hf hi p hp=>?_
 rw[vS,Bool.and_eq_true] at hf
 obtain⟨hf,ha⟩:=hf
 rw[numB_eq] at hi
 rw[addT_eq]
 split
 ·exact addTs_norm void t.args (fun u hu=>ih u hu (List.all_eq_true.1 ha u hu) (hi.2 u hu)) p hp
 rename_i h5
 unfold oF
 unfold lB at hf
 by_cases h1:t.kind=1
 ·rw[if_pos h1]
  rw[if_pos (.inl h1)] at hf
  simp only[Bool.and_eq_true,decide_eq_true_eq] at hf
  have e:t=classT t.name:=by rw[Ty.eta t,h1,hf.1.1.2,hf.1.2,args_nil hf.2];rfl
  rw[e];exact hp.kind void _
 rw[if_neg h1]
 by_cases h2:t.kind=2
 ·rw[if_pos h2]
  rw[if_neg (by omega),if_pos h2] at hf
  simp only[Bool.and_eq_true,decide_eq_true_eq] at hf
  exact⟨fun u hu=>by
   rcases List.mem_append.1 hu with hu | hu
   ·exact hp.i u hu
   ·rw[List.mem_singleton] at hu;subst hu;exact⟨hf.1.1,hi.1.1,hi.1.2⟩,hp.m,hp.k⟩
 rw[if_neg h2]
 by_cases h3:t.kind=3
 ·rw[if_pos h3]
  split <;> exact⟨hp.i,hp.m,hp.k⟩
 rw[if_neg h3]
 by_cases h4:t.kind=4
 ·rw[if_pos h4]
  split
  ·exact hp.kind void _
  ·rw[if_pos (.inr h4)] at hf
   simp only[Bool.and_eq_true,decide_eq_true_eq] at hf
   have e:t=metaT t.name:=by rw[Ty.eta t,h4,hf.1.1.2,hf.1.2,args_nil hf.2];rfl
   exact⟨hp.i,fun u hu=>by
    rcases List.mem_append.1 hu with hu | hu
    ·exact hp.m u hu
    ·rw[List.mem_singleton] at hu;subst hu;exact e,hp.k⟩
 ·rw[if_neg h4];exact hp
theorem norm_parts (void hc:ByteArray→Bool) (t:Ty) (hf:zC hc t=true) (hi:kH t):xL (rL void ⟨[],[],[],false,false⟩ t):=
 norm_add void hc t hf hi _ ⟨fun _ h=>by simp at h,fun _ h=>by simp at h,fun _ h=>by simp at h⟩
variable {l:List ClassI} {n:pY} {B:aD}
theorem piecesH (hh:Hier l) (k:n.Ok) (o:Off n B) (t:Ty) (hfm:zC (lI l) t=true) (hsz:t.cnt≤50000) (hi:kH t):FnH l n B 178 [hp n,TV t] (TS (fZ l t)):=
 (pieces_spec hh k t hfm hsz (norm_parts _ _ t hfm hi)).frame (Off.E n) o (aM _)
theorem joinS_args:∀ (l out:List Ty),(∀ t∈out,t.args=[])→∀ t∈qT out l,t.args=[]
 | [],out,h,t,ht=>h t (by simpa[qT] using ht)
 | u::l,out,h,t,ht=>by
  have key:∀ o',(∀ t∈o',Ty.args t=[])→∀ x:Ty,x.args=[]→∀ t∈qT (o'++[x]) l,t.args=[]:=fun o' ho' x hx=>joinS_args l _ fun t ht=>by
   rcases List.mem_append.1 ht with ht | ht
   ·exact ho' t ht
   ·rw[List.mem_singleton] at ht;subst ht;exact hx
  rw[qT] at ht
  cases e:out.getLast? with
  | none=>rw[e] at ht;exact key out h _ rfl t ht
  | some o=>
   rw[e] at ht
   dsimp only at ht
   split at ht
   ·exact key out.dropLast (fun t ht=>h t (List.dropLast_subset _ ht)) _ rfl t ht
   ·exact key out h _ rfl t ht
theorem insB_sub {α:Type} (lt:α→α→Bool) (x:α):∀ (l:List α) (t:α),t∈insB lt x l→t=x∨t∈l
 | [],t,h=>by simp[insB] at h;exact .inl h
 | y::l,t,h=>by
  rw[insB] at h
  split at h
  ·rcases List.mem_cons.1 h with h | h
   ·exact .inr (by simp[h])
   ·rcases insB_sub lt x l t h with h | h
    ·exact .inl h
    ·exact .inr (by simp[h])
  ·rcases List.mem_cons.1 h with h | h
   ·exact .inl h
   ·exact .inr h
theorem sortB_sub {α:Type} (lt:α→α→Bool):∀ (l:List α) (t:α),t∈pN lt l→t∈l
 | [],t,h=>by simp[pN] at h
 | x::l,t,h=>by
  rcases insB_sub lt x _ t h with h | h
  ·simp[h]
  ·exact List.mem_cons_of_mem _ (sortB_sub lt l t h)
theorem rW:∀ (l:List Ty) (t:Ty),t∈kD l→t∈l
 | [],t,h=>by simp[kD] at h
 | x::l,t,h=>by
  rw[kD] at h
  split at h
  ·exact List.mem_cons_of_mem _ (rW l t h)
  ·rcases List.mem_cons.1 h with h | h
   ·simp[h]
   ·exact List.mem_cons_of_mem _ (rW l t h)
theorem topL_sub (l:List ClassI) (k:List Ty) (t:Ty) (h:t∈jK l k):t∈k:=by
 have:=sortB_sub _ _ t (rW _ t h)
 exact (List.mem_filter.1 this).1
theorem pieces_args {p:cI} (h:xL p):∀ t∈nF l p,t.args=[]:=by
 intro t ht
 unfold nF at ht
 split at ht
 ·rw[List.mem_singleton] at ht;subst ht;rfl
 have hk:∀ t∈p.kinds,t.args=[]:=fun t ht=>by rw[h.k t ht];rfl
 have hm:∀ t∈p.metas,t.args=[]:=fun t ht=>by rw[h.m t ht];rfl
 simp only[List.mem_append] at ht
 rcases ht with ((ht | ht) | ht) | ht
 ·unfold wS at ht
  split at ht
  ·cases ht
  split at ht
  ·rw[List.mem_singleton] at ht;subst ht;rfl
  split at ht
  ·rw[List.mem_singleton] at ht;subst ht;rfl
  ·cases ht
 ·unfold jQ at ht
  split at ht
  ·cases ht
  ·exact joinS_args _ [] (by simp) t ht
 ·have ht:=topL_sub l _ t ht
  unfold aAd at ht
  split at ht
  ·cases ht
  ·exact hm t ht
 ·have ht:=topL_sub l _ t ht
  have h1:∀ t∈iC p,t.args=[]:=fun t ht=>by
   unfold iC at ht
   split at ht
   ·rcases List.mem_append.1 ht with ht | ht
    ·exact hk t ht
    ·rw[List.mem_singleton] at ht;subst ht;rfl
   ·exact hk t ht
  unfold gI at ht
  split at ht
  ·rcases List.mem_append.1 ht with ht | ht
   ·exact h1 t ht
   ·rw[List.mem_singleton] at ht;subst ht;rfl
  ·exact h1 t ht
theorem xK (t:Ty) (hc:ByteArray→Bool) (hf:zC hc t=true) (hi:kH t):∀ u∈fZ l t,u.args=[]:=by
 rw[piecesL_of];exact pieces_args (norm_parts _ _ t hf hi)
end
section
attribute [local irreducible] T TL
set_option maxRecDepth 10000
set_option maxHeartbeats 4000000
variable {l:List ClassI} {n:pY} {B:aD} {ys:List Ty} {gm:Nat}
theorem covers_spec (k:n.Ok) (o:Off n B) (x y:Ty) (hx:x.args=[]) (hy:y.args=[]) (bx bh:Nat) (h1:B bx=some (.row 0 5 0 [eT x])) (h2:B bh=some (.row 0 1 0 [[hp n]])) :
  FnQ l n B 212 [TV y,.ptr bx 0 0 0 5,.ptr bh 0 0 0 1] (.bool (coverB l x y)):=by
 intro s
 haveI:∀ m:ByteArray,cH 213 [TV y,.str m] (.bool (decide (y.kind=1) && decide (y.name=m))):=fun m=>⟨isClass_spec y m⟩
 haveI:cH 204 [TV x,TV y] (.bool (sameT x y)):=⟨eqT_spec x y hx hy⟩
 refine aJ aI Tryz.func212 rfl (by rfl) (by rfl) ?_
 refine aF ?_;intros
 refine jO o fun b1 g1 o1 k1=>?_
 have e1:=aE (y:=.row 0 (eT y).length 0 [eT y]) h1 g1
 have e2:=aE (y:=.row 0 (eT y).length 0 [eT y]) h2 g1
 have k1':=kF o1 (s:=s) e1
 have k2':=kF o1 (s:=s) e2
 have fin:∀ v w:Bool,v=w→∃ S',bV (bC (HK l n s) (aK B b1 (.row 0 (eT y).length 0 [eT y]))) S'∧(iY.ret (.bool v)=.ret (.bool w)∧S'=bC (HK l n s) B):=fun v w e=>⟨_,dH (aR g1),by rw[e],rfl⟩
 have cov:coverB l x y=((decide (y.kind=1) && decide (y.name=aP)) || sameT x y || (if x.kind=2 then (decide (y.kind=2) && decide (y.lo≤x.lo) && decide (x.hi≤y.hi)) || (decide (y.kind=1) && decide (y.name=cS))
 else if x.kind=3 then decide (y.kind=1) && decide (y.name=dX)
 else if x.kind=4 then (decide (y.kind=4) && jR l x.name y.name) || (decide (y.kind=1) && decide (y.name=iK))
 else decide (y.kind=1) && jR l x.name y.name)):=rfl
 have below:∀ a b:ByteArray,Fn PP 195 [hp n,.str a,.str b] (bC (HK l n s) (aK B b1 (.row 0 (eT y).length 0 [eT y]))) fun o S'=>o=.ret (.bool (jR l a b))∧S'=bC (HK l n s) (aK B b1 (.row 0 (eT y).length 0 [eT y])):=fun a b=>belowQ k a b s
 clear e1 e2 h1 h2
 refine aF ?_;intros
 refine And.intro (fun q0=>?_) (fun q0=>?_)
 rotate_left
 ·have q0:(decide (y.kind=1) && decide (y.name=aP))=true:=q0
  refine aF ?_;intros
  exact fin _ _ (by rw[cov,q0];rfl)
 have q0:(decide (y.kind=1) && decide (y.name=aP))=false:=q0
 rw[q0,Bool.false_or] at cov
 refine aF ?_;intros
 refine And.intro (fun q1=>?_) (fun q1=>?_)
 ·refine aF ?_;intros
  exact fin _ _ (by rw[cov,q1];rfl)
 rw[q1,Bool.false_or] at cov
 refine aF ?_;intros
 refine fC (fun c2=>?_) (fun c2=>?_)
 ·rw[if_pos c2] at cov
  refine aF ?_;intros
  refine And.intro (fun a1=>?_) (fun a1=>?_)
  ·refine aF ?_;intros
   refine And.intro (fun a2=>?_) (fun a2=>?_)
   ·refine aF ?_;intros
    refine And.intro (fun a3=>?_) (fun a3=>?_)
    ·refine aF ?_;intros
     exact fin _ _ (by rw[cov,a1,a2,a3];rfl)
    ·refine aF ?_;intros
     exact fin _ _ (by rw[cov,a1,a2,a3];rfl)
   ·refine aF ?_;intros
    exact fin _ _ (by rw[cov,a1,a2];rfl)
  ·refine aF ?_;intros
   exact fin _ _ (by rw[cov,a1];rfl)
 rw[if_neg c2] at cov
 refine aF ?_;intros
 refine fC (fun c3=>?_) (fun c3=>?_)
 ·rw[if_pos c3] at cov
  refine aF ?_;intros
  exact fin _ _ (by rw[cov];rfl)
 rw[if_neg c3] at cov
 refine aF ?_;intros
 refine fC (fun c4=>?_) (fun c4=>?_)
 ·rw[if_pos c4] at cov
  refine aF ?_;intros
  refine And.intro (fun a1=>?_) (fun a1=>?_)
  ·refine aF ?_;intros
   refine bN (below _ _) (aB _) ?_
   refine aF ?_;intros
   refine And.intro (fun a2=>?_) (fun a2=>?_)
   ·refine aF ?_;intros
    exact fin _ _ (by rw[cov,a1,a2];rfl)
   ·refine aF ?_;intros
    exact fin _ _ (by rw[cov,a1,a2];rfl)
  ·refine aF ?_;intros
   exact fin _ _ (by rw[cov,a1];rfl)
 rw[if_neg c4] at cov
 refine aF ?_;intros
 refine And.intro (fun a1=>?_) (fun a1=>?_)
 ·refine aF ?_;intros
  refine bN (below _ _) (aB _) ?_
  refine aF ?_;intros
  exact fin _ _ (by rw[cov,a1];rfl)
 ·refine aF ?_;intros
  exact fin _ _ (by rw[cov,a1];rfl)
end
section
attribute [local irreducible] T TL
set_option maxRecDepth 10000
set_option maxHeartbeats 4000000
variable {l:List ClassI} {n:pY} {B:aD} {ys:List Ty} {gm:Nat}
def subsCov (l:List ClassI) (ys:List Ty) (b:ByteArray):Bool:=(gV l b).all fun s=>iE l ys (classT s)
structure CSt (l:List ClassI) (ys:List Ty) where
 s:Memo l
 M:MK→Option PV
 hM:∀ b p,M (.s b)=some p→p=.bool (subsCov l ys b)
def yP (n:pY) (gm:Nat) (B:aD) (c:CSt l ys):aD:=bC (HK l n c.s) (aK B gm (.map true c.M))
structure aAb (n:pY) (gm:Nat) (B:aD):Prop where
 o:Off n B
 a:gm≠n.ga
 c:gm≠n.gc
 v:gm≠n.gv
 h:gm≠n.gh
theorem aAb.off (o:aAb n gm B) (x:AO):Off n (aK B gm x):=⟨by rw[aC (Ne.symm o.a)];exact o.o.a,by rw[aC (Ne.symm o.c)];exact o.o.c,by rw[aC (Ne.symm o.v)];exact o.o.v,by rw[aC (Ne.symm o.h)];exact o.o.h⟩
theorem newW_C {c:CSt l ys} {x:AO} {k:Nat→aD→Prop} (o:aAb n gm B) (h:∀ g,B g=none→g≠gm→aAb n gm (aK B g x)→yP n gm (aK B g x) c g=some x→k g (yP n gm (aK B g x) c)):rJ (yP n gm B c) x k:=
 aG fun g hg=>by
  obtain⟨h1,h2⟩:=bL.1 hg
  obtain⟨ha,hc,hv,hh⟩:=cM.1 h1
  obtain⟨e,h2⟩:=tC.1 h2
  have e1:aK (yP n gm B c) g x=yP n gm (aK B g x) c:=by
   unfold yP
   rw[cF h1,cK (Ne.symm e)]
  rw[e1]
  have off:aAb n gm (aK B g x):=⟨⟨by rw[aC (Ne.symm ha)];exact o.o.a,by rw[aC (Ne.symm hc)];exact o.o.c,by rw[aC (Ne.symm hv)];exact o.o.v,by rw[aC (Ne.symm hh)];exact o.o.h⟩,o.a,o.c,o.v,o.h⟩
  refine h g h2 e off ?_
  unfold yP
  rw[gU h1,aC e,aA]
theorem nV (o:aAb n gm B) {g:Nat} {x:AO} (e:g≠gm) (h:B g=some x) (c:CSt l ys):yP n gm B c g=some x:=by
 unfold yP
 exact kF (o.off _) (by rw[aC e];exact h)
theorem stC_m (o:aAb n gm B) (c:CSt l ys):yP n gm B c gm=some (.map true c.M):=by
 unfold yP
 exact kF (o.off _) (aA _ _ _)
theorem stC_h (o:aAb n gm B) (c:CSt l ys):yP n gm B c n.gh=some (.row 0 4 0 [[CS l,.map n.ga,.map n.gc,.map n.gv]]):=by
 unfold yP
 exact sE
theorem FnH.toC {f:Nat} {args:List PV} {v:PV} (h:∀ x,FnH l n (aK B gm x) f args v):FnS (yP (l:=l) (ys:=ys) n gm B) f args v:=fun c=>fO (h _ c.s) fun o S' ⟨s',h1,h2⟩=>⟨⟨s',c.M,c.hM⟩,h1,h2⟩
theorem sle_upd_m {B B':aD} {x:AO} (h:bV B B'):bV (aK B gm x) (aK B' gm x):=fun g y hy=>by
 by_cases e:g=gm
 ·subst e;rw[aA] at hy ⊢;exact hy
 ·rw[aC e] at hy ⊢;exact h g y hy
theorem covered_spec (hh:Hier l) (k:n.Ok) (hys:∀ y∈ys,y.args=[]):∀ (r:Nat) (x:Ty),pA l x.name=r→x.args=[]→∀ B,aAb n gm B→FnS (yP (l:=l) (ys:=ys) n gm B) 181 [hp n,TV x,TS ys,.map gm] (.bool (iE l ys x)):=by
 intro r
 induction r using Nat.strongRecOn with
 | _ r ih=>
 intro x hr hx B o c
 have hl:l.length≤1000:=by have:=hh.len;omega
 have h0:0<l.length:=by have:=hh.lo;omega
 have hclos:∀ (C:aD) (b1 b2 b3 b4:Nat),aAb n gm C→b1≠gm→b2≠gm→b3≠gm→b4≠gm→C b1=some (.row 0 1 0 [[hp n]])→C b2=some (.row 0 5 0 [eT x])→C b3=some (.row 0 1 0 [[TS ys]])→C b4=some (.row 0 1 0 [[.map gm]]) →
   FnS (yP (l:=l) (ys:=ys) n gm C) 216 [.ptr b1 0 0 0 1,.ptr b2 0 0 0 5,.ptr b3 0 0 0 1,.ptr b4 0 0 0 1] (.bool (subsCov l ys x.name)):=by
  intro C b1 b2 b3 b4 oc n1 n2 n3 n4 e1 e2 e3 e4 c
  have hsub:∀ s∈gV l x.name,FnS (yP (l:=l) (ys:=ys) n gm C) 218 ([]++[.str s]++[.ptr b1 0 0 0 1,.ptr b3 0 0 0 1,.ptr b4 0 0 0 1]) (.bool (!iE l ys (classT s))):=by
   intro s hs c
   have k1:=nV oc n1 e1 c
   have k3:=nV oc n3 e3 c
   have k4:=nV oc n4 e4 c
   refine aJ aI Tryz.func218 rfl (by rfl) (by rfl) ?_
   refine aF ?_;intros
   refine aU (aT aI (by rfl) 5 (by decide) ?_)
   refine aF ?_;intros
   refine fA (ih _ (by rw[← hr];exact jZ hh hs) (classT s) rfl rfl C oc) fun c'=>?_
   refine aF ?_;intros
   exact⟨_,aB _,c',rfl,rfl⟩
  have k1:=nV oc n1 e1 c
  have k2:=nV oc n2 e2 c
  refine aJ aI Tryz.func216 rfl (by rfl) (by rfl) ?_
  refine aF ?_;intros
  refine fA (FnH.toC fun y=>yB k hl (oc.off y) x.name) fun c1=>?_
  refine aF ?_;intros
  refine fA (mQ (gV l x.name) 218 [] [.ptr b1 0 0 0 1,.ptr b3 0 0 0 1,.ptr b4 0 0 0 1] (fun s=>!iE l ys (classT s)) hsub) fun c2=>?_
  refine aF ?_;intros
  refine⟨_,aB _,c2,?_,rfl⟩
  unfold subsCov
  have:((gV l x.name).any fun s=>!iE l ys (classT s))=!((gV l x.name).all fun s=>iE l ys (classT s)):=by rw[← List.not_all_eq_any_not]
  rw[this,Bool.not_not]
 refine aJ aI Tryz.func181 rfl (by rfl) (by rfl) ?_
 have kh:=stC_h o c
 refine aF ?_;intros
 refine newW_C o fun b1 h1 n1 o1 k1=>?_
 refine aF ?_;intros
 refine newW_C o1 fun b2 h2 n2 o2 k2=>?_
 refine aF ?_;intros
 refine newW_C o2 fun b3 h3 n3 o3 k3=>?_
 have km:=stC_m o3 c
 refine aF ?_;intros
 refine newW_C o3 fun b4 h4 n4 o4 k4=>?_
 obtain⟨C,hC⟩:∃ C:aD,C=aK (aK (aK (aK B b1 (.row 0 [hp n].length 0 [[hp n]])) b2 (.row 0 (eT x).length 0 [eT x])) b3 (.row 0 [TS ys].length 0 [[TS ys]])) b4 (.row 0 [PV.map gm].length 0 [[PV.map gm]]):=⟨_,rfl⟩
 have e1:C b1=some (.row 0 1 0 [[hp n]]):=by rw[hC];exact aE (aE (aE (aA _ _ _) h2) h3) h4
 have e2:C b2=some (.row 0 5 0 [eT x]):=by rw[hC];exact aE (aE (aA _ _ _) h3) h4
 have e3:C b3=some (.row 0 1 0 [[TS ys]]):=by rw[hC];exact aE (aA _ _ _) h4
 have e4:C b4=some (.row 0 1 0 [[.map gm]]):=by rw[hC];exact aA _ _ _
 have hs4:bV C B:=by rw[hC];exact (aR h4).trans ((aR h3).trans ((aR h2).trans (aR h1)))
 rw[← hC] at o4 k4 ⊢
 clear hC k1 k2 k3 k4 km kh h1 h2 h3 h4 o1 o2 o3
 have k1:=fun c=>nV (l:=l) (ys:=ys) o4 n1 e1 c
 have k2:=fun c=>nV (l:=l) (ys:=ys) o4 n2 e2 c
 have k3:=fun c=>nV (l:=l) (ys:=ys) o4 n3 e3 c
 have k4:=fun c=>nV (l:=l) (ys:=ys) o4 n4 e4 c
 have k1c:=k1 c
 have k2c:=k2 c
 have k3c:=k3 c
 have k4c:=k4 c
 refine aF ?_;intros
 have hB:∀ v w:Bool,v=w→∀ c':CSt l ys,∃ S',bV (yP n gm C c') S'∧∃ s',iY.ret (.bool v)=.ret (.bool w)∧S'=yP (l:=l) (ys:=ys) n gm B s':=fun v w e c'=>⟨yP n gm B c',dH (sle_upd_m hs4),c',by rw[e],rfl⟩
 have cov:=coveredB_eq hh ys x
 refine fA (kI ys 212 [] [.ptr b2 0 0 0 5,.ptr b1 0 0 0 1] (coverB l x) (fun y hy=>FnH.toC fun m=>(covers_spec k (o4.off m) x y hx (hys y hy) b2 b1 (by rw[aC n2];exact e2) (by rw[aC n1];exact e1)).toH)) fun c1=>?_
 have k1c:=k1 c1
 have k2c:=k2 c1
 have k3c:=k3 c1
 have k4c:=k4 c1
 refine aF ?_;intros
 refine And.intro (fun q1=>?_) (fun q1=>?_)
 ·refine aF ?_;intros
  exact hB _ _ (by rw[cov,q1];rfl) c1
 rw[q1,Bool.false_or] at cov
 refine aF ?_;intros
 refine And.intro (fun a1=>?_) (fun a1=>?_)
 rotate_left
 ·refine aF ?_;intros
  exact hB _ _ (by rw[cov,show decide (x.kind=1)=false by simpa using a1];rfl) c1
 rw[show decide (x.kind=1)=true by simpa using a1,Bool.true_and] at cov
 refine aF ?_;intros
 refine fA (FnH.toC fun m=>zG hh k _ x.name rfl _ (o4.off m)) fun c2=>?_
 have k1c:=k1 c2
 have k2c:=k2 c2
 have k3c:=k3 c2
 have k4c:=k4 c2
 refine aF ?_;intros
 refine And.intro (fun a2=>?_) (fun a2=>?_)
 rotate_left
 ·refine aF ?_;intros
  exact hB _ _ (by rw[cov,show closedC l x.name=false by simpa using a2];rfl) c2
 rw[show closedC l x.name=true by simpa using a2,Bool.true_and] at cov
 refine aF ?_;intros
 refine fA (FnH.toC fun m=>vJ k h0 x.name) fun c3=>?_
 have k1c:=k1 c3
 have k2c:=k2 c3
 have k3c:=k3 c3
 have k4c:=k4 c3
 refine aF ?_;intros
 refine And.intro (fun a3=>?_) (fun a3=>?_)
 ·refine aF ?_;intros
  exact hB _ _ (by rw[cov,show absC l x.name=false by simpa using a3];rfl) c3
 rw[show absC l x.name=true by simpa using a3,Bool.true_and] at cov
 have km:=stC_m (l:=l) (ys:=ys) o4 c3
 refine aF ?_;intros
 have hadd:∀ c:CSt l ys,∃ c':CSt l ys,aK (yP n gm C c) gm (.map true (fD c.M (.s x.name) (.bool (subsCov l ys x.name))))=yP n gm C c':=fun c=>by
  refine⟨⟨c.s,fD c.M (.s x.name) (.bool (subsCov l ys x.name)),memo_add (l:=l) c.hM x.name⟩,?_⟩
  unfold yP
  rw[cF (cM.2 ⟨o4.a,o4.c,o4.v,o4.h⟩),aN]
 refine fA (rem_spec (yP n gm C) gm (fun c:CSt l ys=>c.M) x.name (subsCov l ys x.name) 216 [.ptr b1 0 0 0 1,.ptr b2 0 0 0 5,.ptr b3 0 0 0 1,.ptr b4 0 0 0 1] (fun c=>stC_m o4 c) (fun c p h=>c.hM x.name p h) (hclos C b1 b2 b3 b4 o4 n1 n2 n3 n4 e1 e2 e3 e4) hadd) fun c4=>?_
 refine aF ?_;intros
 exact hB _ _ (by rw[cov];rfl) c4
end
section
attribute [local irreducible] T TL
set_option maxRecDepth 10000
set_option maxHeartbeats 4000000
variable {l:List ClassI} {n:pY} {B:aD} {ys:List Ty} {gm:Nat}
theorem subx_spec (hh:Hier l) (k:n.Ok) (hys:∀ y∈ys,y.args=[]) (C:aD) (b1 b7 b8:Nat) (o:aAb n gm C) (n1:b1≠gm) (n7:b7≠gm) (n8:b8≠gm)
  (e1:C b1=some (.row 0 1 0 [[hp n]])) (e7:C b7=some (.row 0 1 0 [[TS ys]])) (e8:C b8=some (.row 0 1 0 [[.map gm]])) (x:Ty) (hx:x.args=[]) :
  FnS (yP (l:=l) (ys:=ys) n gm C) 180 [TV x,.ptr b1 0 0 0 1,.ptr b7 0 0 0 1,.ptr b8 0 0 0 1] (.bool (!iE l ys x)):=by
 intro c
 refine aJ aI Tryz.func180 rfl (by rfl) (by rfl) ?_
 refine aF ?_;intros
 refine newW_C o fun b h nb ob kb=>?_
 have k1:=nV (l:=l) (ys:=ys) ob n1 (aE e1 h) c
 have k7:=nV (l:=l) (ys:=ys) ob n7 (aE e7 h) c
 have k8:=nV (l:=l) (ys:=ys) ob n8 (aE e8 h) c
 refine aF ?_;intros
 refine fA (covered_spec hh k hys _ x rfl hx _ ob) fun c'=>?_
 refine aF ?_;intros
 exact⟨_,dH (sle_upd_m (aR h)),c',rfl,rfl⟩
theorem Off.none (o:Off n B) {s:Memo l} {g:Nat} {x:AO} (h:B g=some x):HK l n s g=none:=by
 cases e:HK l n s g with
 | none=>rfl
 | some y=>have:=HK_Dj o s g y e;rw[h] at this;cases this
theorem HK_set (o:Off n B) {s:Memo l} {g:Nat} {x y:AO} (h:B g=some x):aK (bC (HK l n s) B) g y=bC (HK l n s) (aK B g y):=cF (o.none h)
theorem sub_spec (hh:Hier l) (k:n.Ok) (o:Off n B) (a b:Ty) (ha:zC (lI l) a=true) (ca:a.cnt≤50000) (na:kH a) (hb:zC (lI l) b=true) (cb:b.cnt≤50000) (nb:kH b):FnH l n B 144 [hp n,TV a,TV b] (.bool (subB l a b)):=by
 intro s
 refine aJ aI Tryz.func144 rfl (by rfl) (by rfl) ?_
 have kh:=sE (l:=l) (n:=n) (B:=B) (s:=s)
 refine aF ?_;intros
 refine jO o fun b1 h1 o1 k1=>?_
 refine aF ?_;intros
 refine jO o1 fun b2 h2 o2 k2=>?_
 refine aF ?_;intros
 refine jO o2 fun b3 h3 o3 k3=>?_
 obtain⟨C,hC⟩:∃ C:aD,C=aK (aK (aK B b1 (.row 0 [hp n].length 0 [[hp n]])) b2 (.row 0 (eT a).length 0 [eT a])) b3 (.row 0 (eT b).length 0 [eT b]):=⟨_,rfl⟩
 have e1:C b1=some (.row 0 1 0 [[hp n]]):=by rw[hC];exact aE (aE (aA _ _ _) h2) h3
 have e2:C b2=some (.row 0 5 0 [eT a]):=by rw[hC];exact aE (aA _ _ _) h3
 have e3:C b3=some (.row 0 5 0 [eT b]):=by rw[hC];exact aA _ _ _
 have hsC:bV C B:=by rw[hC];exact (aR h3).trans ((aR h2).trans (aR h1))
 rw[← hC] at o3 ⊢
 clear hC k1 k2 k3 kh h1 h2 h3 o1 o2
 have q1:=kF o3 (s:=s) e1
 have q2:=kF o3 (s:=s) e2
 have q3:=kF o3 (s:=s) e3
 refine aF ?_;intros
 refine jG (piecesH hh k o3 b hb cb nb) fun s1=>?_
 have q1:=kF o3 (s:=s1) e1
 have q2:=kF o3 (s:=s1) e2
 refine aF ?_;intros
 refine jO o3 fun b7 h7 o7 k7=>?_
 refine aF ?_;intros
 rw[HK_set o7 (aA _ _ _),aN]
 have o7':Off n (aK C b7 (.row 0 1 0 [[TS (fZ l b)]])):=by have:=o7.set (x:=.row 0 1 0 [[TS (fZ l b)]]) (aA _ _ _);rw[aN] at this;exact this
 refine jO o7' fun gm hm om km=>?_
 refine aF ?_;intros
 refine jO om fun b8 h8 o8 k8=>?_
 have n8:b8≠gm:=aL (aA _ _ _) h8
 have km:bC (HK l n s1) (aK (aK (aK C b7 (.row 0 1 0 [[TS (fZ l b)]])) gm (.map true fun _=>none)) b8 (.row 0 (aH GT 240).size 0 [(aH GT 240).zero])) gm=some (.map true fun _=>none):=kF o8 (aE (aA _ _ _) h8)
 refine aF ?_;intros
 rw[HK_set o8 (aA _ _ _),aN]
 generalize hC2:aK (aK (aK C b7 _) gm _) b8 _=C2
 have f8:C2 b8=some (.row 0 1 0 [[.map gm]]):=by rw[← hC2];exact aA _ _ _
 have fm:C2 gm=some (.map true fun _=>none):=by rw[← hC2,aC (Ne.symm n8)];exact aA _ _ _
 have n7:b7≠gm:=fun e=>by subst e;rw[aA] at hm;cases hm
 have n1:b1≠gm:=fun e=>by subst e;rw[aE e1 h7] at hm;cases hm
 have f7:C2 b7=some (.row 0 1 0 [[TS (fZ l b)]]):=by rw[← hC2];exact aE (aE (aA _ _ _) hm) h8
 have f1:C2 b1=some (.row 0 1 0 [[hp n]]):=by rw[← hC2];exact aE (aE (aE e1 h7) hm) h8
 have f2:C2 b2=some (.row 0 5 0 [eT a]):=by rw[← hC2];exact aE (aE (aE e2 h7) hm) h8
 have oC2:Off n C2:=by
  have:=o8.set (x:=.row 0 1 0 [[PV.map gm]]) (aA _ _ _)
  rw[aN] at this
  rw[← hC2];exact this
 have hsC2:bV C2 B:=by
  rw[← hC2]
  exact (aR h8).trans ((aR hm).trans ((aR h7).trans hsC))
 have nB:B gm=none:=by
  cases e:B gm with
  | none=>rfl
  | some y=>
   rw[aE (hsC gm y e) h7] at hm
   cases hm
 clear hC2 k7 k8 km hm h7 h8 om o7 o8
 have q1:=kF oC2 (s:=s1) f1
 have q2:=kF oC2 (s:=s1) f2
 have q7:=kF oC2 (s:=s1) f7
 have q8:=kF oC2 (s:=s1) f8
 refine aF ?_;intros
 refine jG (piecesH hh k oC2 a ha ca na) fun s2=>?_
 have q1:=kF oC2 (s:=s2) f1
 have q7:=kF oC2 (s:=s2) f7
 have q8:=kF oC2 (s:=s2) f8
 refine aF ?_;intros
 have oM:aAb n gm C2:=by
  have hn:=cM.1 (oC2.none (s:=s2) fm)
  exact⟨oC2,hn.1,hn.2.1,hn.2.2.1,hn.2.2.2⟩
 let c0:CSt l (fZ l b):=⟨s2,fun _=>none,fun _ _ h=>by cases h⟩
 have hst:yP n gm C2 c0=bC (HK l n s2) C2:=by
  unfold yP
  rw[show aK C2 gm (.map true c0.M)=C2 from ?_]
  funext g
  by_cases e:g=gm
  ·subst e;rw[aA,fm]
  ·rw[aC e]
 rw[← hst]
 refine fA (kI (fZ l a) 180 [] [.ptr b1 0 0 0 1,.ptr b7 0 0 0 1,.ptr b8 0 0 0 1] (fun x=>!iE l (fZ l b) x) (fun x hx=>subx_spec hh k (xK b _ hb nb) C2 b1 b7 b8 oM n1 n7 n8 f1 f7 f8 x (xK a _ ha na x hx))) fun c'=>?_
 refine aF ?_;intros
 refine⟨bC (HK l n c'.s) B,dH (fun g y hy=>?_),c'.s,?_,rfl⟩
 ·by_cases e:g=gm
  ·subst e;rw[nB] at hy;cases hy
  ·rw[aC e];exact hsC2 g y hy
 ·unfold subB
  have:((fZ l a).any fun x=>!iE l (fZ l b) x)=!((fZ l a).all fun x=>iE l (fZ l b) x):=by rw[← List.not_all_eq_any_not]
  rw[this,Bool.not_not]
theorem xI {l:List ClassI} {t:Ty} (h:iO l t=0):zC (lI l) t=true∧t.cnt≤50000:=by
 unfold iO at h
 split at h
 ·rename_i h1;exact absurd h h1
 ·rename_i h1
  split at h
  ·rename_i h2
   refine⟨h2,?_⟩
   unfold yW at h1
   split at h1
   ·exact absurd h1 (by decide)
   ·split at h1
    ·exact absurd h1 (by decide)
    ·omega
  ·cases h
theorem callW_both {l:List ClassI} {a b:Ty} (ca:a.cnt<4611686018427387904) (cb:b.cnt<4611686018427387904) {S:aD} {kr kp:PV→aD→Prop} (h1:vI l a b=false→kr .nilp S) (h2:vI l a b=true→∀ n:pY,n.Ok→Off n S→kr (hp n) (bC (HK l n (Memo.nil l)) S)):kJ PP 143 [CS l,TV a,TV b] S kr kp:=by
 refine aV (both_spec l a b ca cb) (aM _) ?_
 rintro o S' (⟨hb,rfl,rfl⟩ | ⟨hb,n,k,rfl,rfl⟩) hdom
 ·unfold dR
  have:jD S E E=S:=by funext g;simp[jD,E]
  rw[this]
  exact h1 hb
 ·unfold dR
  rw[xM,nH]
  have off:∀ g x,HK l n (Memo.nil l) g=some x→S g=none:=fun g x hx=>by
   rcases hdom g (by rw[nH,hx];rfl) with h | h
   ·cases h
   ·exact h
  refine h2 hb n k ⟨?_,?_,?_,?_⟩
  ·have:=HK_a (l:=l) (B:=E) k (s:=Memo.nil l);rw[nH] at this;exact off _ _ this
  ·have:=HK_c (l:=l) (B:=E) k (s:=Memo.nil l);rw[nH] at this;exact off _ _ this
  ·have:=HK_v (l:=l) (B:=E) k (s:=Memo.nil l);rw[nH] at this;exact off _ _ this
  ·have:=sE (l:=l) (n:=n) (B:=E) (s:=Memo.nil l);rw[nH] at this;exact off _ _ this
theorem subT_spec (l:List ClassI) (a b:Ty) (ca:a.cnt<4611686018427387904) (na:kH a) (cb:b.cnt<4611686018427387904) (nb:kH b):FnP PP 103 [CS l,TV a,TV b] (.bool (subV l a b)):=by
 refine aJ aI Tryz.func103 rfl (by rfl) (by rfl) ?_
 refine aF ?_;intros
 refine aG fun b1 h1=>?_
 refine aF ?_;intros
 refine aG fun b2 h2=>?_
 refine aF ?_;intros
 refine callW_both ca cb (fun hb=>?_) (fun hb n k off=>?_)
 ·refine aF ?_;intros
  exact⟨E,aM _,by unfold subV;rw[hb];rfl,rfl⟩
 ·have hb0:=hb
  unfold vI at hb
  simp only[Bool.and_eq_true,decide_eq_true_eq] at hb
  obtain⟨⟨hl,va⟩,vb⟩:=hb
  have kh:=sE (l:=l) (n:=n) (B:=aK (aK E b1 (.row 0 (eT a).length 0 [eT a])) b2 (.row 0 (eT b).length 0 [eT b])) (s:=Memo.nil l)
  have k1:=kF off (s:=Memo.nil l) (aE (aA E b1 (.row 0 (eT a).length 0 [eT a])) h2)
  have k2:=kF off (s:=Memo.nil l) (aA (aK E b1 (.row 0 (eT a).length 0 [eT a])) b2 (.row 0 (eT b).length 0 [eT b]))
  refine aF ?_;intros
  refine jG (sub_spec (pR hl) k off a b (xI va).1 (xI va).2 na (xI vb).1 (xI vb).2 nb) fun s'=>?_
  refine aF ?_;intros
  exact⟨E,aM _,by unfold subV;rw[hb0];rfl,rfl⟩
end
section
attribute [local irreducible] T TL
set_option maxRecDepth 10000
set_option maxHeartbeats 4000000
theorem zI:∀ (c old pre:List PV) (k:List PV→Prop),old.length=c.length→lE (pre++old) pre.length c k=k (pre++c)
 | [],[],pre,k,_=>by simp[lE]
 | x::c,y::old,pre,k,h=>by
  simp only[lE,lG]
  have e:(pre++y::old).set pre.length x=pre++[x]++old:=by rw[List.set_append];simp
  rw[e]
  have:=zI c old (pre++[x]) k (by simpa using h)
  rw[List.length_append] at this
  simpa using this
 | [],_::_,_,_,h=>by simp at h
 | _::_,[],_,_,h=>by simp at h
theorem stW_set {α:Type} {f:α→List PV} {S:aD} {g ver e sz:Nat} {l:List α} {i:Nat} (x:α) {k:aD→Prop} (h:S g=some (.row ver sz e (l.map f))) (hi:i<l.length) (hl:(f l[i]).length=(f x).length)
  (hk:k (aK S g (.row ver sz e ((l.set i x).map f)))):stW S g ver i 0 sz (f x) k:=by
 refine eR (old:=f l[i]) h (by rw[List.getElem?_map,List.getElem?_eq_getElem hi];rfl) (by omega) fun new hn=>?_
 have e1:=zI (f x) (f l[i]) [] (fun l=>l=new) hl
 simp only[List.nil_append,List.length_nil] at e1
 rw[e1] at hn
 subst hn
 rw[← List.map_set]
 exact hk
variable {w:aW} {q:uU}
def plM (out:List OwnT):MK→Option PV
 | .s n=>(dD out n).map fun k=>.int .i64 (k:Nat)
 | .i _=>none
theorem plM_some {out:List OwnT} {n:ByteArray} {k:Nat} (h:dD out n=some k):plM out (.s n)=some (.int .i64 (k:Nat)):=by show (dD out n).map _=_;rw[h];rfl
theorem plM_none {out:List OwnT} {n:ByteArray} (h:dD out n=none):plM out (.s n)=none:=by show (dD out n).map _=_;rw[h];rfl
theorem lD {out:List OwnT} {n:ByteArray} {k:Nat} (h:dD out n=some k):∃ hk:k<out.length,out[k].slot.name=n:=by
 unfold dD at h
 rw[List.findIdx?_eq_some_iff_getElem] at h
 obtain⟨h1,h2,_⟩:=h
 exact⟨h1,by simpa using h2⟩
theorem uF (out:List OwnT) (o:OwnT) (n:ByteArray):dD (out++[o]) n=match dD out n with
  | some k=>some k
  | none=>if o.slot.name=n then some out.length else none:=by
 unfold dD
 rw[List.findIdx?_append]
 cases e:out.findIdx? fun o=>decide (o.slot.name=n) with
 | some k=>simp
 | none=>simp[List.findIdx?_cons]
theorem plM_add {out:List OwnT} {s:SlotT} {owner:ByteArray} (h:dD out s.name=none):fD (plM out) (.s s.name) (.int .i64 (out.length:Nat))=plM (out++[⟨s,owner⟩]):=by
 funext k
 cases k with
 | i n=>simp[fD,plM]
 | s n=>
  by_cases e:n=s.name
  ·subst e
   simp only[fD,plM,if_true]
   rw[uF,h];simp
  ·have e2:¬ (MK.s n=MK.s s.name):=by simpa using e
   simp only[fD,e2,if_false,plM]
   rw[uF]
   cases dD out n with
   | some k=>rfl
   | none=>simp[Ne.symm e]
theorem plM_set {out:List OwnT} {s:SlotT} {owner:ByteArray} {k:Nat} (h:dD out s.name=some k):plM (out.set k ⟨s,owner⟩)=plM out:=by
 obtain⟨hk,hn⟩:=lD h
 funext x
 cases x with
 | i n=>rfl
 | s n=>
  have:dD (out.set k ⟨s,owner⟩) n=dD out n:=by
   unfold dD
   have e:∀ (l:List OwnT) (p:ByteArray→Bool),l.findIdx? (fun o=>p o.slot.name)=(l.map (·.slot.name)).findIdx? p:=fun l p=>by
    rw[List.findIdx?_map];rfl
   rw[e _ (fun m=>decide (m=n)),e _ (fun m=>decide (m=n))]
   congr 1
   rw[List.map_set]
   have:(out.map (·.slot.name))[k]'(by simpa using hk)=s.name:=by rw[List.getElem_map];exact hn
   rw[← this]
   exact List.set_getElem_self _
  show (dD _ n).map _=(dD _ n).map _
  rw[this]
structure vU where
 b2:Nat
 b6:Nat
 b7:Nat
 gp:Nat
 gq:Nat
abbrev RO (out:List OwnT):AO:=.row out.length 10 144 (out.map eO)
abbrev CO (n:vU) (out:List OwnT):AO:=.row 0 1 0 [[.row n.gq out.length 0 out.length 10]]
structure sH (w:aW) (q:uU) (n:vU) (out:List OwnT) (S:aD):Prop where
 v:HasV w q S
 k2:S n.b2=some (.row 0 1 0 [[vp q]])
 k6:S n.b6=some (CO n out)
 k7:S n.b7=some (.row 0 1 0 [[.map n.gp]])
 kp:S n.gp=some (.map true (plM out))
 kq:S n.gq=some (RO out)
def cT (n:vU) (S:aD) (out:List OwnT):aD:=aK (aK (aK S n.gp (.map true (plM out))) n.gq (RO out)) n.b6 (CO n out)
theorem bH {S:aD} {g h:Nat} {x y:AO} (h1:S g=some x) (h2:S h=some y) (e:x≠y):g≠h:=by
 rintro rfl;rw[h1] at h2;cases h2;exact e rfl
theorem put_spec (n:vU) (out:List OwnT) (owner:ByteArray) (s:SlotT) (cs:s.ty.cnt<4611686018427387904) (ns:kH s.ty) (co:∀ o∈out,o.slot.ty.cnt<4611686018427387904∧kH o.slot.ty) (hlen:out.length≤1000000) (S:aD) (hS:sH w q n out S) :
  Fn PP 102 [.str owner,.agg (wN s),.ptr n.b7 0 0 0 1,.ptr n.b6 0 0 0 1,.ptr n.b2 0 0 0 1] S fun o S'=>match nS w.classes out owner s with
   | some out'=>o=.ret (.bool true)∧S'=cT n S out'
   | none=>o=.ret (.bool false)∧S'=S:=by
 refine aJ aI Tryz.func102 rfl (by rfl) (by rfl) ?_
 obtain⟨⟨kw,km,kv⟩,k2,k6,k7,kp,kq⟩:=id hS
 refine aF ?_;intros
 refine aG fun b hb=>?_
 generalize hS1:aK S b _=S1
 have h1:sH w q n out S1:=by rw[← hS1];exact⟨hS.v.upd hb,aE k2 hb,aE k6 hb,aE k7 hb,aE kp hb,aE kq hb⟩
 have kb:S1 b=some (.row 0 9 0 [wN s]):=by rw[← hS1];exact aA _ _ _
 have hs1:bV S1 S:=by rw[← hS1];exact aR hb
 have nb:∀ {g x},S g=some x→b≠g:=fun {g x} h=>aL h hb
 have n6:=nb k6
 have np:=nb kp
 have nq:=nb kq
 clear hS1
 obtain⟨⟨kw1,km1,kv1⟩,k21,k61,k71,kp1,kq1⟩:=id h1
 refine aF ?_;intros
 cases hsl:dD out s.name with
 | none=>
  have hput:nS w.classes out owner s=some (out++[⟨s,owner⟩]):=by unfold nS;rw[hsl]
  refine jN kp1 (plM_none hsl) ?_
  refine aF ?_;intros
  refine dL kp1 ?_
  have e1:n.gp≠n.b6:=bH kp k6 (by simp)
  have e2:n.gp≠n.gq:=bH kp kq (by simp)
  have e3:n.b6≠n.gq:=bH k6 kq (by simp)
  generalize hS2:aK S1 n.gp _=S2
  have j6:S2 n.b6=some (CO n out):=by rw[← hS2,aC (Ne.symm e1)];exact k61
  have jq:S2 n.gq=some (RO out):=by rw[← hS2,aC (Ne.symm e2)];exact kq1
  have jb:S2 b=some (.row 0 9 0 [wN s]):=by rw[← hS2,aC np];exact kb
  refine aF ?_;intros
  refine And.intro (fun c hc=>?_) ?_
  ·rw[List.mem_singleton] at hc
   subst hc
   exact⟨rfl,trivial,trivial,trivial,trivial,trivial,trivial,trivial,trivial,trivial,trivial,trivial⟩
  refine And.intro rfl (bX jq ?_)
  refine And.intro (by simp) (And.intro rfl (And.intro (show (out.length+1)*144≤140737488355328 by omega) ?_))
  refine aF ?_;intros
  refine gG (by rw[aC e3];exact j6) (Nat.le_refl _) ?_
  refine aF ?_;intros
  refine⟨cT n S (out++[⟨s,owner⟩]),fun g x hx=>?_,by rw[hput];exact⟨rfl,rfl⟩⟩
  unfold cT at hx
  by_cases f1:g=n.b6
  ·subst f1
   rw[aA] at hx
   rw[← hx,aA]
   simp
  rw[aC f1] at hx ⊢
  by_cases f2:g=n.gq
  ·subst f2
   rw[aA] at hx
   rw[← hx,aA]
   simp
  rw[aC f2] at hx ⊢
  by_cases f3:g=n.gp
  ·subst f3
   rw[aA] at hx
   rw[← hx,← hS2,aA,← plM_add hsl]
   rfl
  rw[aC f3] at hx
  rw[← hS2,aC f3]
  exact hs1 g x hx
 | some k=>
  obtain⟨hk,hkn⟩:=lD hsl
  have hput:nS w.classes out owner s=if out[k].slot.alloc=s.alloc∧subV w.classes s.ty out[k].slot.ty=true then some (out.set k ⟨s,owner⟩) else none:=by unfold nS;rw[hsl];dsimp only;rw[List.getElem?_eq_getElem hk]
  haveI:cH 103 [CS w.classes,TV s.ty,TV out[k].slot.ty] (.bool (subV w.classes s.ty out[k].slot.ty)):=⟨subT_spec w.classes s.ty out[k].slot.ty cs ns (co _ (List.getElem_mem hk)).1 (co _ (List.getElem_mem hk)).2⟩
  refine fV kp1 (plM_some hsl) ?_
  refine aF ?_;intros
  refine aU (aT aI (by rfl) 24 (by kernel_rfl) ?_)
  refine aF ?_;intros
  refine And.intro (fun a1=>?_) (fun a1=>?_)
  rotate_left
  ·have a1:¬ out[k].slot.alloc=s.alloc:=by simpa using a1
   refine aF ?_;intros
   exact⟨S,hs1,by rw[hput,if_neg (fun h=>a1 h.1)];exact⟨rfl,rfl⟩⟩
  have a1:out[k].slot.alloc=s.alloc:=by simpa using a1
  refine aF ?_;intros
  refine And.intro (fun a2=>?_) (fun a2=>?_)
  ·have a2:¬ subV w.classes s.ty out[k].slot.ty=true:=by simpa using a2
   refine aF ?_;intros
   exact⟨S,hs1,by rw[hput,if_neg (fun h=>a2 h.2)];exact⟨rfl,rfl⟩⟩
  have a2:subV w.classes s.ty out[k].slot.ty=true:=by simpa using a2
  rw[if_pos ⟨a1,a2⟩] at hput
  refine aF ?_;intros
  refine stW_set (f:=eO) (i:=0+k) ⟨s,owner⟩ kq1 (by omega) rfl ?_
  refine aF ?_;intros
  rw[Nat.zero_add]
  refine⟨cT n S (out.set k ⟨s,owner⟩),fun g x hx=>?_,by rw[hput];exact⟨rfl,rfl⟩⟩
  have e1:n.gp≠n.b6:=bH kp k6 (by simp)
  have e2:n.gp≠n.gq:=bH kp kq (by simp)
  have e3:n.b6≠n.gq:=bH k6 kq (by simp)
  unfold cT at hx
  by_cases f1:g=n.b6
  ·subst f1
   rw[aA] at hx
   rw[← hx,aC e3,k61]
   simp
  rw[aC f1] at hx
  by_cases f2:g=n.gq
  ·subst f2
   rw[aA] at hx
   rw[← hx,aA]
   simp
  rw[aC f2] at hx ⊢
  by_cases f3:g=n.gp
  ·subst f3
   rw[aA] at hx
   rw[← hx,kp1,plM_set hsl]
  rw[aC f3] at hx
  exact hs1 g x hx
end
section
set_option maxRecDepth 10000
def mY (l:List ClassI) (owner:ByteArray):List OwnT→List SlotT→List OwnT ⊕ List OwnT
 | out,[]=>.inl out
 | out,s::r=>match nS l out owner s with
  | some out'=>mY l owner out' r
  | none=>.inr out
theorem putsR_S (l:List ClassI) (owner:ByteArray):∀ (r:List SlotT) (out:List OwnT),pB l owner out r=match mY l owner out r with | .inl o=>some o | .inr _=>none
 | [],out=>rfl
 | s::r,out=>by
  simp only[pB,mY]
  cases nS l out owner s with
  | none=>rfl
  | some o=>exact putsR_S l owner r o
def stpS (w:aW) (out:List OwnT) (n:ByteArray):List OwnT ⊕ List OwnT:=mY w.classes (gN w n).name out (gN w n).slots
theorem genS_R (w:aW):∀ (r:List ByteArray) (out:List OwnT),pI w out r=match qU (stpS w) out r with | .inl o=>some o | .inr _=>none
 | [],out=>rfl
 | n::r,out=>by
  simp only[pI,qU,stpS]
  rw[putsR_S]
  cases mY w.classes (gN w n).name out (gN w n).slots with
  | inl o=>exact genS_R w r o
  | inr _=>rfl
def SzO (out:List OwnT):Prop:=∀ o∈out,o.slot.ty.cnt<4611686018427387904∧kH o.slot.ty
theorem putS_ok {l:List ClassI} {out out':List OwnT} {owner:ByteArray} {s:SlotT} (h:nS l out owner s=some out') (ho:SzO out) (hs:s.ty.cnt<4611686018427387904∧kH s.ty):SzO out'∧out'.length≤out.length+1:=by
 unfold nS at h
 cases e:dD out s.name with
 | none=>
  rw[e] at h
  cases h
  refine⟨fun o hm=>?_,by simp⟩
  rcases List.mem_append.1 hm with hm | hm
  ·exact ho o hm
  ·rw[List.mem_singleton] at hm;subst hm;exact hs
 | some k=>
  rw[e] at h
  dsimp only at h
  split at h
  ·split at h
   ·cases h
    refine⟨fun o hm=>?_,by simp⟩
    rcases List.mem_or_eq_of_mem_set hm with hm | hm
    ·exact ho o hm
    ·subst hm;exact hs
   ·cases h
  ·cases h
def qM (ks:List ByteArray) (b:ByteArray):Nat:=(ks.filter fun k=>decide (k=b)).length
theorem cntB_app (ks:List ByteArray) (c b:ByteArray):qM (ks++[c]) b=qM ks b+if c=b then 1 else 0:=by
 unfold qM
 rw[List.filter_append,List.length_append,List.filter_cons,List.filter_nil]
 by_cases e:c=b <;> simp[e]
theorem cntB_le (ks:List ByteArray) (b:ByteArray):qM ks b≤ks.length:=List.length_filter_le _ _
def kM (ks:List ByteArray):MK→Option PV
 | .s b=>if qM ks b=0 then none else some (.int .i64 (qM ks b:Nat))
 | .i _=>none
theorem kM_none {ks:List ByteArray} {b:ByteArray} (h:qM ks b=0):kM ks (.s b)=none:=by show (if _ then _ else _)=_;rw[if_pos h]
theorem kM_some {ks:List ByteArray} {b:ByteArray} (h:¬ qM ks b=0):kM ks (.s b)=some (.int .i64 (qM ks b:Nat)):=by show (if _ then _ else _)=_;rw[if_neg h]
theorem kM_add (ks:List ByteArray) (b:ByteArray):fD (kM ks) (.s b) (.int .i64 ((qM ks b+1:Nat):Int))=kM (ks++[b]):=by
 funext k
 cases k with
 | i n=>simp[fD,kM]
 | s n=>
  by_cases e:n=b
  ·subst e
   simp only[fD,kM,if_true]
   rw[cntB_app]
   simp
  ·have e2:¬ (MK.s n=MK.s b):=by simpa using e
   simp only[fD,e2,if_false,kM]
   rw[cntB_app]
   simp[Ne.symm e]
theorem wW (ks:List ByteArray) (b:ByteArray):(ks.any fun k=>decide (k=b))=decide (0<qM ks b):=by
 unfold qM
 rw[Bool.eq_iff_iff]
 simp only[List.any_eq_true,decide_eq_true_eq,List.length_pos_iff_exists_mem,List.mem_filter]
theorem putSt_put (n:vU) (S:aD) (a b:List OwnT) (h1:n.gp≠n.b6) (h2:n.gp≠n.gq) (h3:n.b6≠n.gq):cT n (cT n S a) b=cT n S b:=by
 unfold cT
 funext g
 by_cases f1:g=n.b6
 ·subst f1;rw[aA,aA]
 rw[aC f1,aC f1]
 by_cases f2:g=n.gq
 ·subst f2;rw[aA,aA]
 rw[aC f2,aC f2]
 by_cases f3:g=n.gp
 ·subst f3;rw[aA,aA]
 rw[aC f3,aC f3,aC f1,aC f2,aC f3]
theorem fS (n:vU) (S:aD) (a:List OwnT) {g:Nat} (h1:g≠n.b6) (h2:g≠n.gq) (h3:g≠n.gp):cT n S a g=S g:=by unfold cT;rw[aC h1,aC h2,aC h3]
theorem jM (n:vU) (S:aD) (a:List OwnT) {g:Nat}:cT n S a g=none↔g≠n.b6∧g≠n.gq∧g≠n.gp∧S g=none:=by
 unfold cT
 constructor
 ·intro h
  obtain⟨h1,h⟩:=fR h
  obtain⟨h2,h⟩:=fR h
  obtain⟨h3,h⟩:=fR h
  exact⟨h1,h2,h3,h⟩
 ·rintro⟨h1,h2,h3,h⟩
  rw[aC h1,aC h2,aC h3];exact h
theorem sH.put {w:aW} {q:uU} {n:vU} {a:List OwnT} {S:aD} (h:sH w q n a S) (hm:q.gm≠n.gp) (b:List OwnT):sH w q n b (cT n S b):=by
 have e1:n.gp≠n.b6:=bH h.kp h.k6 (by simp)
 have e2:n.gp≠n.gq:=bH h.kp h.kq (by simp)
 have e3:n.b6≠n.gq:=bH h.k6 h.kq (by simp)
 have off:∀ {g x},S g=some x→g≠n.b6→g≠n.gq→g≠n.gp→cT n S b g=some x:=fun hg a1 a2 a3=>by rw[fS n S b a1 a2 a3];exact hg
 refine⟨⟨off h.v.kw (bH h.v.kw h.k6 (by simp)) (bH h.v.kw h.kq (by simp)) (bH h.v.kw h.kp (by simp)),?_,off h.v.kv (bH h.v.kv h.k6 (by simp)) (bH h.v.kv h.kq (by simp)) (bH h.v.kv h.kp (by simp))⟩,?_,?_,?_,?_,?_⟩
 ·exact off h.v.km (bH h.v.km h.k6 (by simp)) (bH h.v.km h.kq (by simp)) hm
 ·exact off h.k2 (bH h.k2 h.k6 (by simp)) (bH h.k2 h.kq (by simp)) (bH h.k2 h.kp (by simp))
 ·exact aA _ _ _
 ·exact off h.k7 (bH h.k7 h.k6 (by simp)) (bH h.k7 h.kq (by simp)) (bH h.k7 h.kp (by simp))
 ·unfold cT;rw[aC e1,aC e2,aA]
 ·unfold cT;rw[aC (Ne.symm e3),aA]
end
section
set_option maxRecDepth 10000
def NumW (w:aW):Prop:=w.defs.length≤120∧∀ d∈w.defs,d.slots.length≤16∧∀ s∈d.slots,s.ty.cnt<4611686018427387904∧kH s.ty
def allNames (w:aW):List ByteArray:=(w.defs.flatMap (·.slots)).map (·.name)
structure OkO (w:aW) (out:List OwnT):Prop where
 sz:SzO out
 nd:(out.map (·.slot.name)).Nodup
 nm:∀ o∈out,o.slot.name∈allNames w
theorem flat_le {α β:Type} (f:α→List β) (n:Nat):∀ l:List α,(∀ a∈l,(f a).length≤n)→(l.flatMap f).length≤l.length*n
 | [],_=>by simp
 | a::l,h=>by
  have h1:=h a (by simp)
  have h2:=flat_le f n l fun b hb=>h b (by simp[hb])
  rw[List.flatMap_cons,List.length_append,List.length_cons,Nat.succ_mul]
  omega
theorem OkO.len {w:aW} (hz:NumW w) {out:List OwnT} (h:OkO w out):out.length≤1920:=by
 have h1:=nodup_le (m:=allNames w) h.nd fun a ha=>by
  obtain⟨o,ho,rfl⟩:=List.mem_map.1 ha
  exact h.nm o ho
 have h2:=flat_le (fun d:DefT=>d.slots) 16 w.defs fun d hd=>(hz.2 d hd).1
 unfold allNames at h1
 simp only[List.length_map] at h1
 have h3:=hz.1
 omega
theorem OkO.nil (w:aW):OkO w []:=⟨fun _ h=>by simp at h,by simp,fun _ h=>by simp at h⟩
theorem slotI_mem {out:List OwnT} {n:ByteArray} (h:dD out n=none):∀ o∈out,o.slot.name≠n:=by
 unfold dD at h
 rw[List.findIdx?_eq_none_iff] at h
 intro o ho
 simpa using h o ho
theorem OkO.put {w:aW} {out out':List OwnT} {owner:ByteArray} {s:SlotT} (h:OkO w out) (hs:s.ty.cnt<4611686018427387904∧kH s.ty) (hn:s.name∈allNames w) (hp:nS w.classes out owner s=some out'):OkO w out':=by
  refine⟨(putS_ok hp h.sz hs).1,?_,?_⟩
  all_goals
    unfold nS at hp
    cases e:dD out s.name with
    | none=>
      rw[e] at hp
      cases hp
      first
      | (rw[List.map_append,List.nodup_append]
         refine⟨h.nd,by simp,fun a ha b hb=>?_⟩
         simp only[List.map_cons,List.map_nil,List.mem_singleton] at hb
         subst hb
         obtain⟨o,ho,rfl⟩:=List.mem_map.1 ha
         exact slotI_mem e o ho)
      | (intro o ho
         rcases List.mem_append.1 ho with ho | ho
         · exact h.nm o ho
         · rw[List.mem_singleton] at ho;subst ho;exact hn)
    | some k=>
      obtain⟨hk,hkn⟩:=lD e
      rw[e] at hp
      dsimp only at hp
      rw[List.getElem?_eq_getElem hk] at hp
      dsimp only at hp
      split at hp
      · cases hp
        have hmap:(out.set k ⟨s,owner⟩).map (·.slot.name)=out.map (·.slot.name):=by
          rw[List.map_set]
          have:(out.map (·.slot.name))[k]'(by simpa using hk)=s.name:=by rw[List.getElem_map];exact hkn
          show (out.map (·.slot.name)).set k s.name=_
          rw[← this]
          exact List.set_getElem_self _
        first
        | (rw[hmap];exact h.nd)
        | (intro o ho
           rcases List.mem_or_eq_of_mem_set ho with ho | ho
           · exact h.nm o ho
           · subst ho;exact hn)
      · cases hp
theorem putsR_ok {w:aW} {owner:ByteArray}:∀ {r:List SlotT} {out out':List OwnT},OkO w out→(∀ s∈r,(s.ty.cnt<4611686018427387904∧kH s.ty)∧s.name∈allNames w)→mY w.classes owner out r=.inl out'→OkO w out'
 | [],out,out',h,_,e=>by simp only[mY] at e;cases e;exact h
 | s::r,out,out',h,hs,e=>by
  simp only[mY] at e
  cases hp:nS w.classes out owner s with
  | none=>rw[hp] at e;cases e
  | some o=>
   rw[hp] at e
   exact putsR_ok (h.put (hs s (by simp)).1 (hs s (by simp)).2 hp) (fun t ht=>hs t (by simp[ht])) e
theorem def_names {w:aW} (hz:NumW w) {d:DefT} (hd:d∈w.defs):∀ s∈d.slots,(s.ty.cnt<4611686018427387904∧kH s.ty)∧s.name∈allNames w:=fun s hs=>
 ⟨(hz.2 d hd).2 s hs,List.mem_map.2 ⟨s,List.mem_flatMap.2 ⟨d,hd,hs⟩,rfl⟩⟩
def StO (w:aW):Type:={ out:List OwnT // OkO w out }
noncomputable def stpO (w:aW) (x:StO w) (n:ByteArray):StO w ⊕ List OwnT:=match stpS w x.1 n with
 | .inl o=>open Classical in if h:OkO w o then .inl ⟨o,h⟩ else .inr []
 | .inr o=>.inr o
theorem stp_ok {w:aW} (hz:NumW w) (hd:0<w.defs.length) (x:StO w) (n:ByteArray) {o:List OwnT} (h:stpS w x.1 n=.inl o):OkO w o:=by
 unfold stpS at h
 refine putsR_ok x.2 ?_ h
 have:gN w n∈w.defs∨(gN w n).slots=[]:=by
  unfold gN
  rw[List.getD_eq_getElem?_getD]
  by_cases e:(mZ w.classes n).getD 0<w.defs.length
  ·rw[List.getElem?_eq_getElem e];exact .inl (List.getElem_mem e)
  ·rw[List.getElem?_eq_none (by omega)];exact .inr rfl
 rcases this with h | h
 ·exact def_names hz h
 ·rw[h];simp
theorem foldO {w:aW} (hz:NumW w) (hd:0<w.defs.length):∀ (r:List ByteArray) (x:StO w),(match qU (stpO w) x r with | .inl o=>.inl o.1 | .inr o=>.inr o)=qU (stpS w) x.1 r
 | [],x=>rfl
 | n::r,x=>by
  simp only[qU]
  unfold stpO
  cases e:stpS w x.1 n with
  | inl o=>
   have:=stp_ok hz hd x n e
   simp only[dif_pos this]
   exact foldO hz hd r ⟨o,this⟩
  | inr o=>rfl
theorem eKn_def {w:aW} (hd:w.defs.length=w.classes.length) (hv:w.versions.length=w.classes.length) (h0:0<w.classes.length) (m:ByteArray):∃ c v,eKn w m=eK (gN w m) c v∧gN w m∈w.defs:=by
 have hj:(mZ w.classes m).getD 0<w.classes.length:=by
  cases e:mZ w.classes m with
  | none=>exact h0
  | some j=>exact (mF e).1
 have h2:(mZ w.classes m).getD 0<w.defs.length:=by omega
 have h3:(mZ w.classes m).getD 0<w.versions.length:=by omega
 have hdf:gN w m=w.defs[(mZ w.classes m).getD 0]:=by
  unfold gN
  rw[List.getD_eq_getElem?_getD,List.getElem?_eq_getElem h2];rfl
 refine⟨w.classes[(mZ w.classes m).getD 0],w.versions[(mZ w.classes m).getD 0],?_,by rw[hdf];exact List.getElem_mem h2⟩
 unfold eKn
 rw[List.getElem?_eq_getElem hj,List.getElem?_eq_getElem h2,List.getElem?_eq_getElem h3,hdf]
theorem sle_upd3 {A B:aD} {g:Nat} {x:AO} (h:bV A B):bV (aK A g x) (aK B g x):=fun k y hy=>by
 by_cases e:k=g
 ·subst e;rw[aA] at hy ⊢;exact hy
 ·rw[aC e] at hy ⊢;exact h k y hy
theorem putSt_sle {n:vU} {A B:aD} {o:List OwnT} (h:bV A B):bV (cT n A o) (cT n B o):=sle_upd3 (sle_upd3 (sle_upd3 h))
theorem sH.self {w:aW} {q:uU} {n:vU} {a:List OwnT} {S:aD} (h:sH w q n a S):bV S (cT n S a):=fun g x hx=>by
 unfold cT at hx
 by_cases f1:g=n.b6
 ·subst f1;rw[aA] at hx;rw[← hx];exact h.k6
 rw[aC f1] at hx
 by_cases f2:g=n.gq
 ·subst f2;rw[aA] at hx;rw[← hx];exact h.kq
 rw[aC f2] at hx
 by_cases f3:g=n.gp
 ·subst f3;rw[aA] at hx;rw[← hx];exact h.kp
 rw[aC f3] at hx;exact hx
theorem sH.keep {w:aW} {q:uU} {n:vU} {a:List OwnT} {S:aD} (h:sH w q n a S) {g:Nat} {x:AO} (hg:S g=none):sH w q n a (aK S g x):=
 ⟨h.v.upd hg,aE h.k2 hg,aE h.k6 hg,aE h.k7 hg,aE h.kp hg,aE h.kq hg⟩
theorem HasV.set {w:aW} {q:uU} {S:aD} (h:HasV w q S) {g:Nat} {x y:AO} (hg:S g=some y) (h1:y≠RW w) (h2:y≠.map true (atM (hsOf w.classes))) (h3:y≠.row 0 2 0 [[.ptr q.gw 0 0 0 7,.map q.gm]]):HasV w q (L.aK S g x):=
 ⟨by rw[aC (bH h.kw hg (Ne.symm h1))];exact h.kw,by rw[aC (bH h.km hg (Ne.symm h2))];exact h.km,by rw[aC (bH h.kv hg (Ne.symm h3))];exact h.kv⟩
theorem sH.loop {w:aW} {q:uU} {n:vU} {a:List OwnT} {S:aD} (h:sH w q n a S) {g:Nat} {x:AO} {st:LoopState} {pd:Option Code} {fn:FuncId} {t:List PV} {ps:Array Tmp} {asg bd:Code} {d:Nat} (hg:S g=some (.loop st pd fn t ps asg bd d)):sH w q n a (aK S g x):=by
 refine⟨h.v.set hg (by simp) (by simp) (by simp),?_,?_,?_,?_,?_⟩
 ·rw[aC (bH h.k2 hg (by simp))];exact h.k2
 ·rw[aC (bH h.k6 hg (by simp))];exact h.k6
 ·rw[aC (bH h.k7 hg (by simp))];exact h.k7
 ·rw[aC (bH h.kp hg (by simp))];exact h.kp
 ·rw[aC (bH h.kq hg (by simp))];exact h.kq
end
section
attribute [local irreducible] T TL
set_option maxRecDepth 10000
set_option maxHeartbeats 4000000
def rfC:Code→Option (Code × Code)
 | .rangeFunc _ _ a b=>some (a,b)
 | .seq a b=>match rfC a with
  | some x=>some x
  | none=>rfC b
 | .block _ c=>rfC c
 | .loop c=>rfC c
 | .scope c=>rfC c
 | _=>none
noncomputable def asg55:Code:=match Tryz.f55.body with
 | some c=>(match rfC c with | some x=>x.1 | none=>.skip)
 | none=>.skip
noncomputable def bd55:Code:=match Tryz.f55.body with
 | some c=>(match rfC c with | some x=>x.2 | none=>.skip)
 | none=>.skip
theorem round55 {w:aW} {q:uU} {n:vU} (hz:NumW w) (hmp:q.gm≠n.gp) {X:aD} {x:List OwnT} (hokx:OkO w x) (hHX0:sH w q n x X) {d:DefT} {c:ClassI} {v:Int} (hdm:d∈w.defs)
  {b4 b5 b8 gl gd:Nat} {fn:FuncId} {t0:List PV} {ps:Array Tmp} {asg bdy:Code} (f4:X b4=some (.row 0 1 0 [[.nils]])) (f5:X b5=some (.row 0 1 0 [[.bool false]]))
  (f8:X b8=some (.row 0 1 0 [[.fn (.func 102) [] [.ptr n.b7 0 0 0 1,.ptr n.b6 0 0 0 1,.ptr n.b2 0 0 0 1]]])) (fl:X gl=some (.loop .ready none fn t0 ps asg bdy gd)) (e45:b5≠b4)
  {R:iY→aD→Prop} (h1:∀ out,mY w.classes d.name x d.slots=.inl out→R (.ret (.bool true)) (cT n X out))
  (h2:∀ out,mY w.classes d.name x d.slots=.inr out→R (.ret (.bool false)) (aK (aK (aK (cT n X out) b4 (.row 0 1 0 [[.nils]])) b5 (.row 0 1 0 [[.bool false]])) gl (.loop .done (some .ret) fn t0 ps asg bdy gd))) (lp:Nat) :
  T PP (some lp) asg55 (yN PP lp gl bd55 R) (gF 67 [(4,.ptr b4 0 0 0 1),(5,.ptr b5 0 0 0 1),(6,.ptr n.b6 0 0 0 1),(8,.ptr b8 0 0 0 1),(20,.agg (eK d c v))]) X []:=by
 have hnm:=def_names hz hdm
 have hsl16:=(hz.2 _ hdm).1
 refine aF ?_;intros
 refine aG fun b9 h9=>?_
 refine aF ?_;intros
 have n9:b9≠gl:=aL fl h9
 have hk:∀ y,aK X b9 y gl=some (.loop .ready none fn t0 ps asg bdy gd):=fun y=>aE fl h9
 refine⟨_,_,_,_,_,_,_,hk _,?_⟩
 generalize hX:aK (aK X b9 _) gl (.loop .busy none fn t0 ps asg bdy gd)=X9
 have hHX:sH w q n x X9:=by rw[← hX];exact (hHX0.keep h9).loop (hk _)
 have k9:∀ {g y},X g=some y→g≠gl→X9 g=some y:=fun {g y} h e=>by rw[← hX,aC e];exact aE h h9
 have fX:X9 gl=some (.loop .busy none fn t0 ps asg bdy gd):=by rw[← hX];exact aA _ _ _
 have j9:X9 b9=some (.row 0 7 0 [eK d c v]):=by rw[← hX,aC n9];exact aA _ _ _
 have j4:=k9 f4 (bH f4 fl (by simp))
 have j5:=k9 f5 (bH f5 fl (by simp))
 have j8:=k9 f8 (bH f8 fl (by simp))
 have gl6:gl≠n.b6:=bH fl hHX0.k6 (by simp)
 have glq:gl≠n.gq:=bH fl hHX0.kq (by simp)
 have glp:gl≠n.gp:=bH fl hHX0.kp (by simp)
 have o4:b4≠n.b6∧b4≠n.gq∧b4≠n.gp:=⟨bH f4 hHX0.k6 (by simp),bH f4 hHX0.kq (by simp),bH f4 hHX0.kp (by simp)⟩
 have o5:b5≠n.b6∧b5≠n.gq∧b5≠n.gp:=⟨bH f5 hHX0.k6 (by simp),bH f5 hHX0.kq (by simp),bH f5 hHX0.kp (by simp)⟩
 have o8:b8≠n.b6∧b8≠n.gq∧b8≠n.gp:=⟨bH f8 hHX0.k6 (by simp),bH f8 hHX0.kq (by simp),bH f8 hHX0.kp (by simp)⟩
 have o9:b9≠n.b6∧b9≠n.gq∧b9≠n.gp:=⟨bH j9 hHX.k6 (by simp),bH j9 hHX.kq (by simp),bH j9 hHX.kp (by simp)⟩
 have u4:b4≠gl:=bH f4 fl (by simp)
 have u5:b5≠gl:=bH f5 fl (by simp)

 have back:∀ (o:List OwnT) (r:AO),bV (aK (cT n X9 o) gl r) (aK (cT n X o) gl r):=fun o r g y hy=>by
  by_cases q0:g=gl
  ·subst q0;rw[aA] at hy ⊢;exact hy
  rw[aC q0] at hy ⊢
  unfold cT at hy ⊢
  by_cases q1:g=n.b6
  ·subst q1;rw[aA] at hy ⊢;exact hy
  rw[aC q1] at hy ⊢
  by_cases q2:g=n.gq
  ·subst q2;rw[aA] at hy ⊢;exact hy
  rw[aC q2] at hy ⊢
  by_cases q3:g=n.gp
  ·subst q3;rw[aA] at hy ⊢;exact hy
  rw[aC q3] at hy ⊢
  exact k9 hy q0
 refine aF ?_;intros
 refine aU (aY (α:=List OwnT × Nat) (inv:=fun y=>OkO w y.1∧y.2≤d.slots.length∧mY w.classes d.name y.1 (d.slots.drop y.2)=mY w.classes d.name x d.slots)
  (tm:=fun y=>gF 67 [(4,.ptr b4 0 0 0 1),(5,.ptr b5 0 0 0 1),(6,.ptr n.b6 0 0 0 1),(8,.ptr b8 0 0 0 1),(9,.ptr b9 0 0 0 7),(23,SLS d.slots),(24,.int .i64 d.slots.length),(25,.int .i64 y.2)]) (st:=fun y=>cT n X9 y.1) (μ:=fun y=>d.slots.length - y.2) (x,0) ⟨hokx,by simp,rfl⟩ ?_ hHX.self ?_)
 ·repeat' (first | exact trivial | exact rfl | refine And.intro ?_ ?_)
  simp
 rintro⟨out,k⟩ ⟨hok,hk,hpr⟩
 dsimp only at hok hk hpr ⊢
 have hHY:=hHX.put hmp out
 refine aF ?_;intros
 refine fC (fun hc=>?_) (fun hc=>?_)
 ·have hlt:k<d.slots.length:=by omega
  have hsk:=hnm _ (List.getElem_mem hlt)
  have hlenO:=hok.len hz
  have i4:cT n X9 out b4=some _:=(fS n X9 out o4.1 o4.2.1 o4.2.2).trans j4
  have i5:cT n X9 out b5=some _:=(fS n X9 out o5.1 o5.2.1 o5.2.2).trans j5
  have i8:cT n X9 out b8=some _:=(fS n X9 out o8.1 o8.2.1 o8.2.2).trans j8
  have i9:cT n X9 out b9=some _:=(fS n X9 out o9.1 o9.2.1 o9.2.2).trans j9
  have iL:cT n X9 out gl=some _:=(fS n X9 out gl6 glq glp).trans fX
  refine aF ?_;intros
  refine aG fun b11 h11=>?_
  refine aF ?_;intros
  generalize hY:aK (cT n X9 out) b11 _=Y2
  have hHY2:sH w q n out Y2:=by rw[← hY];exact hHY.keep h11
  have f11:Y2 b11=some (.row 0 9 0 [wN d.slots[k]]):=by rw[← hY];exact aA _ _ _
  have u4':Y2 b4=some (.row 0 1 0 [[.nils]]):=by rw[← hY];exact aE i4 h11
  have u5':Y2 b5=some (.row 0 1 0 [[.bool false]]):=by rw[← hY];exact aE i5 h11
  have u8:Y2 b8=some (.row 0 1 0 [[.fn (.func 102) [] [.ptr n.b7 0 0 0 1,.ptr n.b6 0 0 0 1,.ptr n.b2 0 0 0 1]]]):=by rw[← hY];exact aE i8 h11
  have u9:Y2 b9=some (.row 0 7 0 [eK d c v]):=by rw[← hY];exact aE i9 h11
  have uL:Y2 gl=some (.loop .busy none fn t0 ps asg bdy gd):=by rw[← hY];exact aE iL h11
  have hsY:bV Y2 (cT n X9 out):=by rw[← hY];exact aR h11
  clear hY h11 i4 i5 i8 i9 iL hHY
  refine aF ?_;intros
  have hput:=put_spec n out d.name d.slots[k] hsk.1.1 hsk.1.2 hok.sz (by omega) Y2 hHY2
  refine aV hput (aB _) ?_
  rintro o S' hR -
  have hstep:mY w.classes d.name out (d.slots.drop k)=match nS w.classes out d.name d.slots[k] with | some out'=>mY w.classes d.name out' (d.slots.drop (k+1)) | none=>.inr out:=by
   rw[List.drop_eq_getElem_cons hlt]
   simp only[mY] <;> cases nS w.classes out d.name d.slots[k] <;> rfl
  cases e:nS w.classes out d.name d.slots[k] with
  | some out'=>
   rw[e] at hR hstep
   obtain⟨rfl,rfl⟩:=hR
   unfold dR
   rw[cW]
   refine aF ?_;intros
   refine⟨(out',k+1),⟨hok.put hsk.1 hsk.2 e,by dsimp only;omega,by rw[← hpr,hstep]⟩,by dsimp only;omega,?_,?_⟩
   ·repeat' (first | exact trivial | exact rfl | refine And.intro ?_ ?_)
   ·have:=putSt_sle (n:=n) (o:=out') hsY
    rw[putSt_put n X9 out out' (bH hHX.kp hHX.k6 (by simp)) (bH hHX.kp hHX.kq (by simp)) (bH hHX.k6 hHX.kq (by simp))] at this
    exact this
  | none=>
   rw[e] at hR hstep
   obtain⟨rfl,rfl⟩:=hR
   unfold dR
   rw[cW]
   refine aF ?_;intros
   refine gG (by rw[aC e45];exact u5') (Nat.le_refl _) ?_
   refine aF ?_;intros
   refine⟨_,_,_,_,_,_,_,_,_,by rw[aC (Ne.symm u5),aC (Ne.symm u4)];exact uL,?_,h2 out (by rw[← hpr,hstep])⟩
   intro g y hy
   by_cases q0:g=gl
   ·subst q0;rw[aA] at hy ⊢;exact hy
   rw[aC q0] at hy ⊢
   by_cases q5:g=b5
   ·subst q5;rw[aA] at hy ⊢;exact hy
   rw[aC q5] at hy ⊢
   by_cases q4:g=b4
   ·subst q4;rw[aA] at hy ⊢;exact hy
   rw[aC q4] at hy ⊢
   refine hsY g y ?_
   have:=back out (.loop .busy none fn t0 ps asg bdy gd) g y (by rw[aC q0];exact hy)
   rw[aC q0] at this
   exact this
 ·have e:k=d.slots.length:=by omega
  subst e
  rw[List.drop_length,mY] at hpr
  have iL:cT n X9 out gl=some _:=(fS n X9 out gl6 glq glp).trans fX
  refine aF ?_;intros
  refine⟨_,_,_,_,_,_,_,_,_,iL,?_,h1 out hpr.symm⟩
  intro g y hy
  by_cases q0:g=gl
  ·subst q0
   rw[fS n X out gl6 glq glp,fl] at hy
   rw[aA];exact hy
  ·have:=back out (.loop .busy none fn t0 ps asg bdy gd) g y (by rw[aC q0];exact hy)
   rw[aC q0] at this ⊢
   exact this
end
section
attribute [local irreducible] T TL
set_option maxRecDepth 10000
set_option maxHeartbeats 4000000
theorem stop55b {S S0:aD} {b4 b5 gd:Nat} (f4:S b4=some (.row 0 1 0 [[.nils]])) (f5:S b5=some (.row 0 1 0 [[.bool false]])) (fd:S gd=some .dfr) (hs:bV S S0) (zd:S0 gd=none) (K:List PV→aD→List DA→Prop) {R:iY→aD→Prop} (hR:R (.ret (.tup [.nils,.bool false])) S0) :
  T PP none .ret (blockX 0 (uA K (endDX GT PP Tryz.f55.results.toList R))) (gF 67 [(4,.ptr b4 0 0 0 1),(5,.ptr b5 0 0 0 1)]) S [.mark gd]:=by
 have e4d:b4≠gd:=bH f4 fd (by simp)
 have e5d:b5≠gd:=bH f5 fd (by simp)
 refine aF ?_;intros
 refine And.intro (by unfold pG;exact fd) ?_
 refine aF ?_;intros
 refine aS (by unfold iZ;rw[if_neg e4d];exact f4) rfl ?_
 refine aF ?_;intros
 refine aS (by unfold iZ;rw[if_neg e5d];exact f5) rfl ?_
 refine aF ?_;intros
 refine⟨S0,fun g y hy=>?_,hR⟩
 have x1:g≠gd:=by rintro rfl;rw[zd] at hy;cases hy
 unfold iZ
 rw[if_neg x1]
 exact hs g y hy
end
end Go.Proofs.YtbojdflgjpjbiaaGreat.L
