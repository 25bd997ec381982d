/- A logic over the machine, and what the functions of the seat come to: part 14. No claim stands here; the theorems are used by the row. -/
import Derived.Test.YtbojdflgjpjbiaaGreatJ12
import Derived.Test.YtbojdflgjpjbiaaGreatJ13
set_option linter.unusedSimpArgs false
set_option linter.unnecessarySimpa false
set_option linter.unusedVariables false
namespace Go.Proofs.YtbojdflgjpjbiaaGreat.L
open Go
section
attribute [local irreducible] T TL zU
set_option maxRecDepth 10000
set_option maxHeartbeats 4000000
variable {l:List ClassI} {n:pY}
theorem tC {S:aD} {a g:Nat} {x:AO}:aK S a x g=none↔g≠a∧S g=none:=by
 by_cases e:g=a
 ·subst e;rw[aA];simp
 ·rw[aC e];simp[e]
theorem mG {S T:aD} {g:Nat} {x:AO} (h:bV S T) (hg:T g=none):bV (aK S g x) T:=fun k y hk=>by
 by_cases e:k=g
 ·subst e;rw[hg] at hk;cases hk
 ·rw[aC e];exact h k y hk
theorem sle_two {S:aD} {a b:Nat} {x y:AO} (h1:S a=some x) (h2:S b=some y):bV S (aK (aK E a x) b y):=fun k z hk=>by
 by_cases e:k=b
 ·subst e;rw[aA] at hk;rw[← hk];exact h2
 ·rw[aC e] at hk
  by_cases e2:k=a
  ·subst e2;rw[aA] at hk;rw[← hk];exact h1
  ·rw[aC e2] at hk;cases hk
theorem containsP (ks:List Ty) (f:Nat) (p:Ty→Bool) (hp:∀ x,FnP PP f [TV x] (.bool (p x))):FnP PP 179 [TS ks,.fn (.func f) [] []] (.bool (ks.any p)):=by
 have h:=kI (St:=Unit) (st:=fun _=>E) ks f [] [] p (fun x _ _=>fO (hp x) fun o S' h=>⟨(),h⟩)
 exact fO (h ()) fun o S' ⟨_,h⟩=>h
structure xL (p:cI):Prop where
 i:∀ t∈p.ints,InR t
 m:∀ t∈p.metas,t=metaT t.name
 k:∀ t∈p.kinds,t=classT t.name
theorem xL.named_m {p:cI} (h:xL p):nY p.metas:=⟨fun t ht=>by rw[h.m t ht];rfl,fun t ht u hu e=>by rw[h.m t ht,h.m u hu,e]⟩
def wholeB:List Ty→Bool
 | [x]=>decide (x.lo=tZ) && decide (x.hi=iB)
 | _=>false
def jQ (p:cI):List Ty:=if wholeB (jA p.ints) then [] else jA p.ints
def iC (p:cI):List Ty:=if wholeB (jA p.ints) then p.kinds++[classT cS] else p.kinds
def gI (p:cI):List Ty:=if p.t0 && p.t1 then iC p++[classT dX] else iC p
def wS (p:cI):List Ty:=if p.t0 && p.t1 then [] else if p.t0 then [vP 0] else if p.t1 then [vP 1] else []
def aAd (p:cI):List Ty:=if (gI p).any (fun t=>decide (t.name=iK)) then [] else p.metas
def nF (l:List ClassI) (p:cI):List Ty:=
 if p.kinds.any (fun t=>decide (t.name=aP)) then [classT aP] else wS p++jQ p++jK l (aAd p)++jK l (gI p)
theorem piecesL_of (l:List ClassI) (t:Ty):fZ l t=nF l (rL (voidC l) ⟨[],[],[],false,false⟩ t):=by
 unfold fZ nF
 rfl
def DD (n:pY) (gp gm gk b2:Nat) (ms ks:List Ty) (iv mv:PV) (v0 v1:Bool):aD:=
 aK (aK (aK (aK E b2 (.row 0 1 0 [[hp n]])) gm (RT ms)) gk (RT ks)) gp (.row 0 6 0 [[hp n,iv,mv,bU gk ks,.bool v0,.bool v1]])
structure DOk (n:pY) (gp gm gk b2:Nat):Prop where
 pk:gp≠gk
 pm:gp≠gm
 pb:gp≠b2
 km:gk≠gm
 kb:gk≠b2
 mb:gm≠b2
 off:∀ g,(g=gp∨g=gm∨g=gk∨g=b2)→g≠n.ga∧g≠n.gc∧g≠n.gv∧g≠n.gh
section
variable {gp gm gk b2:Nat} {ms ks:List Ty} {iv mv:PV} {v0 v1:Bool}
theorem DD_p:DD n gp gm gk b2 ms ks iv mv v0 v1 gp=some (.row 0 6 0 [[hp n,iv,mv,bU gk ks,.bool v0,.bool v1]]):=aA _ _ _
theorem DD_k (o:DOk n gp gm gk b2):DD n gp gm gk b2 ms ks iv mv v0 v1 gk=some (RT ks):=by unfold DD;rw[aC (Ne.symm o.pk),aA]
theorem DD_m (o:DOk n gp gm gk b2):DD n gp gm gk b2 ms ks iv mv v0 v1 gm=some (RT ms):=by unfold DD;rw[aC (Ne.symm o.pm),aC (Ne.symm o.km),aA]
theorem DD_b (o:DOk n gp gm gk b2):DD n gp gm gk b2 ms ks iv mv v0 v1 b2=some (.row 0 1 0 [[hp n]]):=by unfold DD;rw[aC (Ne.symm o.pb),aC (Ne.symm o.kb),aC (Ne.symm o.mb),aA]
theorem jU (o:DOk n gp gm gk b2):Off n (DD n gp gm gk b2 ms ks iv mv v0 v1):=by
 have h:∀ g,(g=n.ga∨g=n.gc∨g=n.gv∨g=n.gh)→DD n gp gm gk b2 ms ks iv mv v0 v1 g=none:=fun g hg=>by
  have ne:∀ a,(a=gp∨a=gm∨a=gk∨a=b2)→g≠a:=fun a ha e=>by
   have:=o.off a ha
   subst e
   rcases hg with h | h | h | h
   ·exact this.1 h
   ·exact this.2.1 h
   ·exact this.2.2.1 h
   ·exact this.2.2.2 h
  unfold DD
  rw[aC (ne _ (.inl rfl)),aC (ne _ (.inr (.inr (.inl rfl)))),aC (ne _ (.inr (.inl rfl))),aC (ne _ (.inr (.inr (.inr rfl))))]
  rfl
 exact⟨h _ (.inl rfl),h _ (.inr (.inl rfl)),h _ (.inr (.inr (.inl rfl))),h _ (.inr (.inr (.inr rfl)))⟩
theorem DD_sle {S:aD} (hb:S b2=some (.row 0 1 0 [[hp n]])) (hm:S gm=some (RT ms)) (hk:S gk=some (RT ks)) (hp':S gp=some (.row 0 6 0 [[hp n,iv,mv,bU gk ks,.bool v0,.bool v1]])):bV S (DD n gp gm gk b2 ms ks iv mv v0 v1):=fun g x hx=>by
 unfold DD at hx
 by_cases e1:g=gp
 ·subst e1;rw[aA] at hx;rw[← hx];exact hp'
 rw[aC e1] at hx
 by_cases e2:g=gk
 ·subst e2;rw[aA] at hx;rw[← hx];exact hk
 rw[aC e2] at hx
 by_cases e3:g=gm
 ·subst e3;rw[aA] at hx;rw[← hx];exact hm
 rw[aC e3] at hx
 by_cases e4:g=b2
 ·subst e4;rw[aA] at hx;rw[← hx];exact hb
 rw[aC e4] at hx;cases hx
end
section
variable {gp gm gk b2:Nat} {ms ks ks':List Ty} {iv mv iv' mv':PV} {v0 v1 v0' v1':Bool} {s:Memo l}
theorem DD_set (hp':HK l n s gp=none):aK (bC (HK l n s) (DD n gp gm gk b2 ms ks iv mv v0 v1)) gp (.row 0 6 0 [[hp n,iv',mv',bU gk ks,.bool v0',.bool v1']])=bC (HK l n s) (DD n gp gm gk b2 ms ks iv' mv' v0' v1'):=by
 rw[cF hp'];unfold DD;rw[aN]
theorem DD_app (o:DOk n gp gm gk b2) (hk:∀ s:Memo l,HK l n s gk=none) (hp':∀ s:Memo l,HK l n s gp=none):aK (aK (bC (HK l n s) (DD n gp gm gk b2 ms ks iv mv v0 v1)) gk (RT ks')) gp (.row 0 6 0 [[hp n,iv',mv',bU gk ks',.bool v0',.bool v1']])=bC (HK l n s) (DD n gp gm gk b2 ms ks' iv' mv' v0' v1'):=by
 rw[cF (hk s),cF (hp' s)];unfold DD;rw[cK o.pk,aN,aN]
end
theorem ObjAt_nilc {w:World} {fr:Nat→Prop} {m:aQ} {v sz e j e':Nat} {cs:List PV} {ob:Option Nat} (hj:cs[j]?=some .nils) (h:ObjAt w fr m (.row v sz e [cs]) ob):ObjAt w fr m (.row v sz e [cs.set j (.list e' [])]) ob:=by
 cases ob with
 | none=>obtain⟨_,_,_,h⟩:=h;simp at h
 | some b=>
  obtain⟨o,ho,h1,arr,el,rfl,h2,h3,h4⟩:=h
  refine⟨_,ho,by simpa using h1,arr,el,rfl,fun i hi=>?_,by simpa using h3,fun i i2 hi hi2=>?_⟩
  ·have e0:i=0:=by simp at hi;exact hi
   subst e0
   have:=h2 0 (by simp)
   simpa using this
  ·have e0:i=0:=by simp at hi;exact hi
   subst e0
   simp only[List.getElem_cons_zero,List.length_set] at hi2 ⊢
   obtain⟨x,h5,h6⟩:=h4 0 i2 (by simp) (by simpa using hi2)
   simp only[List.getElem_cons_zero] at h6
   refine⟨x,h5,?_⟩
   by_cases e1:j=i2
   ·subst e1
    have e2:cs[j]=.nils:=by rw[List.getElem?_eq_getElem hi2] at hj;exact Option.some.inj hj
    rw[e2] at h6
    rw[List.getElem_set_self]
    cases h6
    exact .list0 _ _ _
   ·rw[List.getElem_set_ne e1];exact h6
def FF (n:pY) (gp b2:Nat) (iv mv kv:PV) (v0 v1:Bool):aD:=aK (aK E b2 (.row 0 1 0 [[hp n]])) gp (.row 0 6 0 [[hp n,iv,mv,kv,.bool v0,.bool v1]])
section
variable {gp gm gk b2:Nat} {ms ks:List Ty} {iv mv:PV} {v0 v1:Bool} {s:Memo l} {r:Option Nat} {c:Code} {Q:bQ} {t:List PV} {D:List DA}
theorem FF_off (o:DOk n gp gm gk b2) {kv:PV}:Off n (FF n gp b2 iv mv kv v0 v1):=by
 have h:∀ g,(g=n.ga∨g=n.gc∨g=n.gv∨g=n.gh)→FF n gp b2 iv mv kv v0 v1 g=none:=fun g hg=>by
  have ne:∀ a,(a=gp∨a=gm∨a=gk∨a=b2)→g≠a:=fun a ha e=>by
   have:=o.off a ha
   subst e
   rcases hg with h | h | h | h
   ·exact this.1 h
   ·exact this.2.1 h
   ·exact this.2.2.1 h
   ·exact this.2.2.2 h
  unfold FF
  rw[aC (ne _ (.inl rfl)),aC (ne _ (.inr (.inr (.inr rfl))))]
  rfl
 exact⟨h _ (.inl rfl),h _ (.inr (.inl rfl)),h _ (.inr (.inr (.inl rfl))),h _ (.inr (.inr (.inr rfl)))⟩
theorem del_ne {S:aD} {g h:Nat} (e:h≠g):iZ S g h=S h:=by unfold iZ;rw[if_neg e]
theorem T_ready3 (o:DOk n gp gm gk b2) (hk:HK l n s gk=none) (hp':HK l n s gp=none) {S:aD} (hH:bV S (HK l n s)) (hb:S b2=some (.row 0 1 0 [[hp n]])) (hS:S gk=some (RT ks)) (hR:S gp=some (.row 0 6 0 [[hp n,iv,mv,bU gk ks,.bool v0,.bool v1]]))
  (h:T PP r c Q t (bC (HK l n s) (FF n gp b2 iv mv (TS ks) v0 v1)) D):T PP r c Q t S D:=by
 refine zF 3 o.pk hS hR rfl (List.length_map _).symm ?_
 refine h.weak (aZ _) (pT ?_ (sle_two ?_ (aA _ _ _)))
 ·refine mG (fun g x hx=>?_) hp'
  rw[del_ne (fun e=>by rw[e,hk] at hx;cases hx)]
  exact hH g x hx
 ·rw[aC (Ne.symm o.pb),del_ne (Ne.symm o.kb)];exact hb
theorem T_ready1 (o:DOk n gp gm gk b2) (hm:HK l n s gm=none) (hk:HK l n s gk=none) (hp':HK l n s gp=none)
  (h:T PP r c Q t (bC (HK l n s) (FF n gp b2 iv (TS ms) (TS ks) v0 v1)) D):T PP r c Q t (bC (HK l n s) (DD n gp gm gk b2 ms ks iv (bU gm ms) v0 v1)) D:=by
 refine zF 2 o.pm (kF (jU o) (DD_m o)) (kF (jU o) DD_p) rfl (List.length_map _).symm ?_
 refine T_ready3 o hk hp' ?_ ?_ ?_ (aA _ _ _) h
 ·refine mG (fun g x hx=>?_) hp'
  rw[del_ne (fun e=>by rw[e,hm] at hx;cases hx)]
  exact dM hx
 ·rw[aC (Ne.symm o.pb),del_ne (Ne.symm o.mb)];exact kF (jU o) (DD_b o)
 ·rw[aC (Ne.symm o.pk),del_ne o.km];exact kF (jU o) (DD_k o)
theorem T_ready2 (o:DOk n gp gm gk b2) (hk:HK l n s gk=none) (hp':HK l n s gp=none)
  (h:T PP r c Q t (bC (HK l n s) (FF n gp b2 iv (TS []) (TS ks) v0 v1)) D):T PP r c Q t (bC (HK l n s) (DD n gp gm gk b2 ms ks iv .nils v0 v1)) D:=by
 refine T_recell (.row 0 6 0 [[hp n,iv,TS [],bU gk ks,.bool v0,.bool v1]]) (kF (jU o) DD_p) rfl (fun w fr m ob h=>ObjAt_nilc (j:=2) (e':=64) rfl h) ?_
 rw[DD_set hp']
 exact T_ready3 o hk hp' dQ (kF (jU o) (DD_b o)) (kF (jU o) (DD_k o)) (kF (jU o) DD_p) h
end
theorem merged_span (l:List Ty):∀ x∈jA l,x=cC x.lo x.hi:=by
 unfold jA
 rw[nN]
 exact yF _ _ (by simp)
theorem merged_len (l:List Ty):(jA l).length≤l.length:=by
 unfold jA
 rw[nN]
 have h1:=fold_len (pN pF l) []
 have h2:=(mI pF l).length_eq
 simp at h1;omega
theorem whole_one {I:List Ty} (hs:∀ x∈I,x=cC x.lo x.hi) (h:I.length=1) (h0:0<I.length):wholeB I=sameT I[0] (cC tZ iB):=by
 match I,h with
 | [x],_=>
  have e:=hs x (by simp)
  show (decide (x.lo=tZ) && decide (x.hi=iB))=sameT x (cC tZ iB)
  generalize x.lo=a at e
  generalize x.hi=b at e
  subst e
  unfold sameT
  simp only[cC,Ty.kind,Ty.name,Ty.lo,Ty.hi]
  simp
  rfl
theorem whole_no {I:List Ty} (h:¬ I.length=1):wholeB I=false:=by
 match I,h with
 | [],_=>rfl
 | [x],h=>exact absurd rfl h
 | x::y::l,_=>rfl
theorem dups_len:∀ l:List Ty,(kD l).length≤l.length
 | []=>by simp[kD]
 | t::l=>by
  rw[kD]
  have:=dups_len l
  split <;> simp <;> omega
theorem wU (l:List ClassI) (k:List Ty):(jK l k).length≤k.length:=by
 unfold jK
 refine Nat.le_trans (dups_len _) ?_
 rw[(mI sG _).length_eq]
 exact List.length_filter_le _ _
theorem nY.of_class {ks:List Ty} (h:∀ t∈ks,t=classT t.name):nY ks:=⟨fun t ht=>by rw[h t ht];rfl,fun t ht u hu e=>by rw[h t ht,h u hu,e]⟩
theorem kindsOf_class {p:cI} (h:∀ t∈p.kinds,t=classT t.name):∀ t∈gI p,t=classT t.name:=by
 have h1:∀ t∈iC p,t=classT t.name:=by
  unfold iC
  split
  ·intro t ht
   rcases List.mem_append.1 ht with ht | ht
   ·exact h t ht
   ·rw[List.mem_singleton.1 ht];rfl
  ·exact h
 unfold gI
 split
 ·intro t ht
  rcases List.mem_append.1 ht with ht | ht
  ·exact h1 t ht
  ·rw[List.mem_singleton.1 ht];rfl
 ·exact h1
theorem pieces_spec (hh:Hier l) (k:n.Ok) (t:Ty) (hfm:zC (lI l) t=true) (hsz:t.cnt≤50000) (hnorm:xL (rL (voidC l) ⟨[],[],[],false,false⟩ t)):FnH l n E 178 [hp n,TV t] (TS (fZ l t)):=by
  intro s
  refine cL (aJ aI Tryz.func178 rfl (by rfl) (by rfl) ?_)
  have kh:=sE (l:=l) (n:=n) (B:=E) (s:=s)
  refine aF ?_;intros
  refine aG fun b2 h2=>?_
  refine aF ?_;intros
  refine aG fun b3 h3=>?_
  refine aF ?_;intros
  refine aG fun gp hgp=>?_
  refine nO ?_;intros
  refine mK 0 1 5 64 (aA _ _ _) rfl rfl fun gi hgi=>?_
  refine mK 0 2 5 64 (aA _ _ _) rfl rfl fun gm hgm=>?_
  refine mK 0 3 5 64 (aA _ _ _) rfl rfl fun gk hgk=>?_
  simp only[tC,bL] at h2 h3 hgp hgi hgm hgk
  let q:PNm:=⟨gp,gi,gm,gk⟩
  have o:q.Ok:=⟨hgm.2.1,hgk.2.2.2.1,(by rintro h;exact hgi.1 h.symm),hgk.2.1,(by rintro h;exact hgm.1 h.symm),(by rintro h;exact hgk.1 h.symm)⟩
  have bs:tY n q:=by
    have h1:=cM.1 hgi.2.2.2.1
    have h2':=cM.1 hgm.2.2.2.2.2.1
    have h3':=cM.1 hgk.2.2.2.2.2.2.2.1
    have h4:=cM.1 hgp.2.2.1
    rintro g (rfl | rfl | rfl | rfl)
    · exact h1
    · exact h2'
    · exact h3'
    · exact h4
  let p0:cI:=⟨[],[],[],false,false⟩
  let C:aD:=aK (aK E b2 (.row 0 1 0 [[hp n]])) b3 (.row 0 5 0 [eT t])
  have hC2:C b2=some (.row 0 1 0 [[hp n]]):=by simp only[C];rw[aC (Ne.symm h3.1),aA]
  have hC3:C b3=some (.row 0 5 0 [eT t]):=aA _ _ _
  have hCn:∀ g,C g=none↔g≠b3∧g≠b2:=fun g=>by simp only[C,tC];simp[E]
  have dC:∀ s' p',Dj (HP l n q s' p') C:=fun s' p' g x hx=>by
    have hno:∀ g,(g=b2∨g=b3)→HP l n q s' p' g=none:=by
      intro g hg
      refine bL.2 ⟨cM.2 ?_,PK_none.2 ?_⟩
      · rcases hg with rfl | rfl
        · exact cM.1 h2.1
        · exact cM.1 h3.2.1
      · rcases hg with rfl | rfl
        · exact⟨Ne.symm hgi.2.2.1,Ne.symm hgm.2.2.2.2.1,Ne.symm hgk.2.2.2.2.2.2.1,Ne.symm hgp.2.1⟩
        · exact⟨Ne.symm hgi.2.1,Ne.symm hgm.2.2.2.1,Ne.symm hgk.2.2.2.2.2.1,Ne.symm hgp.1⟩
    refine (hCn g).2 ⟨fun e=>?_,fun e=>?_⟩
    · rw[hno g (.inr e)] at hx;cases hx
    · rw[hno g (.inl e)] at hx;cases hx
  refine T.weak (t':=_) (S':=bC (HP l n q s p0) C) ?_ (aZ _) ?_
  rotate_left
  · refine pT (pT ?_ (lT.sle ⟨aA _ _ _,?_,?_,?_⟩)) (sle_two ?_ ?_)
    · refine mG (mG (mG (mG (mG (mG (mG (mG (mG dQ ?_) ?_) ?_) ?_) ?_) ?_) ?_) ?_) ?_
      · exact h2.1
      · exact h3.2.1
      · exact hgp.2.2.1
      · exact hgi.2.2.2.1
      · exact hgp.2.2.1
      · exact hgm.2.2.2.2.2.1
      · exact hgp.2.2.1
      · exact hgk.2.2.2.2.2.2.2.1
      · exact hgp.2.2.1
    · rw[aC hgi.1,aC (Ne.symm hgk.2.2.2.1),aC hgi.1,aC (Ne.symm hgm.2.1),aC hgi.1,aA];rfl
    · rw[aC hgm.1,aC (Ne.symm hgk.2.1),aC hgm.1,aA];rfl
    · rw[aC hgk.1,aA];rfl
    · rw[aC (Ne.symm hgp.2.1),aC (Ne.symm hgk.2.2.2.2.2.2.1),aC (Ne.symm hgp.2.1),aC (Ne.symm hgm.2.2.2.2.1),aC (Ne.symm hgp.2.1),aC (Ne.symm hgi.2.2.1),aC (Ne.symm hgp.2.1),aC (Ne.symm h3.1),aA];rfl
    · rw[aC (Ne.symm hgp.1),aC (Ne.symm hgk.2.2.2.2.2.1),aC (Ne.symm hgp.1),aC (Ne.symm hgm.2.2.2.1),aC (Ne.symm hgp.1),aC (Ne.symm hgi.2.1),aC (Ne.symm hgp.1),aA];rfl
  · have k3:=cZ (dC s p0) _ _ hC3
    have k2:=cZ (dC s p0) _ _ hC2
    generalize hCg:C=C0 at *
    have dok:DOk n gp gm gk b2:=⟨o.kp,o.mp,hgp.2.1,o.cm,hgk.2.2.2.2.2.2.1,hgm.2.2.2.2.1,by
      rintro g (h | h | h | h)
      · exact bs g (.inr (.inr (.inr h)))
      · exact bs g (.inr (.inl h))
      · exact bs g (.inr (.inr (.inl h)))
      · rw[h];exact cM.1 h2.1⟩
    have bni:b2≠gi:=Ne.symm hgi.2.2.1
    have HKi:∀ s',HK l n s' gi=none:=fun s'=>cM.2 (bs gi (.inl rfl))
    have HKm:∀ s',HK l n s' gm=none:=fun s'=>cM.2 (bs gm (.inr (.inl rfl)))
    have HKk:∀ s',HK l n s' gk=none:=fun s'=>cM.2 (bs gk (.inr (.inr (.inl rfl))))
    have HKp:∀ s',HK l n s' gp=none:=fun s'=>cM.2 (bs gp (.inr (.inr (.inr rfl))))
    clear hgi hgm hgk hgp h2 h3
    refine aF ?_;intros
    have eT0:TV (Ty.mk 0 ⟨#[]⟩ 0 0 [t])=.agg [.int .i64 0,.str ⟨#[]⟩,.int .i64 0,.int .i64 0,.list 64 [eT t]]:=by
      show PV.agg [_,_,_,_,.list 64 (tA [t])]=_
      rw[nX];rfl
    have hA:=addUnion_A hh k o bs (Ty.mk 0 ⟨#[]⟩ 0 0 [t]) (fun a ha=>by
       have:a=t:=by simpa[Ty.args] using ha
       rw[this];exact hfm) p0 (by simp[jF,p0,Ty.args,nK];omega) s
    rw[eT0] at hA
    have hadd:nW (voidC l) p0 (Ty.mk 0 ⟨#[]⟩ 0 0 [t]).args=rL (voidC l) p0 t:=by simp[Ty.args,nW]
    rw[hadd] at hA
    have hs1:jF (rL (voidC l) p0 t)≤50000:=by
      have:=size_addT (void:=voidC l) t p0
      simp[jF,p0] at this ⊢;omega
    refine aV hA dQ ?_
    rintro o' S' ⟨s1,rfl,rfl⟩ -
    unfold dR
    rw[mrg_l (dC s p0)]
    have hpl:=piecesL_of l t
    rw[show (⟨[],[],[],false,false⟩:cI)=p0 from rfl] at hpl hnorm
    generalize hp1:rL (voidC l) p0 t=p1 at *
    clear hadd hA hp1 k3 kh
    rw[hpl]
    have x:lT (hp n) q p1 (bC (HP l n q s1 p1) C0):=by
      have h:lT (hp n) q p1 (HP l n q s1 p1):=lT.uni (Off_PK bs) (lT.of o)
      exact⟨dM h.r,dM h.i,dM h.m,dM h.k⟩
    have k2':=cZ (dC s1 p1) _ _ hC2
    have xr:=x.r
    have xi:=x.i
    have xm:=x.m
    have xk:=x.k
    refine aF ?_;intros
    refine gK (containsP p1.kinds 201 _ isObj_spec) ⟨pK xk (by simp),.same _,trivial⟩ (.bool _) ?_
    refine aF ?_;intros
    refine And.intro (fun hob=>?_) (fun hob=>?_)
    · rw[show nF l p1=[classT aP] from by unfold nF;rw[if_pos hob]]
      refine aF ?_;intros
      exact⟨bC (HK l n s1) E,pT (dQ.trans dQ) (aM _),aO.same ⟨s1,rfl,rfl⟩⟩
    · rw[show nF l p1=wS p1++jQ p1++jK l (aAd p1)++jK l (gI p1) from by unfold nF;rw[if_neg (by rw[hob];simp)]]
      have hsz3:p1.ints.length≤50000∧p1.metas.length≤50000∧p1.kinds.length≤50000:=by unfold jF at hs1;exact⟨by omega,by omega,by omega⟩
      refine aF ?_;intros
      refine aV (mergedT_spec q.gi p1.ints (by omega) hnorm.i) (fE xi) ?_
      rintro o' S' ⟨ys,hyl,rfl,rfl⟩ -
      unfold dR
      rw[mrg_one]
      have xr':aK (bC (HP l n q s1 p1) C0) q.gi (RT ys) q.gp=some (.row 0 6 0 [partsC (hp n) q p1]):=by rw[aC o.ip];exact xr
      refine nO ?_;intros
      refine eR xr' rfl (Nat.le_of_ble_eq_true rfl) fun new hnew=>?_
      have hnew':[hp n,TS (jA p1.ints),bU q.gm p1.metas,bU q.gk p1.kinds,.bool p1.t0,.bool p1.t1]=new:=hnew
      subst hnew'
      refine nO ?_;intros
      refine T.weak (t':=_) (S':=bC (HK l n s1) (DD n gp gm gk b2 p1.metas p1.kinds (TS (jA p1.ints)) (bU gm p1.metas) p1.t0 p1.t1)) ?_ (aZ _) (pT (mG (mG (dQ.trans dQ) (HKi _)) (HKp _)) (DD_sle ?_ ?_ ?_ (aA _ _ _)))
      rotate_left
      · rw[aC (Ne.symm dok.pb),aC bni];exact k2'
      · rw[aC o.mp.symm,aC o.im];exact xm
      · rw[aC o.kp.symm,aC o.ik];exact xk
      clear xr' xr xi xm xk x k2' k2 dC hCn hC3 hC2 hCg eT0
      have hIs:=merged_span p1.ints
      have hIl:=merged_len p1.ints
      have hk1:(iC p1).length≤50001:=by unfold iC;split <;> first | omega | (rw[List.length_append];simp;omega)
      refine T_mid (gF 133 [(2,.ptr b2 0 0 0 1),(5,.ptr gp 0 0 0 6)]) (bC (HK l n s1) (DD n gp gm gk b2 p1.metas (iC p1) (TS (jQ p1)) (bU gm p1.metas) p1.t0 p1.t1)) ?_ ?_
      rotate_left
      · unfold jQ iC
        generalize hI:jA p1.ints=I at *
        have hr:=kF (jU dok) (s:=s1) (DD_p (n:=n) (gp:=gp) (gm:=gm) (gk:=gk) (b2:=b2) (ms:=p1.metas) (ks:=p1.kinds) (iv:=TS I) (mv:=bU gm p1.metas) (v0:=p1.t0) (v1:=p1.t1))
        refine aF ?_;intros
        refine aU (aT aI (by rfl) 16 (by decide) ?_)
        refine aF ?_;intros
        by_cases hI1:I.length=1
        · have hI0:0<I.length:=by omega
          have hx0:=hIs _ (List.getElem_mem hI0)
          have hw:=whole_one hIs hI1 hI0
          haveI:cH 204 [TV (I[0]'hI0),TV (cC tZ iB)] (.bool (sameT (I[0]'hI0) (cC tZ iB))):=⟨eqT_spec _ _ (by rw[hx0];rfl) rfl⟩
          refine And.intro (fun _=>?_) (fun h=>absurd h (by simp[hI1]))
          refine aF ?_;intros
          rw[← hw]
          refine And.intro (fun hwt=>?_) (fun hwt=>?_)
          · rw[if_pos hwt,if_pos hwt]
            refine aF ?_;intros
            refine aU (T.weak (t':=_) (S':=bC (HK l n s1) (DD n gp gm gk b2 p1.metas p1.kinds .nils (bU gm p1.metas) p1.t0 p1.t1)) ?_ (aZ _) ?_)
            rotate_left
            · show bV (aK (bC (HK l n s1) (DD n gp gm gk b2 p1.metas p1.kinds (TS I) (bU gm p1.metas) p1.t0 p1.t1)) gp (.row 0 6 0 [[hp n,.nils,bU gm p1.metas,bU gk p1.kinds,.bool p1.t0,.bool p1.t1]])) _
              rw[DD_set (HKp s1)]
              exact aB _
            refine (T_recell (.row 0 6 0 [[hp n,TS [],bU gm p1.metas,bU gk p1.kinds,.bool p1.t0,.bool p1.t1]]) (kF (jU dok) DD_p) rfl (fun w fr m ob h=>ObjAt_nilc (j:=1) (e':=64) rfl h) ?_)
            rw[show aK (bC (HK l n s1) (DD n gp gm gk b2 p1.metas p1.kinds .nils (bU gm p1.metas) p1.t0 p1.t1)) gp (.row 0 6 0 [[hp n,TS [],bU gm p1.metas,bU gk p1.kinds,.bool p1.t0,.bool p1.t1]])=bC (HK l n s1) (DD n gp gm gk b2 p1.metas p1.kinds (TS []) (bU gm p1.metas) p1.t0 p1.t1) from DD_set (HKp s1)]
            have xr:=kF (jU dok) (s:=s1) (DD_p (n:=n) (gp:=gp) (gm:=gm) (gk:=gk) (b2:=b2) (ms:=p1.metas) (ks:=p1.kinds) (iv:=TS []) (mv:=bU gm p1.metas) (v0:=p1.t0) (v1:=p1.t1))
            have xk:=kF (jU dok) (s:=s1) (DD_k (n:=n) (gp:=gp) (gm:=gm) (gk:=gk) (b2:=b2) (ms:=p1.metas) (ks:=p1.kinds) (iv:=TS []) (mv:=bU gm p1.metas) (v0:=p1.t0) (v1:=p1.t1) dok)
            let R0:AO:=.row ((p1.kinds).length+1) 5 64 ((p1.kinds).map eT++[[.int .i64 0,.str ⟨#[]⟩,.int .i64 0,.int .i64 0,.nils]])
            let R1:AO:=.row ((p1.kinds).length+1) 5 64 ((p1.kinds).map eT++[eT (classT cS)])
            let C1:AO:=.row 0 6 0 [[hp n,TS [],bU gm p1.metas,.row gk ((p1.kinds).length+1) 0 ((p1.kinds).length+1) 5,.bool p1.t0,.bool p1.t1]]
            have hz0:∀ X,L.aK (L.bC (HK l n s1) (DD n gp gm gk b2 p1.metas p1.kinds (TS []) (bU gm p1.metas) p1.t0 p1.t1)) gk X gk=some X:=fun X=>aA _ _ _
            have hp1:L.aK (L.bC (HK l n s1) (DD n gp gm gk b2 p1.metas p1.kinds (TS []) (bU gm p1.metas) p1.t0 p1.t1)) gk R0 gp=some (.row 0 6 0 [[hp n,TS [],bU gm p1.metas,bU gk (p1.kinds),.bool p1.t0,.bool p1.t1]]):=by rw[aC dok.pk];exact xr
            have hp2:L.aK (L.bC (HK l n s1) (DD n gp gm gk b2 p1.metas p1.kinds (TS []) (bU gm p1.metas) p1.t0 p1.t1)) gk R1 gp=some (.row 0 6 0 [[hp n,TS [],bU gm p1.metas,bU gk (p1.kinds),.bool p1.t0,.bool p1.t1]]):=by rw[aC dok.pk];exact xr
            have hz1:L.aK (L.bC (HK l n s1) (DD n gp gm gk b2 p1.metas p1.kinds (TS []) (bU gm p1.metas) p1.t0 p1.t1)) gk R0 gk=some R0:=aA _ _ _
            have hz3:L.aK (L.aK (L.bC (HK l n s1) (DD n gp gm gk b2 p1.metas p1.kinds (TS []) (bU gm p1.metas) p1.t0 p1.t1)) gk R0) gp C1 gk=some R0:=by rw[aC (Ne.symm dok.pk),aA]
            refine (oJ aI (by rfl) 7 (by kernel_rfl) (by kernel_rfl) (by kernel_rfl) (by kernel_rfl) (by kernel_rfl) ?_)
            refine aF ?_;intros
            unfold zU
            refine⟨.ptr gk ((p1.kinds).length+1) (0+(p1.kinds).length) 0 5,.ptr gp 0 0 0 6,.ptr gp 0 0 (0+3) 6,L.aK (L.bC (HK l n s1) (DD n gp gm gk b2 p1.metas p1.kinds (TS []) (bU gm p1.metas) p1.t0 p1.t1)) gk R1,L.aK (L.aK (L.bC (HK l n s1) (DD n gp gm gk b2 p1.metas p1.kinds (TS []) (bU gm p1.metas) p1.t0 p1.t1)) gk R0) gp C1,L.aK (L.aK (L.bC (HK l n s1) (DD n gp gm gk b2 p1.metas p1.kinds (TS []) (bU gm p1.metas) p1.t0 p1.t1)) gk R1) gp C1,⟨?_,?_,?_,?_,?_,?_,?_,?_,?_,?_,?_⟩⟩
            · refine sI ?_;intros
              exact⟨(p1.kinds).length,rfl,by simp,rfl⟩
            · refine sI ?_;intros
              exact⟨(p1.kinds).length,rfl,by simp,rfl⟩
            · refine sI ?_;intros
              refine kO rfl hz1 ?_
              rw[aN]
              try rfl
            · refine sI ?_;intros
              refine kO rfl hz3 ?_
              rw[cK dok.pk,aN]
              try rfl
            · exact goY
            · exact goY
            · exact goY
            · exact goY
            · refine sI ?_;intros
              exact gG hp1 (Nat.le_of_ble_eq_true rfl) rfl
            · refine sI ?_;intros
              exact gG hp2 (Nat.le_of_ble_eq_true rfl) rfl
            have hRF:R1=RT ((p1.kinds)++[classT cS]):=by simp only[R1,RT,List.map_append,List.length_append];rfl
            have hCF:C1=.row 0 6 0 [[hp n,TS [],bU gm p1.metas,bU gk ((p1.kinds)++[classT cS]),.bool p1.t0,.bool p1.t1]]:=by simp only[C1,bU,List.length_append];rfl
            rw[hRF,hCF,DD_app dok HKk HKp]
            refine aF ?_;intros
            exact⟨by repeat' (first | exact trivial | exact rfl | refine And.intro ?_ ?_),aB _⟩
          · rw[if_neg (by rw[hwt];simp),if_neg (by rw[hwt];simp)]
            refine aF ?_;intros
            exact⟨by repeat' (first | exact trivial | exact rfl | refine And.intro ?_ ?_),aB _⟩
        · refine And.intro (fun h=>by exfalso;simp at h;omega) (fun _=>?_)
          have hw:=whole_no hI1
          rw[if_neg (by rw[hw];simp),if_neg (by rw[hw];simp)]
          refine aF ?_;intros
          exact⟨by repeat' (first | exact trivial | exact rfl | refine And.intro ?_ ?_),aB _⟩
      · have hr:=kF (jU dok) (s:=s1) (DD_p (n:=n) (gp:=gp) (gm:=gm) (gk:=gk) (b2:=b2) (ms:=p1.metas) (ks:=iC p1) (iv:=TS (jQ p1)) (mv:=bU gm p1.metas) (v0:=p1.t0) (v1:=p1.t1))
        refine nO ?_;intros
        refine lY aI (nO ?_);intros
        refine gJ 6 5 64 rfl fun gq hgq=>?_
        have hrq:=fun x=>aE (y:=x) hr hgq
        have hqs:=aA (bC (HK l n s1) (DD n gp gm gk b2 p1.metas (iC p1) (TS (jQ p1)) (bU gm p1.metas) p1.t0 p1.t1)) gq (.row 0 5 64 [])
        refine nO ?_;intros
        refine T_seq ?_
        refine T_mid (gF 133 [(2,.ptr b2 0 0 0 1),(5,.ptr gp 0 0 0 6),(6,bU gq (wS p1))]) (aK (bC (HK l n s1) (DD n gp gm gk b2 p1.metas (gI p1) (TS (jQ p1)) (bU gm p1.metas) p1.t0 p1.t1)) gq (RT (wS p1))) ?_ ?_
        rotate_left
        · unfold gI wS
          generalize iC p1=K1 at *
          generalize jQ p1=I1 at *
          have hr2:=hrq (.row 0 5 64 [])
          generalize p1.t0=w0 at *
          generalize p1.t1=w1 at *
          cases w0 with
          | true=>
            cases w1 with
            | true=>
              have ek:=kF (jU dok) (s:=s1) (DD_k (n:=n) (gp:=gp) (gm:=gm) (gk:=gk) (b2:=b2) (ms:=p1.metas) (ks:=K1) (iv:=TS I1) (mv:=bU gm p1.metas) (v0:=true) (v1:=true) dok)
              have nqk:gq≠gk:=fun e=>by rw[e,ek] at hgq;cases hgq
              have nqp:gq≠gp:=fun e=>by rw[e,hr] at hgq;cases hgq
              have xr:=hr2
              have xk:=aE (y:=.row 0 5 64 []) ek hgq
              refine aF ?_;intros
              let R0:AO:=.row ((K1).length+1) 5 64 ((K1).map eT++[[.int .i64 0,.str ⟨#[]⟩,.int .i64 0,.int .i64 0,.nils]])
              let R1:AO:=.row ((K1).length+1) 5 64 ((K1).map eT++[eT (classT dX)])
              let C1:AO:=.row 0 6 0 [[hp n,TS I1,bU gm p1.metas,.row gk ((K1).length+1) 0 ((K1).length+1) 5,.bool true,.bool true]]
              have hz0:∀ X,L.aK (L.aK (L.bC (HK l n s1) (DD n gp gm gk b2 p1.metas K1 (TS I1) (bU gm p1.metas) true true)) gq (.row 0 5 64 [])) gk X gk=some X:=fun X=>aA _ _ _
              have hp1:L.aK (L.aK (L.bC (HK l n s1) (DD n gp gm gk b2 p1.metas K1 (TS I1) (bU gm p1.metas) true true)) gq (.row 0 5 64 [])) gk R0 gp=some (.row 0 6 0 [[hp n,TS I1,bU gm p1.metas,bU gk (K1),.bool true,.bool true]]):=by rw[aC dok.pk];exact xr
              have hp2:L.aK (L.aK (L.bC (HK l n s1) (DD n gp gm gk b2 p1.metas K1 (TS I1) (bU gm p1.metas) true true)) gq (.row 0 5 64 [])) gk R1 gp=some (.row 0 6 0 [[hp n,TS I1,bU gm p1.metas,bU gk (K1),.bool true,.bool true]]):=by rw[aC dok.pk];exact xr
              have hz1:L.aK (L.aK (L.bC (HK l n s1) (DD n gp gm gk b2 p1.metas K1 (TS I1) (bU gm p1.metas) true true)) gq (.row 0 5 64 [])) gk R0 gk=some R0:=aA _ _ _
              have hz3:L.aK (L.aK (L.aK (L.bC (HK l n s1) (DD n gp gm gk b2 p1.metas K1 (TS I1) (bU gm p1.metas) true true)) gq (.row 0 5 64 [])) gk R0) gp C1 gk=some R0:=by rw[aC (Ne.symm dok.pk),aA]
              refine aU (oJ aI (by rfl) 7 (by kernel_rfl) (by kernel_rfl) (by kernel_rfl) (by kernel_rfl) (by kernel_rfl) ?_)
              refine aF ?_;intros
              unfold zU
              refine⟨.ptr gk ((K1).length+1) (0+(K1).length) 0 5,.ptr gp 0 0 0 6,.ptr gp 0 0 (0+3) 6,L.aK (L.aK (L.bC (HK l n s1) (DD n gp gm gk b2 p1.metas K1 (TS I1) (bU gm p1.metas) true true)) gq (.row 0 5 64 [])) gk R1,L.aK (L.aK (L.aK (L.bC (HK l n s1) (DD n gp gm gk b2 p1.metas K1 (TS I1) (bU gm p1.metas) true true)) gq (.row 0 5 64 [])) gk R0) gp C1,L.aK (L.aK (L.aK (L.bC (HK l n s1) (DD n gp gm gk b2 p1.metas K1 (TS I1) (bU gm p1.metas) true true)) gq (.row 0 5 64 [])) gk R1) gp C1,⟨?_,?_,?_,?_,?_,?_,?_,?_,?_,?_,?_⟩⟩
              · refine sI ?_;intros
                exact⟨(K1).length,rfl,by simp,rfl⟩
              · refine sI ?_;intros
                exact⟨(K1).length,rfl,by simp,rfl⟩
              · refine sI ?_;intros
                refine kO rfl hz1 ?_
                rw[aN]
                try rfl
              · refine sI ?_;intros
                refine kO rfl hz3 ?_
                rw[cK dok.pk,aN]
                try rfl
              · exact goY
              · exact goY
              · exact goY
              · exact goY
              · refine sI ?_;intros
                exact gG hp1 (Nat.le_of_ble_eq_true rfl) rfl
              · refine sI ?_;intros
                exact gG hp2 (Nat.le_of_ble_eq_true rfl) rfl
              have hRF:R1=RT ((K1)++[classT dX]):=by simp only[R1,RT,List.map_append,List.length_append];rfl
              have hCF:C1=.row 0 6 0 [[hp n,TS I1,bU gm p1.metas,bU gk ((K1)++[classT dX]),.bool true,.bool true]]:=by simp only[C1,bU,List.length_append];rfl
              rw[hRF,hCF,cK nqk,cK nqp,DD_app dok HKk HKp]
              refine aF ?_;intros
              exact⟨by repeat' (first | exact trivial | exact rfl | refine And.intro ?_ ?_),aB _⟩
            | false=>
              refine aF ?_;intros
              refine⟨by repeat' (first | exact trivial | exact rfl | refine And.intro ?_ ?_),?_⟩
              rw[aN];exact aB _
          | false=>
            cases w1 with
            | true=>
              refine aF ?_;intros
              refine⟨by repeat' (first | exact trivial | exact rfl | refine And.intro ?_ ?_),?_⟩
              rw[aN];exact aB _
            | false=>
              refine aF ?_;intros
              exact⟨by repeat' (first | exact trivial | exact rfl | refine And.intro ?_ ?_),aB _⟩
        · obtain⟨hq1,hq2⟩:=bL.1 hgq
          unfold DD at hq2
          simp only[tC] at hq2
          have hUq:bC (HK l n s1) (DD n gp gm gk b2 p1.metas (gI p1) (TS (jQ p1)) (bU gm p1.metas) p1.t0 p1.t1) gq=none:=bL.2 ⟨hq1,by unfold DD;simp only[tC];exact hq2⟩
          have hol:(wS p1).length≤1:=by unfold wS;split;simp;split;simp;split <;> simp
          have hk2:(gI p1).length≤50002:=by unfold gI;split <;> first | omega | (rw[List.length_append];simp;omega)
          have hil:(jQ p1).length≤50000:=by unfold jQ;split <;> first | omega | simp
          refine sS (yC (d:=6) (aA _ _ _) (eQ (List.length_map _).symm)) ?_
          refine T.weak (t':=_) (S':=bC (HK l n s1) (DD n gp gm gk b2 p1.metas (gI p1) (TS (jQ p1)) (bU gm p1.metas) p1.t0 p1.t1)) ?_ (aZ _) ?_
          rotate_left
          · intro g x hx
            have hg:g≠gq:=fun e=>by rw[e,hUq] at hx;cases hx
            unfold iZ
            rw[if_neg hg,aC hg]
            exact hx
          have xr:=kF (jU dok) (s:=s1) (DD_p (n:=n) (gp:=gp) (gm:=gm) (gk:=gk) (b2:=b2) (ms:=p1.metas) (ks:=gI p1) (iv:=TS (jQ p1)) (mv:=bU gm p1.metas) (v0:=p1.t0) (v1:=p1.t1))
          have xk:=kF (jU dok) (s:=s1) (DD_k (n:=n) (gp:=gp) (gm:=gm) (gk:=gk) (b2:=b2) (ms:=p1.metas) (ks:=gI p1) (iv:=TS (jQ p1)) (mv:=bU gm p1.metas) (v0:=p1.t0) (v1:=p1.t1) dok)
          have xb:=kF (jU dok) (s:=s1) (DD_b (n:=n) (gp:=gp) (gm:=gm) (gk:=gk) (b2:=b2) (ms:=p1.metas) (ks:=gI p1) (iv:=TS (jQ p1)) (mv:=bU gm p1.metas) (v0:=p1.t0) (v1:=p1.t1) dok)
          refine aF ?_;intros
          refine gK (containsP (gI p1) 208 _ isCls_spec) ⟨pK xk (by simp),.same _,trivial⟩ (.bool _) ?_
          unfold aAd
          have hKn:=nY.of_class (kindsOf_class hnorm.k)
          generalize hK2:gI p1=K2 at *
          generalize hI2:jQ p1=I2 at *
          generalize hO2:wS p1=O2 at *
          refine aF ?_;intros
          refine And.intro (fun hcl=>?_) (fun hcl=>?_)
          · rw[if_pos hcl]
            refine aF ?_;intros
            refine aU (T.weak (t':=_) (S':=bC (HK l n s1) (DD n gp gm gk b2 p1.metas K2 (TS I2) .nils p1.t0 p1.t1)) (T_ready2 dok (HKk s1) (HKp s1) ?_) (aZ _) ?_)
            rotate_left
            · show bV (aK (bC (HK l n s1) (DD n gp gm gk b2 p1.metas K2 (TS I2) (bU gm p1.metas) p1.t0 p1.t1)) gp (.row 0 6 0 [[hp n,TS I2,.nils,bU gk K2,.bool p1.t0,.bool p1.t1]])) _
              rw[DD_set (HKp s1)]
              exact aB _
            have ff:=FF_off (iv:=TS I2) (mv:=TS ([]:List Ty)) (v0:=p1.t0) (v1:=p1.t1) dok (kv:=TS K2)
            have fp:bC (HK l n s1) (FF n gp b2 (TS I2) (TS ([]:List Ty)) (TS K2) p1.t0 p1.t1) gp=some (.row 0 6 0 [[hp n,TS I2,TS ([]:List Ty),TS K2,.bool p1.t0,.bool p1.t1]]):=kF ff (aA _ _ _)
            have fb:FF n gp b2 (TS I2) (TS ([]:List Ty)) (TS K2) p1.t0 p1.t1 b2=some (.row 0 1 0 [[hp n]]):=by unfold FF;rw[aC (Ne.symm dok.pb),aA]
            have top1:=xC k ([]:List Ty) (by first | omega | simp) ⟨by simp,by simp⟩ ff b2 fb s1
            have top2:=xC k K2 (by omega) hKn ff b2 fb s1
            have l1:(jK l ([]:List Ty)).length≤50000:=Nat.le_trans (wU l ([]:List Ty)) (by first | omega | simp)
            have l2:=wU l K2
            have h209:FnP PP 209 [.list 24 [[TS O2],[TS I2],[TS (jK l ([]:List Ty))],[TS (jK l K2)]]] (TS (O2++I2++jK l ([]:List Ty)++jK l K2)):=by
              have:=zJ [O2,I2,jK l ([]:List Ty),jK l K2] (by simp) (by simp only[List.flatten_cons,List.flatten_nil,List.length_append,List.length_nil];omega)
              have e:[O2,I2,jK l ([]:List Ty),jK l K2].flatten=O2++I2++jK l ([]:List Ty)++jK l K2:=by simp
              rw[e] at this
              exact this
            refine aT aI (by rfl) 17 (by decide) ?_
            refine aF ?_;intros
            apply Exists.intro;apply And.intro
            · conv=>whnf
              exact⟨_,aB _,top1⟩
            refine aF ?_;intros
            apply Exists.intro;apply And.intro
            · conv=>whnf
              exact⟨_,aB _,top2⟩
            refine aF ?_;intros
            refine Or.inl ?_
            refine aF ?_;intros
            refine bE h209 ?_
            refine aF ?_;intros
            exact⟨bC (HK l n s1) E,pT dQ (aM _),aO.same ⟨s1,rfl,rfl⟩⟩
          · rw[if_neg (by rw[hcl];simp)]
            refine aF ?_;intros
            refine aU (T_ready1 dok (HKm s1) (HKk s1) (HKp s1) ?_)
            have ff:=FF_off (iv:=TS I2) (mv:=TS p1.metas) (v0:=p1.t0) (v1:=p1.t1) dok (kv:=TS K2)
            have fp:bC (HK l n s1) (FF n gp b2 (TS I2) (TS p1.metas) (TS K2) p1.t0 p1.t1) gp=some (.row 0 6 0 [[hp n,TS I2,TS p1.metas,TS K2,.bool p1.t0,.bool p1.t1]]):=kF ff (aA _ _ _)
            have fb:FF n gp b2 (TS I2) (TS p1.metas) (TS K2) p1.t0 p1.t1 b2=some (.row 0 1 0 [[hp n]]):=by unfold FF;rw[aC (Ne.symm dok.pb),aA]
            have top1:=xC k p1.metas (by first | omega | simp) hnorm.named_m ff b2 fb s1
            have top2:=xC k K2 (by omega) hKn ff b2 fb s1
            have l1:(jK l p1.metas).length≤50000:=Nat.le_trans (wU l p1.metas) (by first | omega | simp)
            have l2:=wU l K2
            have h209:FnP PP 209 [.list 24 [[TS O2],[TS I2],[TS (jK l p1.metas)],[TS (jK l K2)]]] (TS (O2++I2++jK l p1.metas++jK l K2)):=by
              have:=zJ [O2,I2,jK l p1.metas,jK l K2] (by simp) (by simp only[List.flatten_cons,List.flatten_nil,List.length_append,List.length_nil];omega)
              have e:[O2,I2,jK l p1.metas,jK l K2].flatten=O2++I2++jK l p1.metas++jK l K2:=by simp
              rw[e] at this
              exact this
            refine aT aI (by rfl) 17 (by decide) ?_
            refine aF ?_;intros
            apply Exists.intro;apply And.intro
            · conv=>whnf
              exact⟨_,aB _,top1⟩
            refine aF ?_;intros
            apply Exists.intro;apply And.intro
            · conv=>whnf
              exact⟨_,aB _,top2⟩
            refine aF ?_;intros
            refine Or.inl ?_
            refine aF ?_;intros
            refine bE h209 ?_
            refine aF ?_;intros
            exact⟨bC (HK l n s1) E,pT dQ (aM _),aO.same ⟨s1,rfl,rfl⟩⟩
end
end Go.Proofs.YtbojdflgjpjbiaaGreat.L
