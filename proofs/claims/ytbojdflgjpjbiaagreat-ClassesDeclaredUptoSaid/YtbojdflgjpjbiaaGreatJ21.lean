/- A logic over the machine, and what the functions of the seat come to: part 21. No claim stands here; the theorems are used by the row. -/
import Derived.Test.YtbojdflgjpjbiaaGreatJ4
import Derived.Test.YtbojdflgjpjbiaaGreatJ5
import Derived.Test.YtbojdflgjpjbiaaGreatJ7
import Derived.Test.YtbojdflgjpjbiaaGreatJ8
import Derived.Test.YtbojdflgjpjbiaaGreatJ9
set_option linter.unusedSimpArgs false
set_option linter.unnecessarySimpa false
set_option linter.unusedVariables false
namespace Go.Proofs.YtbojdflgjpjbiaaGreat.L
open Go
section
attribute [local irreducible] T TL
set_option maxRecDepth 10000
set_option maxHeartbeats 4000000
def vZ (n:ByteArray) (c:ClassI):Bool:=decide (c.name=n)
def isO (n:ByteArray) (o:OwnT):Bool:=decide (o.slot.name=n)
theorem classR_spec (l:List ClassI) (n:ByteArray):FnP PP 22 [CS l,.str n] (.int .i64 (cQ (vZ n) l)):=by
 refine aJ aI Tryz.func22 rfl (by rfl) (by rfl) ?_
 refine cJ (bW (d:=0) rfl) fun hlen=>?_
 rw[List.length_map] at hlen
 have hml:(l.map eC).length=l.length:=List.length_map _
 refine aF ?_;intros
 refine aU (aY (α:=Nat) (inv:=fun i=>i≤l.length∧∀ j (h:j<l.length),j<i→vZ n l[j]=false) (tm:=fun i=>gF 20 [(0,CS l),(1,.str n),(5,.int .i64 i)]) (st:=fun _=>E) (μ:=fun i=>l.length - i) 0 ⟨by omega,fun j _ hj=>by omega⟩ ?_ (aB _) ?_)
 ·repeat' (first | exact trivial | exact rfl | refine And.intro ?_ ?_)
 rintro i ⟨hi,hpre⟩
 refine aF ?_;intros
 refine fC (fun hc=>?_) (fun hc=>?_)
 ·have hlt:i<l.length:=by omega
  refine aF ?_;intros
  refine fC (fun hc=>?_) (fun hc=>?_)
  ·refine aF ?_;intros
   exact⟨E,aM _,by rw[iM hlt (by unfold vZ;exact decide_eq_true hc) fun j hj h'=>hpre j h' hj],rfl⟩
  ·refine aF ?_;intros
   exact⟨i+1,⟨by omega,fun j h hj=>by
    by_cases e:j=i
    ·subst e;unfold vZ;exact decide_eq_false hc
    ·exact hpre j h (by omega)⟩,by omega,by repeat' (first | exact trivial | exact rfl | refine And.intro ?_ ?_),aB _⟩
 ·refine aF ?_;intros
  exact⟨E,aM _,by rw[eN fun j h=>hpre j h (by omega)],rfl⟩
theorem at_spec (l:List ClassI) (n:ByteArray):FnP PP 69 [CS l,.str n] (.int .i64 (cQ (vZ n) l)):=by
 refine aJ aI Tryz.func69 rfl (by rfl) (by rfl) ?_
 refine cJ (bW (d:=0) rfl) fun hlen=>?_
 rw[List.length_map] at hlen
 have hml:(l.map eC).length=l.length:=List.length_map _
 refine aF ?_;intros
 refine aU (aY (α:=Nat) (inv:=fun i=>i≤l.length∧∀ j (h:j<l.length),j<i→vZ n l[j]=false) (tm:=fun i=>gF 20 [(0,CS l),(1,.str n),(5,.int .i64 i)]) (st:=fun _=>E) (μ:=fun i=>l.length - i) 0 ⟨by omega,fun j _ hj=>by omega⟩ ?_ (aB _) ?_)
 ·repeat' (first | exact trivial | exact rfl | refine And.intro ?_ ?_)
 rintro i ⟨hi,hpre⟩
 refine aF ?_;intros
 refine fC (fun hc=>?_) (fun hc=>?_)
 ·have hlt:i<l.length:=by omega
  refine aF ?_;intros
  refine fC (fun hc=>?_) (fun hc=>?_)
  ·refine aF ?_;intros
   exact⟨E,aM _,by rw[iM hlt (by unfold vZ;exact decide_eq_true hc) fun j hj h'=>hpre j h' hj],rfl⟩
  ·refine aF ?_;intros
   exact⟨i+1,⟨by omega,fun j h hj=>by
    by_cases e:j=i
    ·subst e;unfold vZ;exact decide_eq_false hc
    ·exact hpre j h (by omega)⟩,by omega,by repeat' (first | exact trivial | exact rfl | refine And.intro ?_ ?_),aB _⟩
 ·refine aF ?_;intros
  exact⟨E,aM _,by rw[eN fun j h=>hpre j h (by omega)],rfl⟩
theorem slotR_spec (l:List OwnT) (n:ByteArray):FnP PP 24 [OS l,.str n] (.int .i64 (cQ (isO n) l)):=by
 refine aJ aI Tryz.func24 rfl (by rfl) (by rfl) ?_
 refine cJ (bW (d:=0) rfl) fun hlen=>?_
 rw[List.length_map] at hlen
 have hml:(l.map eO).length=l.length:=List.length_map _
 refine aF ?_;intros
 refine aU (aY (α:=Nat) (inv:=fun i=>i≤l.length∧∀ j (h:j<l.length),j<i→isO n l[j]=false) (tm:=fun i=>gF 21 [(0,OS l),(1,.str n),(5,.int .i64 i)]) (st:=fun _=>E) (μ:=fun i=>l.length - i) 0 ⟨by omega,fun j _ hj=>by omega⟩ ?_ (aB _) ?_)
 ·repeat' (first | exact trivial | exact rfl | refine And.intro ?_ ?_)
 rintro i ⟨hi,hpre⟩
 refine aF ?_;intros
 refine fC (fun hc=>?_) (fun hc=>?_)
 ·have hlt:i<l.length:=by omega
  refine aF ?_;intros
  refine fC (fun hc=>?_) (fun hc=>?_)
  ·refine aF ?_;intros
   exact⟨E,aM _,by rw[iM hlt (by unfold isO;exact decide_eq_true hc) fun j hj h'=>hpre j h' hj],rfl⟩
  ·refine aF ?_;intros
   exact⟨i+1,⟨by omega,fun j h hj=>by
    by_cases e:j=i
    ·subst e;unfold isO;exact decide_eq_false hc
    ·exact hpre j h (by omega)⟩,by omega,by repeat' (first | exact trivial | exact rfl | refine And.intro ?_ ?_),aB _⟩
 ·refine aF ?_;intros
  exact⟨E,aM _,by rw[eN fun j h=>hpre j h (by omega)],rfl⟩
instance (l:List ClassI) (n:ByteArray):cH 69 [CS l,.str n] (.int .i64 (cQ (vZ n) l)):=⟨at_spec l n⟩
instance (l:List OwnT) (n:ByteArray):cH 24 [OS l,.str n] (.int .i64 (cQ (isO n) l)):=⟨slotR_spec l n⟩
end
section
attribute [local irreducible] T TL
set_option maxRecDepth 10000
set_option maxHeartbeats 4000000
theorem sameInfo_spec (a b:ClassI):FnP PP 169 [CV a,CV b] (.bool (decide (a=b))):=by
 refine aJ aI Tryz.func169 rfl (by rfl) (by rfl) ?_
 refine aF ?_;intros
 refine aG fun g1 hg1=>?_
 refine aF ?_;intros
 refine aG fun g2 hg2=>?_
 have fin:∀ S:aD,decide (a=b)=false→∃ S',bV S S'∧(iY.ret (.bool false)=.ret (.bool (decide (a=b)))∧S'=E):=fun S h=>⟨E,aM _,by rw[h],rfl⟩
 have ne:∀ {α:Type} (f:ClassI→α),¬ f a=f b→decide (a=b)=false:=fun f h=>decide_eq_false fun e=>h (by rw[e])
 refine aF ?_;intros
 refine And.intro (fun h1=>?_) (fun h1=>?_)
 ·have e1:=of_decide_eq_true h1
  refine aF ?_;intros
  refine And.intro (fun h2=>?_) (fun h2=>?_)
  ·have e2:=of_decide_eq_true h2
   refine aF ?_;intros
   refine And.intro (fun h3=>?_) (fun h3=>?_)
   ·have e3:a.abs=b.abs:=by simpa using h3
    refine aF ?_;intros
    refine And.intro (fun h4=>?_) (fun h4=>?_)
    ·have e4:a.sealed=b.sealed:=by simpa using h4
     refine aF ?_;intros
     refine And.intro (fun h5=>?_) (fun h5=>?_)
     ·have e5:=of_decide_eq_true h5
      refine aF ?_;intros
      refine⟨E,aM _,?_,rfl⟩
      have:decide (a=b)=decide (a.cpl=b.cpl):=by
       cases a;cases b
       simp only at e1 e2 e3 e4 e5
       subst e1 e2 e3 e4 e5
       simp
      rw[this]
     ·have h5:=of_decide_eq_false h5
      refine aF ?_;intros
      exact fin _ (ne _ h5)
    ·have h4:¬ a.sealed=b.sealed:=by simpa using h4
     refine aF ?_;intros
     exact fin _ (ne _ h4)
   ·have h3:¬ a.abs=b.abs:=by simpa using h3
    refine aF ?_;intros
    exact fin _ (ne _ h3)
  ·have h2:=of_decide_eq_false h2
   refine aF ?_;intros
   exact fin _ (ne _ h2)
 ·have h1:=of_decide_eq_false h1
  refine aF ?_;intros
  exact fin _ (ne _ h1)
instance (a b:ClassI):cH 169 [CV a,CV b] (.bool (decide (a=b))):=⟨sameInfo_spec a b⟩
theorem sameHier_spec (a b:List ClassI):FnP PP 133 [CS a,CS b] (.bool (decide (a=b))):=by
 refine aJ aI Tryz.func133 rfl (by rfl) (by rfl) ?_
 refine cJ (bW (d:=0) rfl) fun hla=>?_
 refine cJ (bW (d:=1) rfl) fun hlb=>?_
 rw[List.length_map] at hla hlb
 have ma:(a.map eC).length=a.length:=List.length_map _
 have mb:(b.map eC).length=b.length:=List.length_map _
 refine aF ?_;intros
 refine ifN (fun hn=>?_) (fun hn=>?_)
 ·refine aF ?_;intros
  have hd:decide (a=b)=false:=decide_eq_false fun e=>by subst e;exact hn rfl
  exact⟨E,aM _,by rw[hd],rfl⟩
 ·have hl:a.length=b.length:=by omega
  refine aF ?_;intros
  refine aU (aY (α:=Nat) (inv:=fun i=>i≤a.length∧∀ j (h1:j<a.length) (h2:j<b.length),j<i→a[j]=b[j]) (tm:=fun i=>gF 27 [(0,CS a),(1,CS b),(5,.int .i64 i)]) (st:=fun _=>E) (μ:=fun i=>a.length - i) 0 ⟨by omega,fun j _ _ hj=>by omega⟩ ?_ (aB _) ?_)
  ·repeat' (first | exact trivial | exact rfl | refine And.intro ?_ ?_)
  rintro i ⟨hi,hpre⟩
  refine aF ?_;intros
  refine fC (fun hc=>?_) (fun hc=>?_)
  ·have h1:i<a.length:=by omega
   have h2:i<b.length:=by omega
   refine aF ?_;intros
   refine aU (aT aI (by rfl) 10 (by decide) ?_)
   refine aF ?_;intros
   refine ifN (fun hn=>?_) (fun hn=>?_)
   ·refine aF ?_;intros
    have hd:decide (a=b)=false:=decide_eq_false fun e=>by subst e;exact hn rfl
    exact⟨E,aM _,by rw[hd],rfl⟩
   ·refine aF ?_;intros
    exact⟨i+1,⟨by omega,fun j g1 g2 hj=>by
     by_cases e:j=i
     ·subst e;exact hn
     ·exact hpre j g1 g2 (by omega)⟩,by omega,by repeat' (first | exact trivial | exact rfl | refine And.intro ?_ ?_),aB _⟩
  ·refine aF ?_;intros
   refine⟨E,aM _,?_,rfl⟩
   have hd:decide (a=b)=true:=decide_eq_true (List.ext_getElem hl fun j g1 g2=>hpre j g1 g2 (by omega))
   rw[hd]
instance (a b:List ClassI):cH 133 [CS a,CS b] (.bool (decide (a=b))):=⟨sameHier_spec a b⟩
end
section
attribute [local irreducible] T TL
set_option maxRecDepth 10000
set_option maxHeartbeats 4000000
theorem vG (l:List ClassI) (hl:l.length≤200):Fn PP 136 [CS l] E fun o S'=>∃ g ver,o=.ret (.row g ver 0 l.length 2)∧S'=aK E g (.row ver 2 40 ((hsOf l).map eH)):=by
 refine aJ aI Tryz.func136 rfl (by rfl) (by rfl) ?_
 have ml:(l.map eC).length=l.length:=List.length_map _
 refine aF ?_;intros
 refine aU (gJ 3 2 40 rfl fun g hg=>?_)
 let st:Nat→aD:=fun i=>aK E g (.row i 2 40 ((hsOf (l.take i)).map eH))
 have hS:∀ i,st i g=some (.row i 2 40 ((hsOf (l.take i)).map eH)):=fun i=>aA _ _ _
 refine aY (α:=Nat) (inv:=fun i=>i≤l.length) (tm:=fun i=>gF 26 [(0,CS l),(3,.row g i 0 i 2),(4,.int .i64 i)]) (st:=st) (μ:=fun i=>l.length - i) 0 (by omega) ?_ (aB _) ?_
 ·repeat' (first | exact trivial | exact rfl | refine And.intro ?_ ?_)
 intro i hi
 have hSi:=hS i
 refine aF ?_;intros
 refine fC (fun hc=>?_) (fun hc=>?_)
 ·have hlt:i<l.length:=by omega
  refine aF ?_;intros
  have hlen:((hsOf (l.take i)).map eH).length=i:=by simp[hsOf];omega
  have hrow:(hsOf (l.take i)).map eH++[[PV.str l[i].name,LS l[i].supers]]=(hsOf (l.take (i+1))).map eH:=by
   rw[List.take_succ_eq_append_getElem hlt];unfold hsOf;rw[List.map_append,List.map_append];rfl
  refine aU (T_drawS aI (by rfl) 13 (by kernel_rfl) ?_)
  refine aF ?_;intros
  refine And.intro hlen (And.intro rfl (And.intro (show (i+1)*40≤140737488355328 by omega) ?_))
  refine aF ?_;intros
  refine⟨i+1,by omega,by omega,?_,?_⟩
  ·repeat' (first | exact trivial | exact rfl | refine And.intro ?_ ?_)
  ·exact fE (by rw[aA];exact congrArg (fun z=>some (AO.row (i+1) 2 40 z)) hrow)
 ·refine aF ?_;intros
  have e:i=l.length:=by omega
  subst e
  rw[List.take_length] at hSi
  exact⟨_,aB _,g,l.length,rfl,by simp only[st];rw[List.take_length]⟩
theorem heirsR_spec (l:List ClassI) (hl:l.length≤200):FnP PP 136 [CS l] (HS (hsOf l)):=
 cL (fO (vG l hl) fun o S' ⟨g,ver,h1,h2⟩=>by
  subst h1;subst h2
  exact aO.freeze (aA _ _ _) (eQ (by simp[hsOf])) (aO.weak (aM _) (aO.same ⟨rfl,rfl⟩)))
end
section
attribute [local irreducible] T TL
set_option maxRecDepth 10000
set_option maxHeartbeats 4000000
theorem baseR_spec:FnP PP 98 [] (CS baseL):=by
 refine cL (aJ aI Tryz.func98 rfl (by rfl) (by rfl) ?_)
 refine aF ?_;intros
 refine .inl ?_
 refine aF ?_;intros
 refine .inl ?_
 refine aF ?_;intros
 refine .inl ?_
 refine aF ?_;intros
 refine .inl ?_
 refine aF ?_;intros
 refine .inl ?_
 refine aF ?_;intros
 refine .inl ?_
 refine aF ?_;intros
 refine .inl ?_
 refine aF ?_;intros
 refine .inl ?_
 refine aF ?_;intros
 refine .inl ?_
 refine aF ?_;intros
 refine .inl ?_
 refine aF ?_;intros
 refine .inl ?_
 refine aF ?_;intros
 have h:CS baseL=.list 88 (eC (eA aP [] true false)::(baseL.drop 1).map eC):=rfl
 refine⟨E,aM _,aO.nilv (q:=CS baseL) ?_ (aO.same ⟨rfl,rfl⟩)⟩
 rw[h]
 exact rA ⟨.same _,.same _,.nils 16,.same _,.same _,.same _,trivial⟩ (.same _)
instance:cH 98 [] (CS baseL):=⟨baseR_spec⟩
end
section
attribute [local irreducible] T TL
set_option maxRecDepth 10000
set_option maxHeartbeats 4000000
def startsR (n:Nat):Code→Bool
 | .region m _ _=>decide (m=n)
 | .seq a _=>startsR n a
 | _=>false
def zL (n:Nat):Code→Option Code
 | .seq a b=>match startsR n a with
  | true=>some (.seq a b)
  | false=>(zL n a).orElse fun _=>zL n b
 | .block _ c=>zL n c
 | .loop c=>zL n c
 | .scope c=>zL n c
 | .cond _ a b=>(zL n a).orElse fun _=>zL n b
 | .region m o d=>if m=n then some (.region m o d) else none
 | _=>none
noncomputable def rst (f:Func) (n:Nat):Code:=match f.body with
 | some c=>(zL n c).getD .skip
 | none=>.skip
def sF (pre:List ClassI) (lib s:ByteArray):Bool:=match pre[(cQ (vZ s) pre).toNat]? with
 | some c=>decide (0≤cQ (vZ s) pre) && !(decide (1≤cQ (vZ s) pre) && decide (cQ (vZ s) pre≤4)) && !(c.sealed && !decide (c.lib=lib))
 | none=>false
def dU (pre:List ClassI) (c:ClassI):Bool:=
 !decide (c.name=⟨#[]⟩) && decide (c.name.size≤100) && decide (cQ (vZ c.name) pre<0) && decide (1≤c.supers.length) && decide (c.supers.length≤8) && decide c.supers.Nodup && c.supers.all (sF pre c.lib)
theorem tail134 (l:List ClassI) (hl:l.length≤200) (i:Nat) (hi:i<l.length) (hsl:l[i].supers.length≤8) (hall:l[i].supers.all (sF (l.take i) l[i].lib)=true→dU (l.take i) l[i]=true)
    (hsome:∀ s∈l[i].supers,sF (l.take i) l[i].lib s=false→dU (l.take i) l[i]=false) (b:Nat) (Z:aD) (kb:Z b=some (.row 0 6 0 [eC l[i]])) :
    T PP none (rst Tryz.f134 4) (endX GT Tryz.f134.results.toList fun o S'=>o=.ret (.bool (dU (l.take i) l[i]))∧S'=E) (gF 91 [(0,CS l),(1,.int .i64 i),(5,.ptr b 0 0 0 6)]) Z []:=by
  have ml:(l.map eC).length=l.length:=List.length_map _
  have msu:(l[i].supers.map eS).length=l[i].supers.length:=List.length_map _
  refine aF ?_;intros
  refine aU (aY (α:=Nat) (inv:=fun k=>k≤l[i].supers.length∧∀ s∈l[i].supers.take k,sF (l.take i) l[i].lib s=true) (tm:=fun k=>gF 91 [(0,CS l),(1,.int .i64 i),(5,.ptr b 0 0 0 6),(6,.int .i64 k)]) (st:=fun _=>Z) (μ:=fun k=>l[i].supers.length - k) 0 ⟨by omega,by simp⟩ ?_ (aB _) ?_)
  · repeat' (first | exact trivial | exact rfl | refine And.intro ?_ ?_)
  rintro k ⟨hk,hpre⟩
  refine aF ?_;intros
  refine fC (fun hc=>?_) (fun hc=>?_)
  · have hkl:k<l[i].supers.length:=by omega
    refine aF ?_;intros
    refine aU (aT aI (by rfl) 10 (by kernel_rfl) ?_)
    refine aF ?_;intros
    have bad:sF (l.take i) l[i].lib l[i].supers[k]=false→∃ S',bV Z S'∧(iY.ret (.bool false)=.ret (.bool (dU (l.take i) l[i]))∧S'=E):=fun h=>⟨E,aM _,by rw[hsome _ (List.getElem_mem hkl) h],rfl⟩
    have eZ:sF (l.take i) l[i].lib l[i].supers[k]=true→∀ s∈l[i].supers.take (k+1),sF (l.take i) l[i].lib s=true:=fun h s hs=>by
      rw[List.take_succ_eq_append_getElem hkl,List.mem_append] at hs
      rcases hs with hs | hs
      · exact hpre s hs
      · rw[List.mem_singleton.1 hs];exact h
    rcases fJ (vZ l[i].supers[k]) (l.take i) with ⟨e,_⟩ | ⟨m,hm,e,_,_⟩
    · have hb:sF (l.take i) l[i].lib l[i].supers[k]=false:=by
        unfold sF;rw[e]
        cases (l.take i)[(-1:Int).toNat]? <;> simp
      rw[e]
      refine aU (aT aI (by rfl) 27 (by kernel_rfl) ?_)
      refine aF ?_;intros
      exact bad hb
    · have hmi:m<l.length:=by rw[List.length_take] at hm;omega
      have hsup:sF (l.take i) l[i].lib l[i].supers[k]=(!(decide ((1:Int)≤m) && decide ((m:Int)≤4)) && !(l[m].sealed && !decide (l[m].lib=l[i].lib))):=by
        unfold sF;rw[e,Int.toNat_natCast,List.getElem?_eq_getElem hm]
        simp only[List.getElem_take]
        rw[decide_eq_true (show (0:Int)≤m by omega)];rfl
      rw[e]
      rw[hsup] at bad eZ
      refine aU (aT aI (by rfl) 27 (by kernel_rfl) ?_)
      refine aF ?_;intros
      refine And.intro (fun g1=>?_) (fun g1=>?_)
      · rw[g1] at bad eZ
        refine aF ?_;intros
        refine And.intro (fun h1=>?_) (fun h1=>?_)
        · rw[h1] at bad eZ
          refine aF ?_;intros
          refine And.intro (fun s1=>?_) (fun s1=>?_)
          · rw[s1] at bad eZ
            refine aF ?_;intros
            refine And.intro (fun s2=>?_) (fun s2=>?_)
            · refine aF ?_;intros
              exact bad (by
                 have:decide (l[m].lib=l[i].lib)=false:=by simpa using s2
                 rw[this];rfl)
            · refine aF ?_;intros
              exact⟨k+1,⟨by omega,eZ (by
                 have:decide (l[m].lib=l[i].lib)=true:=by simpa using s2
                 rw[this];rfl)⟩,by omega,by repeat' (first | exact trivial | exact rfl | refine And.intro ?_ ?_),aB _⟩
          · rw[show l[m].sealed=false from s1] at bad eZ
            refine aF ?_;intros
            exact⟨k+1,⟨by omega,eZ (by rfl)⟩,by omega,by repeat' (first | exact trivial | exact rfl | refine And.intro ?_ ?_),aB _⟩
        · rw[show decide ((m:Int)≤4)=true from h1] at bad eZ
          refine aF ?_;intros
          exact bad rfl
      · rw[show decide ((1:Int)≤m)=false from g1] at bad eZ
        refine aF ?_;intros
        refine And.intro (fun s1=>?_) (fun s1=>?_)
        · rw[s1] at bad eZ
          refine aF ?_;intros
          refine And.intro (fun s2=>?_) (fun s2=>?_)
          · refine aF ?_;intros
            exact bad (by
               have:decide (l[m].lib=l[i].lib)=false:=by simpa using s2
               rw[this];rfl)
          · refine aF ?_;intros
            exact⟨k+1,⟨by omega,eZ (by
               have:decide (l[m].lib=l[i].lib)=true:=by simpa using s2
               rw[this];rfl)⟩,by omega,by repeat' (first | exact trivial | exact rfl | refine And.intro ?_ ?_),aB _⟩
        · rw[show l[m].sealed=false from s1] at bad eZ
          refine aF ?_;intros
          exact⟨k+1,⟨by omega,eZ (by rfl)⟩,by omega,by repeat' (first | exact trivial | exact rfl | refine And.intro ?_ ?_),aB _⟩
  · refine aF ?_;intros
    refine⟨E,aM _,?_,rfl⟩
    rw[hall (List.all_eq_true.2 fun s hs=>hpre s (by rw[List.take_of_length_le (by omega)];exact hs))]
end
end Go.Proofs.YtbojdflgjpjbiaaGreat.L
