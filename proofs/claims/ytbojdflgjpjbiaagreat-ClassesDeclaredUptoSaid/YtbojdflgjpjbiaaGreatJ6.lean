/- A logic over the machine, and what the functions of the seat come to: part 6. No claim stands here; the theorems are used by the row. -/
import Derived.Test.YtbojdflgjpjbiaaGreatJ3
import Derived.Test.YtbojdflgjpjbiaaGreatJ5
set_option linter.unusedSimpArgs false
set_option linter.unnecessarySimpa false
set_option linter.unusedVariables false
namespace Go.Proofs.YtbojdflgjpjbiaaGreat.L
open Go
section
attribute [local irreducible] T TL
abbrev eS (s:ByteArray):List PV:=[.str s]
abbrev LS (l:List ByteArray):PV:=.list 16 (l.map eS)
abbrev eL (l:List ByteArray):List PV:=[LS l]
abbrev uN (l:List (List ByteArray)):PV:=.list 24 (l.map eL)
def cQ {α:Type} (p:α→Bool):List α→Int
 | []=>-1
 | x::l=>if p x then 0 else if cQ p l<0 then -1 else cQ p l+1
theorem iM {α:Type} {p:α→Bool}:∀ {l:List α} {i:Nat} (hi:i<l.length),p l[i]=true→(∀ j (_:j<i) (h':j<l.length),p l[j]=false)→cQ p l=i
 | x::l,0,hi,h,_=>by have h':p x=true:=h;simp[cQ,h']
 | x::l,i+1,hi,h,hp=>by
  have h0:=hp 0 (by omega) (by simp)
  have ih:=iM (p:=p) (l:=l) (i:=i) (by simpa using hi) (by simpa using h) (fun j hj h'=>by have:=hp (j+1) (by omega) (by simpa using h');simpa using this)
  simp at h0
  simp only[cQ,h0,Bool.false_eq_true,if_false,ih]
  rw[if_neg (by omega)];simp
theorem eN {α:Type} {p:α→Bool}:∀ {l:List α},(∀ j (h':j<l.length),p l[j]=false)→cQ p l=-1
 | [],_=>rfl
 | x::l,hp=>by
  have h0:=hp 0 (by simp)
  have ih:=eN (p:=p) (l:=l) (fun j h'=>by have:=hp (j+1) (by simpa using h');simpa using this)
  simp at h0
  simp[cQ,h0,ih]
theorem fJ {α:Type} (p:α→Bool) (l:List α):(cQ p l=-1∧∀ j (h':j<l.length),p l[j]=false)∨(∃ i,∃ hi:i<l.length,cQ p l=i∧p l[i]=true∧∀ j (_:j<i) (h':j<l.length),p l[j]=false):=by
 by_cases h:∃ i,∃ hi:i<l.length,p l[i]=true
 ·have h2:∃ i,∃ hi:i<l.length,p l[i]=true∧∀ j (_:j<i) (h':j<l.length),p l[j]=false:=by
   obtain⟨i,hi⟩:=h
   induction i using Nat.strongRecOn with
   | _ i ih=>
    by_cases h3:∃ j,j<i∧∃ hj:j<l.length,p l[j]=true
    ·obtain⟨j,h4,h5⟩:=h3
     exact ih j h4 h5
    ·obtain⟨h6,h7⟩:=hi
     refine⟨i,h6,h7,fun j hj h'=>?_⟩
     cases e:p l[j] with
     | false=>rfl
     | true=>exact absurd ⟨j,hj,h',e⟩ h3
  obtain⟨i,hi,h3,h4⟩:=h2
  exact .inr ⟨i,hi,iM hi h3 h4,h3,h4⟩
 ·have h2:∀ j (h':j<l.length),p l[j]=false:=fun j hj=>by
   cases e:p l[j] with
   | false=>rfl
   | true=>exact absurd ⟨j,hj,e⟩ h
  exact .inl ⟨eN h2,h2⟩
theorem nI {α:Type} (p:α→Bool) (l:List α):decide (cQ p l≥0)=l.any p:=by
 rcases fJ p l with ⟨h1,h2⟩ | ⟨i,hi,h1,h2,h3⟩
 ·rw[h1]
  symm
  simp only[ge_iff_le]
  have:l.any p=false:=by
   rw[List.any_eq_false]
   intro x hx
   obtain⟨j,hj,rfl⟩:=List.getElem_of_mem hx
   simp[h2 j hj]
  rw[this];decide
 ·rw[h1]
  have:l.any p=true:=List.any_eq_true.2 ⟨l[i],List.getElem_mem hi,h2⟩
  rw[this];simp
def nL (s:ByteArray) (x:ByteArray):Bool:=decide (s=x)
set_option maxRecDepth 10000
theorem index_spec (l:List ByteArray) (s:ByteArray):FnP PP 59 [LS l,.str s] (.int .i64 (cQ (nL s) l)):=by
 refine aJ aI Tryz.func59 rfl (by rfl) (by rfl) ?_
 refine aX ?_;intros
 refine aU (aY (α:=Nat) (inv:=fun i=>i≤l.length∧∀ j (_:j<i) (h':j<l.length),nL s l[j]=false) (tm:=fun i=>gF 19 [(0,LS l),(1,.str s),(7,.int .i64 l.length),(8,.int .i64 i)]) (st:=fun _=>E) (μ:=fun i=>l.length - i) 0 ⟨by omega,by simp⟩ ?_ (aB _) ?_)
 ·repeat' (first | exact trivial | exact rfl | refine And.intro ?_ ?_)
  simp
 rintro i ⟨hi,hpre⟩
 refine aX ?_;intros
 refine And.intro (fun hc=>?_) (fun hc=>?_)
 ·have hlt:i<l.length:=by simpa using hc
  refine aX ?_;intros
  refine bS hlt ?_
  refine aX ?_;intros
  refine And.intro (fun hc=>?_) (fun hc=>?_)
  ·conv=>whnf
   refine aX ?_;intros
   refine Exists.intro _ (And.intro (aB _) ?_)
   exact⟨by rw[iM hlt hc hpre],rfl⟩
  ·conv=>whnf
   refine aX ?_;intros
   refine⟨i+1,⟨by omega,fun j hj h'=>?_⟩,by omega,?_,aB _⟩
   ·by_cases e:j=i
    ·subst e;exact hc
    ·exact hpre j (by omega) h'
   ·repeat' (first | exact trivial | exact rfl | refine And.intro ?_ ?_)
 ·have hge:¬ i<l.length:=by simpa using hc
  refine aX ?_;intros
  refine Exists.intro _ (And.intro (aB _) ?_)
  exact⟨by rw[eN fun j h'=>hpre j (by omega) h'],rfl⟩
theorem mT (l:List ByteArray) (s:ByteArray):FnP PP 80 [LS l,.str s] (.bool (l.any (nL s))):=by
 refine aJ aI Tryz.func80 rfl (by rfl) (by rfl) ?_
 refine aX ?_;intros
 refine bE (index_spec l s) ?_
 refine aX ?_;intros
 refine Exists.intro _ (And.intro (aB _) ?_)
 exact⟨by rw[← nI],rfl⟩
theorem indexFunc_spec (l:List (List ByteArray)) (k:Nat) (a c:List PV) (p:List ByteArray→Bool) (hp:∀ x∈l,FnP PP k (a++[LS x]++c) (.bool (p x))):FnP PP 269 [uN l,.fn (.func k) a c] (.int .i64 (cQ p l)):=by
 refine aJ aI Tryz.func269 rfl (by rfl) (by rfl) ?_
 refine aX ?_;intros
 refine aU (aY (α:=Nat) (inv:=fun i=>i≤l.length∧∀ j (_:j<i) (h':j<l.length),p l[j]=false) (tm:=fun i=>gF 19 [(0,uN l),(1,.fn (.func k) a c),(7,.int .i64 l.length),(8,.int .i64 i)]) (st:=fun _=>E) (μ:=fun i=>l.length - i) 0 ⟨by omega,by simp⟩ ?_ (aB _) ?_)
 ·repeat' (first | exact trivial | exact rfl | refine And.intro ?_ ?_)
  simp
 rintro i ⟨hi,hpre⟩
 refine aX ?_;intros
 refine And.intro (fun hc=>?_) (fun hc=>?_)
 ·have hlt:i<l.length:=by simpa using hc
  refine aX ?_;intros
  refine bS hlt ?_
  refine aX ?_;intros
  simp only[iS]
  refine bE (hp _ (List.getElem_mem hlt)) ?_
  refine aX ?_;intros
  refine And.intro (fun hc=>?_) (fun hc=>?_)
  ·conv=>whnf
   refine aX ?_;intros
   refine Exists.intro _ (And.intro (aB _) ?_)
   exact⟨by rw[iM hlt hc hpre],rfl⟩
  ·conv=>whnf
   refine aX ?_;intros
   refine⟨i+1,⟨by omega,fun j hj h'=>?_⟩,by omega,?_,aB _⟩
   ·by_cases e:j=i
    ·subst e;exact hc
    ·exact hpre j (by omega) h'
   ·repeat' (first | exact trivial | exact rfl | refine And.intro ?_ ?_)
 ·have hge:¬ i<l.length:=by simpa using hc
  refine aX ?_;intros
  refine Exists.intro _ (And.intro (aB _) ?_)
  exact⟨by rw[eN fun j h'=>hpre j (by omega) h'],rfl⟩
theorem wV (l:List (List ByteArray)) (k:Nat) (a c:List PV) (p:List ByteArray→Bool) (hp:∀ x∈l,FnP PP k (a++[LS x]++c) (.bool (p x))):FnP PP 252 [uN l,.fn (.func k) a c] (.bool (l.any p)):=by
 refine aJ aI Tryz.func252 rfl (by rfl) (by rfl) ?_
 refine aX ?_;intros
 refine bE (indexFunc_spec l k a c p hp) ?_
 refine aX ?_;intros
 refine Exists.intro _ (And.intro (aB _) ?_)
 exact⟨by rw[← nI],rfl⟩
def yJ (l:List ByteArray):MK→Option PV
 | .s b=>if l.any (nL b)=true then some (.bool true) else none
 | .i _=>none
theorem jE {s:ByteArray} {l:List ByteArray}:l.any (nL s)=true↔s∈l:=by
 simp[List.any_eq_true,nL]
theorem setM_nil:(fun _=>none:MK→Option PV)=yJ []:=by funext k;cases k <;> simp[yJ]
theorem setM_add (l:List ByteArray) (s:ByteArray):fD (yJ l) (.s s) (.bool true)=yJ (l++[s]):=by
 funext k
 cases k with
 | i n=>simp[fD,yJ]
 | s b=>
  by_cases h:b=s
  ·simp[fD,yJ,h,nL]
  ·have h2:nL b s=false:=by simp[nL,h]
   simp only[fD,yJ,List.any_append,List.any_cons,List.any_nil,h2,Bool.or_false]
   rw[if_neg (by simpa using h)]
theorem setM_get {l:List ByteArray} {s:ByteArray}:yJ l (.s s)=if l.any (nL s)=true then some (.bool true) else none:=rfl
theorem nodup_take {l:List ByteArray} {i:Nat} (h:(l.take i).Nodup) (hi:i<l.length) (hn:l[i]∉l.take i):(l.take (i+1)).Nodup:=by
 rw[List.take_succ_eq_append_getElem hi,List.nodup_append]
 refine⟨h,by simp,fun a ha b hb=>?_⟩
 simp at hb;subst hb
 rintro rfl;exact hn ha
theorem not_nodup {l:List ByteArray} {i:Nat} (hi:i<l.length) (hn:l[i]∈l.take i):¬ l.Nodup:=by
 intro h
 have h1:(l.take (i+1)).Nodup:=h.sublist (List.take_sublist _ _)
 rw[List.take_succ_eq_append_getElem hi,List.nodup_append] at h1
 exact h1.2.2 _ hn _ (by simp) rfl
theorem mergedF_spec (l:List ByteArray):FnP PP 253 [LS l] (.bool (decide (l.length > 0))):=by
 refine aJ aI Tryz.func253 rfl (by rfl) (by rfl) ?_
 refine aX ?_;intros
 refine Exists.intro _ (And.intro (aB _) ?_)
 exact⟨by simp,rfl⟩
theorem find_at {α:Type} {p:α→Bool}:∀ {l:List α} {i:Nat} (hi:i<l.length),p l[i]=true→(∀ j (_:j<i) (h':j<l.length),p l[j]=false)→l.find? p=some l[i]
 | x::l,0,hi,h,_=>by have h':p x=true:=h;simp[h']
 | x::l,i+1,hi,h,hp=>by
  have h0:=hp 0 (by omega) (by simp)
  simp at h0
  have ih:=find_at (p:=p) (l:=l) (i:=i) (by simpa using hi) (by simpa using h) (fun j hj h'=>by have:=hp (j+1) (by omega) (by simpa using h');simpa using this)
  simp[h0,ih]
theorem find_no {α:Type} {p:α→Bool} {l:List α} (h:∀ j (h':j<l.length),p l[j]=false):l.find? p=none:=by
 rw[List.find?_eq_none]
 intro x hx
 obtain⟨j,hj,rfl⟩:=List.getElem_of_mem hx
 simp[h j hj]
def eZ (l:List (List ByteArray)):List ByteArray→Bool
 | []=>false
 | h::_=>l.all fun y=>!(y.tail.any (nL h))
def candV (l:List (List ByteArray)):PV:=
 match l.find? (eZ l) with
 | some (h::_)=>.tup [.str h,.bool true]
 | _=>.tup [.str ByteArray.empty,.bool false]
theorem candV_some {l:List (List ByteArray)} {x:List ByteArray} (hx:0<x.length) (h:l.find? (eZ l)=some x):candV l=.tup [.str x[0],.bool true]:=by
 unfold candV
 rw[h]
 cases x with
 | nil=>simp at hx
 | cons a t=>rfl
theorem good_no {l:List (List ByteArray)} {x y:List ByteArray} (hx:0<x.length) (hy:y∈l) (h:y.tail.any (nL x[0])=true):eZ l x=false:=by
 cases x with
 | nil=>simp at hx
 | cons a t=>
  simp only[eZ]
  rw[List.all_eq_false]
  exact⟨y,hy,by simpa using h⟩
theorem good_yes {l:List (List ByteArray)} {x:List ByteArray} (hx:0<x.length) (h:∀ y∈l,y.tail.any (nL x[0])=false):eZ l x=true:=by
 cases x with
 | nil=>simp at hx
 | cons a t=>
  simp only[eZ]
  rw[List.all_eq_true]
  intro y hy
  have:=h y hy
  simp only[List.getElem_cons_zero] at this
  simp[this]
theorem candidate_spec (l:List (List ByteArray)):FnP PP 254 [uN l] (candV l):=by
 refine aJ aI Tryz.func254 rfl (by rfl) (by rfl) ?_
 refine aX ?_;intros
 refine aU (aY (α:=Nat) (inv:=fun i=>i≤l.length∧∀ j (_:j<i) (h':j<l.length),eZ l l[j]=false) (tm:=fun i=>gF 39 [(0,uN l),(8,uN l),(9,.int .i64 l.length),(10,.int .i64 i)]) (st:=fun _=>E) (μ:=fun i=>l.length - i) 0 ⟨by omega,by simp⟩ ?_ (aB _) ?_)
 ·repeat' (first | exact trivial | exact rfl | refine And.intro ?_ ?_)
  simp
 rintro i ⟨hi,hpre⟩
 refine aX ?_;intros
 refine And.intro (fun hc=>?_) (fun hc=>?_)
 ·have hlt:i<l.length:=by simpa using hc
  refine aX ?_;intros
  refine bS hlt ?_
  refine aX ?_;intros
  refine And.intro (fun hc=>?_) (fun hc=>?_)
  ·conv=>whnf
   refine aX ?_;intros
   have hz:l[i]=[]:=by simpa using hc
   refine⟨i+1,⟨by omega,fun j hj h'=>?_⟩,by omega,?_,aB _⟩
   ·by_cases e:j=i
    ·subst e;rw[hz];rfl
    ·exact hpre j (by omega) h'
   ·repeat' (first | exact trivial | exact rfl | refine And.intro ?_ ?_)
  ·have hne:0<l[i].length:=by simpa[List.length_pos_iff] using hc
   refine aX ?_;intros
   refine aU (aY (α:=Nat) (inv:=fun j=>j≤l.length∧∀ m (_:m<j) (h':m<l.length),l[m].tail.any (nL l[i][0])=false) (tm:=fun j=>gF 39 [(0,uN l),(5,LS l[i]),(8,uN l),(9,.int .i64 l.length),(10,.int .i64 i),(17,uN l),(18,.int .i64 l.length),(19,.int .i64 j)]) (st:=fun _=>E) (μ:=fun j=>l.length - j) 0 ⟨by omega,by simp⟩ ?_ (aB _) ?_)
   ·repeat' (first | exact trivial | exact rfl | refine And.intro ?_ ?_)
    simp
   rintro j ⟨hj,hpj⟩
   refine aX ?_;intros
   refine And.intro (fun hc=>?_) (fun hc=>?_)
   ·have hjl:j<l.length:=by simpa using hc
    refine aX ?_;intros
    refine bS hjl ?_
    refine aX ?_;intros
    refine aU (aT aI (by rfl) 11 (by decide) ?_)
    conv=>whnf
    apply Exists.intro;apply And.intro
    ·conv=>whnf
    conv=>whnf
    apply Exists.intro;apply And.intro
    ·conv=>whnf
     exact goE
    conv=>whnf
    apply Exists.intro;apply And.intro
    ·conv=>whnf
    conv=>whnf
    apply Exists.intro;apply And.intro
    ·conv=>whnf
    conv=>whnf
    refine And.intro (fun hc=>?_) (fun hc=>?_)
    ·have hnj:0<l[j].length:=by simpa using hc
     conv=>whnf
     apply Exists.intro;apply And.intro
     ·conv=>whnf
     refine aX ?_;intros
     refine⟨LS l[j].tail,?_,?_⟩
     ·conv=>whnf
      refine aX ?_;intros
      refine kN (l:=1) rfl (by omega) ?_
      rw[List.drop_one]
     refine aX ?_;intros
     apply Exists.intro;apply And.intro
     ·conv=>whnf
     refine aX ?_;intros
     apply Exists.intro;apply And.intro
     ·conv=>whnf
      refine bS (i:=0) hne ?_
      exact goE
     refine aX ?_;intros
     apply Exists.intro;apply And.intro
     ·conv=>whnf
     refine aX ?_;intros
     apply Exists.intro;apply And.intro
     ·conv=>whnf
      exact⟨E,aM _,mT _ _⟩
     refine aX ?_;intros
     apply Exists.intro;apply And.intro
     ·conv=>whnf
      exact goE
     refine aX ?_;intros
     refine And.intro (fun hc=>?_) (fun hc=>?_)
     ·conv=>whnf
      refine aX ?_;intros
      refine⟨i+1,⟨by omega,fun j' hj' h'=>?_⟩,by omega,?_,aB _⟩
      ·by_cases e:j'=i
       ·subst e
        exact good_no hne (List.getElem_mem hjl) hc
       ·exact hpre j' (by omega) h'
      ·repeat' (first | exact trivial | exact rfl | refine And.intro ?_ ?_)
     ·conv=>whnf
      refine aX ?_;intros
      refine⟨j+1,⟨by omega,fun m hm h'=>?_⟩,by omega,?_,aB _⟩
      ·by_cases e:m=j
       ·subst e;exact hc
       ·exact hpj m (by omega) h'
      ·repeat' (first | exact trivial | exact rfl | refine And.intro ?_ ?_)
    ·have hnj:l[j]=[]:=by simpa using hc
     refine aX ?_;intros
     apply Exists.intro;apply And.intro
     ·conv=>whnf
      exact goE
     refine aX ?_;intros
     refine⟨j+1,⟨by omega,fun m hm h'=>?_⟩,by omega,?_,aB _⟩
     ·by_cases e:m=j
      ·subst e;rw[hnj];rfl
      ·exact hpj m (by omega) h'
     ·repeat' (first | exact trivial | exact rfl | refine And.intro ?_ ?_)
   ·have hge:¬ j<l.length:=by simpa using hc
    refine aX ?_;intros
    refine bS (i:=0) hne ?_
    refine aX ?_;intros
    refine Exists.intro _ (And.intro (aB _) ?_)
    refine⟨?_,rfl⟩
    have hg:eZ l l[i]=true:=good_yes hne fun y hy=>by
     obtain⟨m,hm,rfl⟩:=List.getElem_of_mem hy
     exact hpj m (by omega) hm
    rw[candV_some hne (find_at hlt hg hpre)]
 ·have hge:¬ i<l.length:=by simpa using hc
  refine aX ?_;intros
  refine Exists.intro _ (And.intro (aB _) ?_)
  refine⟨?_,rfl⟩
  unfold candV
  rw[find_no fun j h'=>hpre j (by omega) h']
  rfl
end
section
attribute [local irreducible] T TL
set_option maxRecDepth 10000
theorem cloneL_spec (l:List (List ByteArray)):Fn PP 251 [uN l] E fun o S'=>∃ g ver,o=.ret (.row g ver 0 l.length 1)∧S'=aK E g (.row ver 1 24 (l.map eL)):=by
 refine cL (aJ aI Tryz.func251 rfl (by rfl) (by rfl) ?_)
 refine cJ (bW (d:=0) rfl) fun hlen=>?_
 rw[List.length_map] at hlen
 refine aX ?_
 intro b hb
 refine aX ?_;intros
 refine And.intro (fun hc=>?_) (fun hc=>?_)
 ·have hz:l=[]:=by simpa using hb hc
  subst hz
  refine aX ?_;intros
  refine Exists.intro _ (And.intro (aB _) ?_)
  exact aO.nilrow 1 24 fun g hg=>⟨g,0,rfl,rfl⟩
 ·conv=>whnf
  refine aX ?_;intros
  refine .inr (aG fun g hg=>?_)
  refine aX ?_;intros
  refine eV ?_
  refine And.intro (fG fun x=>⟨rfl,trivial,trivial⟩) ?_
  refine aX ?_;intros
  refine bX (aA _ _ _) ?_
  conv=>whnf
  refine And.intro rfl (And.intro rfl (And.intro (show (0+(l.map eL).length)*24≤140737488355328 by simpa using hlen) ?_))
  refine aX ?_;intros
  refine Exists.intro _ (And.intro (aB _) ?_)
  refine aO.same ⟨g,1,?_,?_⟩
  ·show iY.ret (.row g 1 0 (0+(l.map eL).length) 1)=_
   rw[List.length_map,Nat.zero_add]
  ·rw[aN,List.nil_append];rfl
theorem pZ (l:List ByteArray):FnP PP 124 [LS l] (LS l):=by
 refine cL (aJ aI Tryz.func124 rfl (by rfl) (by rfl) ?_)
 refine cJ (bW (d:=0) rfl) fun hlen=>?_
 rw[List.length_map] at hlen
 refine aX ?_
 intro b hb
 refine aX ?_;intros
 refine And.intro (fun hc=>?_) (fun hc=>?_)
 ·have hz:l=[]:=by simpa using hb hc
  subst hz
  refine aX ?_;intros
  refine Exists.intro _ (And.intro (aB _) ?_)
  exact aO.nilv (.nils 16) (.same ⟨rfl,rfl⟩)
 ·conv=>whnf
  refine aX ?_;intros
  refine .inr (aG fun g hg=>?_)
  refine aX ?_;intros
  refine eV ?_
  refine And.intro (fG fun x=>⟨rfl,trivial,trivial⟩) ?_
  refine aX ?_;intros
  refine bX (aA _ _ _) ?_
  conv=>whnf
  refine And.intro rfl (And.intro rfl (And.intro (show (0+(l.map eS).length)*16≤140737488355328 by simpa using hlen) ?_))
  refine aX ?_;intros
  refine⟨_,aB _,aO.freeze (aA _ _ _) (.row 0 _ ?_) (aO.weak (aM _) (aO.same ⟨?_,rfl⟩))⟩
  ·simp
  ·simp only[List.drop_zero,Nat.zero_add,List.nil_append,List.take_length];rfl
def cN (l:List (List ByteArray)):Nat:=(l.map List.length).sum
def bF (s:ByteArray) (x:List ByteArray):List ByteArray:=match x with
 | []=>[]
 | h::t=>if h=s then t else h::t
def iG (l:List (List ByteArray)):Option ByteArray:=match l.find? (eZ l) with
 | some (h::_)=>some h
 | _=>none
def tJ:Nat→List (List ByteArray)→Option (List ByteArray)
 | 0,_=>some []
 | n+1,l=>if l.any (fun x=>decide (x.length > 0)) then match iG l with
  | none=>none
  | some s=>(tJ n (l.map (bF s))).map (s :: ·)
  else some []
def cG (l:List (List ByteArray)):Option (List ByteArray):=tJ (cN l) l
def mergedV (l:List (List ByteArray)):PV:=match cG l with
 | some out=>.tup [LS out,.bool true]
 | none=>.tup [LS [],.bool false]
theorem candV_eq (l:List (List ByteArray)):candV l=match iG l with
  | some h=>.tup [.str h,.bool true]
  | none=>.tup [.str ByteArray.empty,.bool false]:=by
 simp only[candV,iG]
 cases l.find? (eZ l) with
 | none=>rfl
 | some x=>cases x <;> rfl
theorem qK (s:ByteArray):∀ (l:List (List ByteArray)),cN (l.map (bF s))≤cN l
 | []=>Nat.le_refl _
 | x::l=>by
  have ih:=qK s l
  have:(bF s x).length≤x.length:=by cases x with
   | nil=>simp[bF]
   | cons h t=>simp only[bF];split <;> simp
  simp only[cN,List.map_cons,List.sum_cons] at ih ⊢
  omega
theorem dO {s:ByteArray}:∀ {l:List (List ByteArray)},(∃ x∈l,∃ t,x=s::t)→cN (l.map (bF s))<cN l
 | [],h=>by obtain⟨x,hx,_⟩:=h;cases hx
 | x::l,h=>by
  have ihl:=qK s l
  obtain⟨y,hy,t,ht⟩:=h
  rcases List.mem_cons.1 hy with rfl | hy
  ·subst ht
   have:(bF s (s::t)).length<(s::t).length:=by simp[bF]
   simp only[cN,List.map_cons,List.sum_cons] at ihl ⊢
   omega
  ·have ih:=dO (s:=s) (l:=l) ⟨y,hy,t,ht⟩
   have:(bF s x).length≤x.length:=by cases x with
    | nil=>simp[bF]
    | cons h t=>simp only[bF];split <;> simp
   simp only[cN,List.map_cons,List.sum_cons] at ih ⊢
   omega
theorem iX {l:List (List ByteArray)} {s:ByteArray} (h:iG l=some s):∃ x∈l,∃ t,x=s::t:=by
 unfold iG at h
 split at h
 ·rename_i a t e
  cases h
  exact⟨_,List.mem_of_find?_eq_some e,t,rfl⟩
 ·cases h
theorem len_le_total {l:List (List ByteArray)} {x:List ByteArray} (hx:x∈l):x.length≤cN l:=by
 induction l with
 | nil=>cases hx
 | cons y l ih=>
  simp only[cN,List.map_cons,List.sum_cons] at ih ⊢
  rcases List.mem_cons.1 hx with rfl | h
  ·omega
  ·have:=ih h;omega
theorem pE {l:List (List ByteArray)} (h:cN l=0):l.any (fun x=>decide (x.length > 0))=false:=by
 rw[List.any_eq_false]
 intro x hx
 have:x.length≤cN l:=len_le_total hx
 simp;exact List.length_eq_zero_iff.1 (by omega)
theorem mergeN_eq:∀ (n:Nat) (l:List (List ByteArray)),cN l≤n→tJ n l=cG l:=by
  intro n
  induction n using Nat.strongRecOn with
  | _ n ih=>
    intro l hl
    unfold cG
    cases n with
    | zero=>
       have:cN l=0:=by omega
       rw[this]
    | succ n=>
      cases hm:cN l with
      | zero=>simp[tJ,pE hm]
      | succ m=>
        simp only[tJ]
        split
        · cases hc:iG l with
          | none=>rfl
          | some s=>
            have hlt:=dO (iX hc)
            dsimp only
            rw[ih n (by omega) _ (by omega),ih m (by omega) _ (by omega)]
        · rfl
theorem jP {l:List (List ByteArray)} {s:ByteArray} (ha:l.any (fun x=>decide (x.length > 0))=true) (hc:iG l=some s):cG l=(cG (l.map (bF s))).map (s :: ·):=by
 have hlt:=dO (iX hc)
 cases hm:cN l with
 | zero=>rw[pE hm] at ha;cases ha
 | succ m=>
  conv=>lhs;unfold cG;rw[hm]
  simp only[tJ,ha,if_true,hc]
  rw[mergeN_eq m _ (by omega)]
theorem pX {l:List (List ByteArray)} (ha:l.any (fun x=>decide (x.length > 0))=true) (hc:iG l=none):cG l=none:=by
 cases hm:cN l with
 | zero=>rw[pE hm] at ha;cases ha
 | succ m=>
  unfold cG;rw[hm]
  simp only[tJ,ha,if_true,hc]
theorem kR {l:List (List ByteArray)} (ha:l.any (fun x=>decide (x.length > 0))=false):cG l=some []:=by
 unfold cG
 cases hm:cN l with
 | zero=>rfl
 | succ m=>simp only[tJ,ha];simp
theorem merged_spec (l:List (List ByteArray)) (hl:cN l≤1000000):FnP PP 243 [uN l] (mergedV l):=by
 refine cL (aJ aI Tryz.func243 rfl (by rfl) (by rfl) ?_)
 refine cJ (bW (d:=0) rfl) fun hlen=>?_
 rw[List.length_map] at hlen
 refine aX ?_;intros
 refine aV (cloneL_spec l) (aM _) ?_
 rintro o S' ⟨g,ver,rfl,rfl⟩ -
 unfold dR
 rw[mrg_E]
 refine aX ?_;intros
 refine aU (gJ 4 1 16 rfl fun g2 hg2=>?_)
 have hne:g2≠g:=aL (aA _ _ _) hg2
 refine aY (α:=List (List ByteArray) × List ByteArray) (inv:=fun x=>x.1.length=l.length∧cN x.1+x.2.length≤cN l∧cG l=(cG x.1).map (x.2 ++ ·))
  (tm:=fun x=>gF 48 [(0,.row g ver 0 l.length 1),(4,.row g2 x.2.length 0 x.2.length 1)]) (st:=fun x=>aK (aK E g (.row ver 1 24 (x.1.map eL))) g2 (.row x.2.length 1 16 (x.2.map eS))) (μ:=fun x=>cN x.1) (l,[]) ⟨rfl,by simp,by simp⟩ ?_ (aB _) ?_
 ·repeat' (first | exact trivial | exact rfl | refine And.intro ?_ ?_)
 rintro⟨ls,out⟩ ⟨hlen2,htot,hmer⟩
 dsimp only at hlen2 htot hmer ⊢
 have hSg:(aK (aK E g (.row ver 1 24 (ls.map eL))) g2 (.row out.length 1 16 (out.map eS))) g=some (.row ver 1 24 (ls.map eL)):=by rw[aC (Ne.symm hne),aA]
 refine aX ?_;intros
 refine gK (wV ls 253 [] [] (fun x=>decide (x.length > 0)) fun x _=>mergedF_spec x) ⟨pK hSg (by simp[hlen2]),.same _,trivial⟩ (.bool _) ?_
 refine aX ?_;intros
 refine And.intro (fun hc=>?_) (fun hc=>?_)
 ·have hany:=hc
  refine aX ?_;intros
  have hcs:=candidate_spec ls
  rw[candV_eq] at hcs
  cases hcd:iG ls with
  | none=>
   rw[hcd] at hcs
   dsimp only at hcs
   refine gK hcs ⟨pK hSg (by simp[hlen2]),trivial⟩ (.tup _ (by simp;exact⟨.str _,.bool _⟩)) ?_
   refine aX ?_;intros
   refine⟨E,aM _,aO.nilv (q:=.tup [LS [],.bool false]) (.tup _ _ rfl fun i h1 h2=>?_) (aO.same ⟨?_,rfl⟩)⟩
   ·match i,h1 with
    | 0,_=>exact .nils 16
    | 1,_=>exact .same _
   ·unfold mergedV;rw[hmer,pX hany hcd];rfl
  | some s=>
   rw[hcd] at hcs
   dsimp only at hcs
   refine gK hcs ⟨pK hSg (by simp[hlen2]),trivial⟩ (.tup _ (by simp;exact⟨.str _,.bool _⟩)) ?_
   refine aX ?_;intros
   refine .inl ?_
   refine aX ?_;intros
   refine eV (And.intro (by simp[dS,lH];rfl) ?_)
   refine aX ?_;intros
   refine bX (aA _ _ _) ?_
   refine And.intro (by simp) (And.intro rfl (And.intro (show (out.length+1)*16≤140737488355328 by omega) ?_))
   refine aX ?_;intros
   refine And.intro (dG (x:=.row ver 1 24 (ls.map eL)) (by rw[aC (Ne.symm hne)];exact hSg) rfl) (And.intro (by omega) ?_)
   refine aX ?_;intros
   refine aU (aY (α:=Nat) (inv:=fun i=>i≤ls.length)
    (tm:=fun i=>gF 48 [(0,.row g ver 0 l.length 1),(4,.row g2 (out.length+1) 0 (out.length+1) 1),(5,.str s),(24,.row g ver 0 l.length 1),(25,.int .i64 l.length),(26,.int .i64 i)])
    (st:=fun i=>aK (aK E g (.row ver 1 24 ((mix (bF s) i ls).map eL))) g2 (.row (out.length+1) 1 16 ((out++[s]).map eS))) (μ:=fun i=>ls.length - i) 0 (by omega) ?_ ?_ ?_)
   ·repeat' (first | exact trivial | exact rfl | refine And.intro ?_ ?_)
   ·rw[aN,mix_zero,List.map_append];exact aB _
   rintro i hi
   refine aX ?_;intros
   refine And.intro (fun hc=>?_) (fun hc=>?_)
   ·have hlt:i<ls.length:=by simp at hc;omega
    have hSg':(aK (aK E g (.row ver 1 24 ((mix (bF s) i ls).map eL))) g2 (.row (out.length+1) 1 16 ((out++[s]).map eS))) g=some (.row ver 1 24 ((mix (bF s) i ls).map eL)):=by rw[aC (Ne.symm hne),aA]
    have hget:((mix (bF s) i ls).map eL)[i]?=some (eL ls[i]):=by rw[List.getElem?_map,mix_get _ hlt];rfl
    refine aX ?_;intros
    refine⟨i,rfl,by omega,?_⟩
    refine aX ?_;intros
    refine aS hSg' (by rw[Nat.zero_add];exact hget) ?_
    refine aX ?_;intros
    have keep:bF s ls[i]=ls[i]→bV (aK (aK E g (.row ver 1 24 ((mix (bF s) i ls).map eL))) g2 (.row (out.length+1) 1 16 ((out++[s]).map eS))) (aK (aK E g (.row ver 1 24 ((mix (bF s) (i+1) ls).map eL))) g2 (.row (out.length+1) 1 16 ((out++[s]).map eS))):=fun e=>by
     rw[xS _ hlt,e]
     have:(mix (bF s) i ls).set i ls[i]=mix (bF s) i ls:=by
      apply List.ext_getElem?
      intro j
      rw[List.getElem?_set]
      split
      ·rename_i e';subst e'
       rw[mix_len,if_pos hlt,mix_get _ hlt]
      ·rfl
     rw[this];exact aB _
    refine And.intro (fun hc=>?_) (fun hc=>?_)
    ·have hpos:0<ls[i].length:=by simpa using hc
     refine aX ?_;intros
     refine bS (i:=0) hpos ?_
     refine aX ?_;intros
     refine And.intro (fun hc=>?_) (fun hc=>?_)
     ·have heq:ls[i][0]=s:=by simpa using hc
      refine aX ?_;intros
      refine kN (l:=1) rfl (by omega) ?_
      rw[List.drop_one]
      refine aX ?_;intros
      refine⟨i,rfl,by omega,?_⟩
      refine aX ?_;intros
      refine eR (i:=0+i) hSg' (by rw[Nat.zero_add];exact hget) ?_ ?_
      ·exact Nat.le_refl 1
      rintro new rfl
      refine aX ?_;intros
      refine⟨i+1,by omega,by omega,?_,?_⟩
      ·repeat' (first | exact trivial | exact rfl | refine And.intro ?_ ?_)
      ·have he:[LS ls[i].tail]=eL (bF s ls[i]):=by
        cases e:ls[i] with
        | nil=>rw[e] at hpos;simp at hpos
        | cons h t=>simp only[e,List.getElem_cons_zero] at heq;simp[bF,heq]
       rw[Nat.zero_add,xS _ hlt,he,List.map_set]
       have hswap:∀ (x y z:AO),aK (aK (aK E g x) g2 y) g z=aK (aK E g z) g2 y:=fun x y z=>by
        funext h;simp only[aK];split <;> split <;> simp_all
       rw[hswap];exact aB _
     ·have heq:¬ ls[i][0]=s:=by simpa using hc
      refine aX ?_;intros
      refine⟨i+1,by omega,by omega,?_,keep ?_⟩
      ·repeat' (first | exact trivial | exact rfl | refine And.intro ?_ ?_)
      ·cases e:ls[i] with
       | nil=>rfl
       | cons h t=>simp only[e,List.getElem_cons_zero] at heq;simp[bF,heq]
    ·have hz:ls[i]=[]:=by simpa using hc
     refine aX ?_;intros
     refine⟨i+1,by omega,by omega,?_,keep (by rw[hz];rfl)⟩
     ·repeat' (first | exact trivial | exact rfl | refine And.intro ?_ ?_)
   ·have hge:¬ i<ls.length:=by simp at hc;omega
    have hlt:=dO (iX hcd)
    refine aX ?_;intros
    refine⟨(ls.map (bF s),out++[s]),⟨by simp[hlen2],?_,?_⟩,hlt,?_,?_⟩
    ·simp;omega
    ·rw[hmer,jP hany hcd,Option.map_map]
     congr 1;funext x;simp
    ·repeat' (first | exact trivial | exact rfl | refine And.intro ?_ ?_)
     ·simp
    ·rw[mix_end _ (by omega)];simp;exact aB _
 ·have hany:=hc
  refine aX ?_;intros
  refine⟨_,aB _,aO.freeze (q:=.tup [LS out,.bool true]) (aA _ _ _) ?_ (aO.weak (aM _) (aO.same ⟨?_,rfl⟩))⟩
  ·refine FzV.tup _ _ rfl fun i h1 h2=>?_
   match i,h1 with
   | 0,_=>exact eQ (by simp)
   | 1,_=>exact .same _
  ·unfold mergedV;rw[hmer,kR hany];simp
end
section
attribute [local irreducible] T TL
set_option maxRecDepth 10000
def lawL (l:List (List ByteArray)):Bool:=decide (l.length > 20) || l.any fun x=>decide (x.length > 120) || !decide x.Nodup
theorem total_le (n:Nat):∀ (l:List (List ByteArray)),(∀ x∈l,x.length≤n)→cN l≤l.length*n
 | [],_=>by simp[cN]
 | x::l,h=>by
  have ih:=total_le n l fun y hy=>h y (List.mem_cons_of_mem _ hy)
  have:=h x (by simp)
  simp only[cN,List.map_cons,List.sum_cons,List.length_cons] at ih ⊢
  rw[Nat.add_mul];omega
end
section
attribute [local irreducible] T TL
set_option maxRecDepth 10000
abbrev bA:=ByteArray × List ByteArray
abbrev eH (h:bA):List PV:=[.str h.1,LS h.2]
abbrev HS (g:List bA):PV:=.list 40 (g.map eH)
def oQ (seen:List ByteArray):List ByteArray→List ByteArray→Bool
 | _,[]=>true
 | pre,s::l=>seen.any (nL s) && !(pre.any (nL s)) && oQ seen (pre++[s]) l
def iA (seen:List ByteArray) (h:bA):Bool:=!(decide (h.1=⟨#[]⟩)) && !(seen.any (nL h.1)) && decide (h.2.length≤8) && oQ seen [] h.2
def jS:List ByteArray→List bA→Bool
 | _,[]=>true
 | seen,h::l=>iA seen h && jS (seen++[h.1]) l
def cX (g:List bA):Int:=if g.length > 120 then 2 else if jS [] g then 0 else 70
theorem set_opt {l:List ByteArray} {s:ByteArray} {ks:PV→Prop} {kn:Prop} (h1:l.any (nL s)=true→ks (.bool true)) (h2:l.any (nL s)=false→kn):optW (yJ l (.s s)) ks kn:=by
 refine lZ (fun p hp=>?_) (fun hp=>?_)
 ·rw[setM_get] at hp
  split at hp
  ·cases hp;exact h1 (by assumption)
  ·cases hp
 ·rw[setM_get] at hp
  split at hp
  ·cases hp
  ·exact h2 (by simpa using (by assumption:¬ l.any (nL s)=true))
theorem checkL_at {g:List bA} {i:Nat} (hi:i<g.length):jS ((g.take i).map (·.1)) (g.drop i)=(iA ((g.take i).map (·.1)) g[i] && jS ((g.take (i+1)).map (·.1)) (g.drop (i+1))):=by
 rw[List.drop_eq_getElem_cons hi,jS,List.take_succ_eq_append_getElem hi]
 simp only[List.map_append,List.map_cons,List.map_nil]
theorem supOk_at {seen l:List ByteArray} {i:Nat} (hi:i<l.length):oQ seen (l.take i) (l.drop i)=(seen.any (nL l[i]) && !((l.take i).any (nL l[i])) && oQ seen (l.take (i+1)) (l.drop (i+1))):=by
 rw[List.drop_eq_getElem_cons hi,oQ,List.take_succ_eq_append_getElem hi]
theorem check_spec (g:List bA):FnP PP 222 [HS g] (.int .i64 (cX g)):=by
 refine aJ aI Tryz.func222 rfl (by rfl) (by rfl) ?_
 refine aX ?_;intros
 refine And.intro (fun hc=>?_) (fun hc=>?_)
 ·have hn:g.length > 120:=by simp at hc;omega
  refine aX ?_;intros
  refine Exists.intro _ (And.intro (aB _) ?_)
  exact⟨by unfold cX;simp[hn],rfl⟩
 ·have hn:¬ g.length > 120:=by simp at hc;omega
  have fail:jS [] g=false→cX g=70:=fun h=>by unfold cX;simp[hn,h]
  refine aX ?_;intros
  refine aG fun gm hgm=>?_
  refine aX ?_;intros
  refine aU (aY (α:=Nat) (inv:=fun i=>i≤g.length∧jS [] g=jS ((g.take i).map (·.1)) (g.drop i))
   (tm:=fun i=>gF 58 [(0,HS g),(3,.map gm),(12,HS g),(13,.int .i64 g.length),(14,.int .i64 i)]) (st:=fun i=>aK E gm (.map true (yJ ((g.take i).map (·.1))))) (μ:=fun i=>g.length - i) 0 ⟨by omega,by simp⟩ ?_ ?_ ?_)
  ·repeat' (first | exact trivial | exact rfl | refine And.intro ?_ ?_)
   simp
  ·rw[setM_nil];exact aB _
  rintro i ⟨hi,hpre⟩
  refine aX ?_;intros
  refine And.intro (fun hc=>?_) (fun hc=>?_)
  ·have hlt:i<g.length:=by simpa using hc
   rw[checkL_at hlt] at hpre
   refine aX ?_;intros
   refine bS hlt ?_
   refine aX ?_;intros
   refine aG fun g5 hg5=>?_
   have hne:gm≠g5:=Ne.symm (aL (aA _ _ _) hg5)
   have hM:∀ x,(aK (aK E gm (.map true (yJ ((g.take i).map (·.1))))) g5 x) gm=some (.map true (yJ ((g.take i).map (·.1)))):=fun x=>by rw[aC hne,aA]
   refine aX ?_;intros
   refine And.intro ⟨trivial,trivial,trivial⟩ ?_
   refine eR (aA _ _ _) rfl (Nat.le_of_ble_eq_true rfl) ?_
   rintro new rfl
   rw[aN]
   refine aX ?_;intros
   have bad:iA ((g.take i).map (·.1)) g[i]=false→(iY.ret (.int .i64 70))=iY.ret (.int .i64 (cX g)):=fun h=>by rw[fail (by rw[hpre,h];rfl)]
   refine And.intro (fun hc=>?_) (fun hc=>?_)
   ·have hc1:=hc
    refine aX ?_;intros
    refine mO (hM _) (set_opt (fun hm=>?_) (fun hm=>?_))
    ·conv=>whnf
     refine aX ?_;intros
     refine⟨E,aM _,bad ?_,rfl⟩
     unfold iA;rw[hm];simp
    ·conv=>whnf
     refine aX ?_;intros
     refine And.intro (fun hc=>?_) (fun hc=>?_)
     ·conv=>whnf
      refine aX ?_;intros
      refine⟨E,aM _,bad ?_,rfl⟩
      have:¬ g[i].2.length≤8:=by simp at hc;omega
      unfold iA;simp[this]
     ·have hle:g[i].2.length≤8:=by simp at hc;omega
      have hok:iA ((g.take i).map (·.1)) g[i]=oQ ((g.take i).map (·.1)) [] g[i].2:=by
       have h1:¬ g[i].1=⟨#[]⟩:=by simpa using hc1
       unfold iA;rw[hm];simp[hle,h1]
      refine aX ?_;intros
      refine aU (aY (α:=Nat) (inv:=fun k=>k≤g[i].2.length∧oQ ((g.take i).map (·.1)) [] g[i].2=oQ ((g.take i).map (·.1)) (g[i].2.take k) (g[i].2.drop k))
       (tm:=fun k=>gF 58 [(0,HS g),(3,.map gm),(5,.ptr g5 0 0 0 2),(12,HS g),(13,.int .i64 g.length),(14,.int .i64 i),(34,LS g[i].2),(35,.int .i64 g[i].2.length),(36,.int .i64 k)])
       (st:=fun k=>aK (aK E gm (.map true (yJ ((g.take i).map (·.1))))) g5 (.row 0 2 0 [eH g[i]])) (μ:=fun k=>g[i].2.length - k) 0 ⟨by omega,by simp⟩ ?_ (aB _) ?_)
      ·repeat' (first | exact trivial | exact rfl | refine And.intro ?_ ?_)
       simp
      rintro k ⟨hk,hsup⟩
      refine aX ?_;intros
      refine And.intro (fun hc=>?_) (fun hc=>?_)
      ·have hkl:k<g[i].2.length:=by simpa using hc
       rw[supOk_at hkl] at hsup
       refine aX ?_;intros
       refine bS hkl ?_
       refine aX ?_;intros
       refine mO (hM _) (set_opt (fun hm2=>?_) (fun hm2=>?_))
       ·conv=>whnf
        refine aX ?_;intros
        refine kE (h:=k) rfl (by omega) ?_
        refine aX ?_;intros
        refine bE (mT _ _) ?_
        refine aX ?_;intros
        refine And.intro (fun hc=>?_) (fun hc=>?_)
        ·conv=>whnf
         refine aX ?_;intros
         refine⟨E,aM _,bad ?_,rfl⟩
         rw[hok,hsup,hc];simp
        ·conv=>whnf
         refine aX ?_;intros
         refine⟨k+1,⟨by omega,?_⟩,by omega,?_,aB _⟩
         ·rw[hsup,hm2,hc];rfl
         ·repeat' (first | exact trivial | exact rfl | refine And.intro ?_ ?_)
       ·conv=>whnf
        refine aX ?_;intros
        refine⟨E,aM _,bad ?_,rfl⟩
        rw[hok,hsup,hm2];rfl
      ·have hge:¬ k<g[i].2.length:=by simpa using hc
       have hall:iA ((g.take i).map (·.1)) g[i]=true:=by rw[hok,hsup,List.drop_of_length_le (by omega)];rfl
       refine aX ?_;intros
       refine dL (hM _) ?_
       refine aX ?_;intros
       refine⟨i+1,⟨by omega,by rw[hpre,hall];rfl⟩,by omega,?_,?_⟩
       ·repeat' (first | exact trivial | exact rfl | refine And.intro ?_ ?_)
       ·intro h x hx
        by_cases e:h=gm
        ·subst e
         rw[aA] at hx ⊢
         cases hx
         rw[setM_add,List.take_succ_eq_append_getElem hlt,List.map_append];rfl
        ·rw[aC e] at hx;cases hx
   ·conv=>whnf
    refine aX ?_;intros
    refine⟨E,aM _,bad ?_,rfl⟩
    unfold iA
    have h1:g[i].1=⟨#[]⟩:=by simpa using hc
    simp[h1]
  ·have hge:¬ i<g.length:=by simpa using hc
   refine aX ?_;intros
   refine⟨E,aM _,?_,rfl⟩
   have:jS [] g=true:=by rw[hpre,List.drop_of_length_le (by omega)];rfl
   unfold cX;simp[hn,this]
end
section
attribute [local irreducible] T TL
set_option maxRecDepth 10000
def oD:List bA→ByteArray→Option Nat
 | [],_=>none
 | h::t,b=>match oD t b with
  | some k=>some (k+1)
  | none=>if b=h.1 then some 0 else none
def atM (g:List bA):MK→Option PV
 | .s b=>(oD g b).map fun (n:Nat)=>.int .i64 (n:Int)
 | .i _=>none
theorem atI_add (l:List bA) (h:bA) (b:ByteArray):oD (l++[h]) b=if b=h.1 then some l.length else oD l b:=by
 induction l with
 | nil=>simp[oD]
 | cons x l ih=>
  simp only[List.cons_append,oD,ih,List.length_cons]
  by_cases e:b=h.1
  ·simp[e]
  ·simp[e]
theorem atM_nil:(fun _=>none:MK→Option PV)=atM []:=by funext k;cases k <;> simp[atM,oD]
theorem atM_add (l:List bA) (h:bA):fD (atM l) (.s h.1) (.int .i64 (l.length:Nat))=atM (l++[h]):=by
 funext k
 cases k with
 | i n=>simp[fD,atM]
 | s b=>
  by_cases e:b=h.1
  ·simp[fD,atM,atI_add,e]
  ·simp[fD,atM,atI_add,e]
def TR (g:List bA) (gA gL gt:Nat) (A L:MK→Option PV):aD:=aK (aK (aK E gA (.map true A)) gL (.map true L)) gt (.row 0 3 0 [[HS g,.map gA,.map gL]])
structure Dis (gA gL gt:Nat):Prop where
 al:gA≠gL
 at':gA≠gt
 lt:gL≠gt
theorem TR_t {g:List bA} {gA gL gt:Nat} {A L:MK→Option PV} (_:Dis gA gL gt):TR g gA gL gt A L gt=some (.row 0 3 0 [[HS g,.map gA,.map gL]]):=by unfold TR;rw[aA]
section
variable {g:List bA} {gA gL gt:Nat} {A L:MK→Option PV} (d:Dis gA gL gt)
include d
theorem TR_A:TR g gA gL gt A L gA=some (.map true A):=by unfold TR;rw[aC d.at',aC d.al,aA]
theorem TR_L:TR g gA gL gt A L gL=some (.map true L):=by unfold TR;rw[aC d.lt,aA]
theorem TR_updA {A':MK→Option PV}:aK (TR g gA gL gt A L) gA (.map true A')=TR g gA gL gt A' L:=by
 funext h;unfold TR;simp only[aK]
 have:=d.al;have:=d.at';have:=d.lt
 split <;> split <;> simp_all
theorem TR_updL {L':MK→Option PV}:aK (TR g gA gL gt A L) gL (.map true L')=TR g gA gL gt A L':=by
 funext h;unfold TR;simp only[aK]
 have:=d.al;have:=d.at';have:=d.lt
 split <;> split <;> simp_all
end
def openR (g:List bA) (name:ByteArray) (o:iY) (S':aD):Prop:=
 (cX g≠0∧o=.ret (.tup [.nilp,.int .i64 0,.int .i64 (cX g)])∧S'=E) ∨
 (cX g=0∧∃ gA gL gt,Dis gA gL gt∧S'=TR g gA gL gt (atM g) (fun _=>none) ∧
  o=.ret (.tup [.ptr gt 0 0 0 3,.int .i64 (((oD g name).getD 0:Nat):Int),.int .i64 (if (oD g name).isSome then 0 else 3)]))
theorem open_spec (g:List bA) (name:ByteArray):Fn PP 190 [HS g,.str name] E (openR g name):=by
 refine aJ aI Tryz.func190 rfl (by rfl) (by rfl) ?_
 refine aX ?_;intros
 refine bE (check_spec g) ?_
 refine aX ?_;intros
 refine And.intro (fun hc=>?_) (fun hc=>?_)
 ·have hn:cX g≠0:=by simpa using hc
  refine aX ?_;intros
  refine Exists.intro _ (And.intro (aB _) ?_)
  exact .inl ⟨hn,rfl,rfl⟩
 ·have hn:cX g=0:=by simpa using hc
  refine aX ?_;intros
  refine aG fun gA hgA=>?_
  refine aX ?_;intros
  refine aG fun gL hgL=>?_
  refine aX ?_;intros
  have hAL:gL≠gA:=aL (aA _ _ _) hgL
  refine And.intro (bO (by rw[aC (Ne.symm hAL),aA])) ?_
  refine aX ?_;intros
  refine aG fun gt hgt=>?_
  have hLt:gt≠gL:=aL (aA _ _ _) hgt
  have hAt:gt≠gA:=by rintro rfl;rw[aC (Ne.symm hAL),aA] at hgt;cases hgt
  have d:Dis gA gL gt:=⟨Ne.symm hAL,Ne.symm hAt,Ne.symm hLt⟩
  refine aX ?_;intros
  refine aU (aY (α:=Nat) (inv:=fun i=>i≤g.length)
   (tm:=fun i=>gF 52 [(0,HS g),(1,.str name),(8,.ptr gt 0 0 0 3),(23,HS g),(24,.int .i64 g.length),(25,.int .i64 i)]) (st:=fun i=>TR g gA gL gt (atM (g.take i)) (fun _=>none)) (μ:=fun i=>g.length - i) 0 (by omega) ?_ ?_ ?_)
  ·repeat' (first | exact trivial | exact rfl | refine And.intro ?_ ?_)
   simp
  ·rw[List.take_zero,← atM_nil];exact aB _
  rintro i hi
  refine aX ?_;intros
  refine And.intro (fun hc=>?_) (fun hc=>?_)
  ·have hlt:i<g.length:=by simpa using hc
   refine aX ?_;intros
   refine bS hlt ?_
   refine aX ?_;intros
   refine aG fun g5 hg5=>?_
   have n1:gA≠g5:=Ne.symm (aL (TR_A d) hg5)
   have n2:gL≠g5:=Ne.symm (aL (TR_L d) hg5)
   have n3:gt≠g5:=Ne.symm (aL (TR_t d) hg5)
   refine aX ?_;intros
   refine And.intro ⟨trivial,trivial,trivial⟩ ?_
   refine eR (aA _ _ _) rfl (Nat.le_of_ble_eq_true rfl) ?_
   rintro new rfl
   rw[aN]
   refine aX ?_;intros
   have hT:(aK (TR g gA gL gt (atM (g.take i)) (fun _=>none)) g5 (.row 0 2 0 [eH g[i]])) gt=some (.row 0 3 0 [[HS g,.map gA,.map gL]]):=by rw[aC n3];exact TR_t d
   refine aU (aT aI (by rfl) 7 (by decide) ?_)
   conv=>whnf
   refine lV ?_
   refine aX ?_;intros
   refine lV ?_
   refine aX ?_;intros
   refine lV ?_
   refine aX ?_;intros
   refine lV ?_
   refine aX ?_;intros
   refine lV ?_
   refine aX ?_;intros
   refine lV ?_
   refine aX ?_;intros
   refine lV ?_
   refine aX ?_;intros
   refine aX ?_;intros
   refine dL (by rw[aC n1];exact TR_A d) ?_
   refine aX ?_;intros
   refine⟨i+1,by omega,by omega,?_,?_⟩
   ·repeat' (first | exact trivial | exact rfl | refine And.intro ?_ ?_)
   ·refine (sle_skip hg5 n1).trans ?_
    have e:(((g.take i).length:Nat):Int)=(i:Int):=by rw[List.length_take];omega
    show bV (aK _ gA (.map true _)) _
    rw[TR_updA d,List.take_succ_eq_append_getElem hlt,← atM_add,e]
    exact aB _
  ·conv=>whnf
   refine aX ?_;intros
   have hge:¬ i<g.length:=by simpa using hc
   have htk:g.take i=g:=List.take_of_length_le (by omega)
   rw[htk]
   refine mO (TR_A d) (lZ (fun p hp=>?_) (fun hp=>?_))
   ·cases e:oD g name with
    | none=>simp[atM,e] at hp
    | some k=>
     simp only[atM,e,Option.map_some,Option.some.injEq] at hp
     subst hp
     refine aX ?_;intros
     refine Exists.intro _ (And.intro (aB _) ?_)
     exact .inr ⟨hn,gA,gL,gt,d,rfl,by rw[e];rfl⟩
   ·cases e:oD g name with
    | some k=>simp[atM,e] at hp
    | none=>
     refine aX ?_;intros
     refine Exists.intro _ (And.intro (aB _) ?_)
     exact .inr ⟨hn,gA,gL,gt,d,rfl,by rw[e];rfl⟩
end
section
attribute [local irreducible] T TL
set_option maxRecDepth 10000
theorem rY:∀ {g:List bA} {b:ByteArray} {i:Nat},oD g b=some i→∃ h:i<g.length,g[i].1=b
 | [],_,_,h=>by cases h
 | x::g,b,i,h=>by
  simp only[oD] at h
  cases e:oD g b with
  | some k=>
   simp only[e,Option.some.injEq] at h;subst h
   obtain⟨h1,h2⟩:=rY e
   exact⟨by simpa using h1,by simpa using h2⟩
  | none=>
   simp only[e] at h
   split at h
   ·rename_i he;cases h;exact⟨by simp,by simpa using he.symm⟩
   ·cases h
theorem sQ {p:PV}:NilV (.tup [.nils,p]) (.tup [LS [],p]):=.tup _ _ rfl fun i h1 h2=>by
 match i,h1 with
 | 0,_=>exact .nils 16
 | 1,_=>exact .same _
theorem fz_tup2 {g ver sz e n:Nat} {xs:List (List PV)} {p:PV} (hn:n=xs.length):FzV g ver sz e xs (.tup [.row g ver 0 n sz,p]) (.tup [.list e xs,p]):=.tup _ _ rfl fun i h1 h2=>by
 match i,h1 with
 | 0,_=>exact eQ hn
 | 1,_=>exact .same _
end
theorem check_ok {g:List bA} (h:cX g=0):g.length≤120∧jS [] g=true:=by
 unfold cX at h
 split at h
 ·cases h
 ·split at h
  ·exact⟨by omega,by assumption⟩
  ·cases h
theorem vV:∀ {g:List bA} {seen:List ByteArray},jS seen g=true→∀ {i:Nat} (hi:i<g.length),iA (seen++(g.take i).map (·.1)) g[i]=true
 | [],_,_,_,hi=>by simp at hi
 | h::g,seen,hc,0,_=>by
  simp only[jS,Bool.and_eq_true] at hc
  simpa using hc.1
 | h::g,seen,hc,i+1,hi=>by
  simp only[jS,Bool.and_eq_true] at hc
  have:=vV hc.2 (i:=i) (by simpa using hi)
  simpa using this
theorem supOk_mem {seen:List ByteArray}:∀ {l pre:List ByteArray},oQ seen pre l=true→∀ s∈l,s∈seen
 | [],_,_,_,hs=>by cases hs
 | x::l,pre,h,s,hs=>by
  simp only[oQ,Bool.and_eq_true] at h
  rcases List.mem_cons.1 hs with rfl | hs
  ·exact jE.1 h.1.1
  ·exact supOk_mem h.2 s hs
theorem zD {seen:List ByteArray}:∀ {l pre:List ByteArray},oQ seen pre l=true→l.Nodup∧∀ s∈l,s∉pre
 | [],_,_=>⟨List.nodup_nil,fun s hs=>by cases hs⟩
 | x::l,pre,h=>by
  simp only[oQ,Bool.and_eq_true] at h
  obtain⟨h1,h2⟩:=zD h.2
  have h3:x∉pre:=fun hx=>by have:=jE.2 hx;rw[this] at h;simp at h
  refine⟨List.nodup_cons.2 ⟨fun hx=>h2 x hx (by simp),h1⟩,fun s hs=>?_⟩
  rcases List.mem_cons.1 hs with rfl | hs
  ·exact h3
  ·exact fun hp=>h2 s hs (by simp[hp])
structure Heirs (g:List bA):Prop where
 len:g.length≤120
 uniq:∀ i j (hi:i<g.length) (hj:j<g.length),g[i].1=g[j].1→i=j
 name:∀ i (hi:i<g.length),g[i].1≠⟨#[]⟩
 few:∀ i (hi:i<g.length),g[i].2.length≤8
 dist:∀ i (hi:i<g.length),g[i].2.Nodup
 sup:∀ i (hi:i<g.length),∀ s∈g[i].2,∃ k,∃ hk:k<i,g[k].1=s
theorem xX {g:List bA} (h:cX g=0):Heirs g:=by
 obtain⟨h1,h2⟩:=check_ok h
 have hok:∀ i (hi:i<g.length),iA ((g.take i).map (·.1)) g[i]=true:=fun i hi=>by simpa using vV h2 hi
 have hlt:∀ i j (hi:i<g.length) (hj:j<g.length),i<j→g[i].1≠g[j].1:=fun i j hi hj hij e=>by
  have h3:=hok j hj
  simp only[iA,Bool.and_eq_true] at h3
  have h4:((g.take j).map (·.1)).any (nL g[j].1)=true:=jE.2 (by
   rw[← e]
   exact List.mem_map.2 ⟨g[i],by rw[List.mem_take_iff_getElem];exact⟨i,by omega,rfl⟩,rfl⟩)
  rw[h4] at h3;simp at h3
 refine⟨h1,fun i j hi hj e=>?_,fun i hi e=>?_,fun i hi=>?_,fun i hi=>?_,fun i hi s hs=>?_⟩
 ·rcases Nat.lt_trichotomy i j with h3 | h3 | h3
  ·exact absurd e (hlt i j hi hj h3)
  ·exact h3
  ·exact absurd e.symm (hlt j i hj hi h3)
 ·have h3:=hok i hi
  simp only[iA,Bool.and_eq_true] at h3
  simp[e] at h3
 ·have h3:=hok i hi
  simp only[iA,Bool.and_eq_true] at h3
  simpa using h3.1.2
 ·have h3:=hok i hi
  simp only[iA,Bool.and_eq_true] at h3
  exact (zD h3.2).1
 ·have h3:=hok i hi
  simp only[iA,Bool.and_eq_true] at h3
  have h4:=supOk_mem h3.2 s hs
  obtain⟨x,hx,rfl⟩:=List.mem_map.1 h4
  rw[List.mem_take_iff_getElem] at hx
  obtain⟨k,hk,rfl⟩:=hx
  exact⟨k,by omega,rfl⟩
theorem atI_none {g:List bA} {b:ByteArray} (h:oD g b=none):∀ i (hi:i<g.length),g[i].1≠b:=by
 induction g with
 | nil=>intro i hi;simp at hi
 | cons x g ih=>
  simp only[oD] at h
  cases e:oD g b with
  | some k=>simp[e] at h
  | none=>
   simp only[e] at h
   split at h
   ·cases h
   ·rename_i hne
    intro i hi
    cases i with
    | zero=>exact fun e=>hne e.symm
    | succ i=>exact ih e i (by simpa using hi)
theorem Heirs.at {g:List bA} (h:Heirs g) {i:Nat} (hi:i<g.length):oD g g[i].1=some i:=by
 cases e:oD g g[i].1 with
 | none=>exact absurd rfl (atI_none e i hi)
 | some k=>
  obtain⟨hk,e2⟩:=rY e
  rw[h.uniq k i hk hi e2]
theorem Heirs.atsup {g:List bA} (h:Heirs g) {i:Nat} (hi:i<g.length) {s:ByteArray} (hs:s∈g[i].2):∃ k,k<i∧oD g s=some k:=by
 obtain⟨k,hk,rfl⟩:=h.sup i hi s hs
 exact⟨k,hk,h.at (by omega)⟩
def fB (f:Nat→Option (List ByteArray)) (g:List bA):List ByteArray→Option (List (List ByteArray))
 | []=>some []
 | s::l=>match oD g s with
  | none=>none
  | some k=>match f k with
   | none=>none
   | some x=>(fB f g l).map (x :: ·)
def linN:Nat→List bA→Nat→Option (List ByteArray)
 | 0,_,_=>none
 | n+1,g,i=>match g[i]? with
  | none=>none
  | some h=>match fB (linN n g) g h.2 with
   | none=>none
   | some ls=>(cG (ls++[h.2])).map (h.1 :: ·)
def iN (g:List bA) (i:Nat):Option (List ByteArray):=linN (i+1) g i
def fH (g:List bA) (i:Nat):Option (List (List ByteArray)):=match g[i]? with
  | none=>none
  | some h=>(fB (iN g) g h.2).map (· ++ [h.2])
theorem tX {f f':Nat→Option (List ByteArray)} {g:List bA}:∀ {l:List ByteArray},(∀ s∈l,∀ k,oD g s=some k→f k=f' k)→fB f g l=fB f' g l
 | [],_=>rfl
 | s::l,h=>by
  simp only[fB]
  cases e:oD g s with
  | none=>rfl
  | some k=>
   dsimp only
   rw[h s (by simp) k e,tX fun s' hs'=>h s' (by simp[hs'])]
theorem linN_eq {g:List bA} (hg:Heirs g):∀ (n i:Nat),i<n→linN n g i=iN g i:=by
 intro n
 induction n using Nat.strongRecOn with
 | _ n ih=>
  intro i hi
  cases n with
  | zero=>omega
  | succ n=>
   unfold iN
   simp only[linN]
   cases e:g[i]? with
   | none=>rfl
   | some h=>
    obtain⟨hl,rfl⟩:=List.getElem?_eq_some_iff.1 e
    dsimp only
    rw[tX (f:=linN n g) (f':=linN i g) fun s hs k hk=>by
     obtain⟨k',h1,h2⟩:=hg.atsup hl hs
     have ek:k'=k:=by rw[h2] at hk;exact Option.some.inj hk
     subst ek
     rw[ih n (by omega) k' (by omega),ih i (by omega) k' h1]]
theorem lin_eq {g:List bA} (hg:Heirs g) {i:Nat} (hi:i<g.length):iN g i=match fB (iN g) g g[i].2 with
  | none=>none
  | some ls=>(cG (ls++[g[i].2])).map (g[i].1 :: ·):=by
 conv=>lhs;unfold iN;simp only[linN]
 rw[List.getElem?_eq_getElem hi]
 dsimp only
 rw[tX (f:=linN i g) (f':=iN g) fun s hs k hk=>by
  obtain⟨k',h1,h2⟩:=hg.atsup hi hs
  have ek:k'=k:=by rw[h2] at hk;exact Option.some.inj hk
  subst ek
  exact linN_eq hg i k' h1]
theorem takeOff_sub {s:ByteArray} {x:List ByteArray}:∀ a∈bF s x,a∈x:=by
 intro a ha
 cases x with
 | nil=>exact ha
 | cons h t=>
  simp only[bF] at ha
  split at ha
  ·exact List.mem_cons_of_mem _ ha
  ·exact ha
theorem cand_good {l:List (List ByteArray)} {s:ByteArray} (h:iG l=some s):∀ y∈l,s∉y.tail:=by
 unfold iG at h
 split at h
 ·rename_i a t e
  cases h
  have:=List.find?_some e
  simp only[eZ] at this
  intro y hy hs
  have h2:=List.all_eq_true.1 this y hy
  rw[jE.2 hs] at h2;cases h2
 ·cases h
theorem takeOff_not {l:List (List ByteArray)} {s:ByteArray} (h:iG l=some s):∀ x∈l.map (bF s),s∉x:=by
 intro x hx
 obtain⟨y,hy,rfl⟩:=List.mem_map.1 hx
 have hg:=cand_good h y hy
 cases y with
 | nil=>simp[bF]
 | cons a t=>
  simp only[bF]
  split
  ·exact hg
  ·rename_i hne
   intro hm
   rcases List.mem_cons.1 hm with e | hm
   ·exact hne e.symm
   ·exact hg hm
theorem zB:∀ (n:Nat) (l:List (List ByteArray)) (out:List ByteArray),cN l≤n→cG l=some out→out.Nodup∧∀ a∈out,∃ x∈l,a∈x:=by
 intro n
 induction n with
 | zero=>
  intro l out hl h
  rw[kR (pE (by omega))] at h
  cases h
  exact⟨List.nodup_nil,fun a ha=>by cases ha⟩
 | succ n ih=>
  intro l out hl h
  cases ha:l.any (fun x=>decide (x.length > 0)) with
  | false=>
   rw[kR ha] at h;cases h
   exact⟨List.nodup_nil,fun a ha=>by cases ha⟩
  | true=>
   cases hc:iG l with
   | none=>rw[pX ha hc] at h;cases h
   | some s=>
    rw[jP ha hc] at h
    cases hm:cG (l.map (bF s)) with
    | none=>rw[hm] at h;cases h
    | some rest=>
     rw[hm] at h;cases h
     have hlt:=dO (iX hc)
     obtain⟨h1,h2⟩:=ih _ rest (by omega) hm
     have hno:=takeOff_not hc
     refine⟨List.nodup_cons.2 ⟨fun hs=>?_,h1⟩,fun a ha'=>?_⟩
     ·obtain⟨x,hx,hax⟩:=h2 s hs
      exact hno x hx hax
     ·rcases List.mem_cons.1 ha' with rfl | ha'
      ·obtain⟨x,hx,t,rfl⟩:=iX hc
       exact⟨_,hx,by simp⟩
      ·obtain⟨x,hx,hax⟩:=h2 a ha'
       obtain⟨y,hy,rfl⟩:=List.mem_map.1 hx
       exact⟨y,hy,takeOff_sub a hax⟩
theorem uM {f:Nat→Option (List ByteArray)} {g:List bA}:∀ {l:List ByteArray} {ls:List (List ByteArray)},fB f g l=some ls→ls.length=l.length∧∀ x∈ls,∃ s∈l,∃ k,oD g s=some k∧f k=some x
 | [],ls,h=>by cases h;exact⟨rfl,fun x hx=>by cases hx⟩
 | s::l,ls,h=>by
  simp only[fB] at h
  cases e:oD g s with
  | none=>simp[e] at h
  | some k=>
   simp only[e] at h
   cases e2:f k with
   | none=>simp[e2] at h
   | some x=>
    simp only[e2] at h
    cases e3:fB f g l with
    | none=>simp[e3] at h
    | some ls'=>
     simp only[e3,Option.map_some,Option.some.injEq] at h
     subst h
     obtain⟨h1,h2⟩:=uM e3
     refine⟨by simp[h1],fun y hy=>?_⟩
     rcases List.mem_cons.1 hy with rfl | hy
     ·exact⟨s,by simp,k,e,e2⟩
     ·obtain⟨s',h3,k',h4,h5⟩:=h2 y hy
      exact⟨s',by simp[h3],k',h4,h5⟩
theorem uR {g:List bA} (hg:Heirs g):∀ (i:Nat) (hi:i<g.length) (l:List ByteArray),iN g i=some l→∃ t,l=g[i].1::t∧l.Nodup∧∀ a∈t,∃ k,∃ hk:k<i,g[k].1=a:=by
 intro i
 induction i using Nat.strongRecOn with
 | _ i ih=>
  intro hi l h
  rw[lin_eq hg hi] at h
  cases e:fB (iN g) g g[i].2 with
  | none=>simp[e] at h
  | some ls=>
   simp only[e] at h
   cases e2:cG (ls++[g[i].2]) with
   | none=>simp[e2] at h
   | some t=>
    simp only[e2,Option.map_some,Option.some.injEq] at h
    subst h
    obtain⟨h1,h2⟩:=zB _ _ t (Nat.le_refl _) e2
    obtain⟨_,h3⟩:=uM e
    have hk:∀ a∈t,∃ k,∃ hk:k<i,g[k].1=a:=fun a ha=>by
     obtain⟨x,hx,hax⟩:=h2 a ha
     rcases List.mem_append.1 hx with hx | hx
     ·obtain⟨s,hs,k,h4,h5⟩:=h3 x hx
      obtain⟨k',h6,h7⟩:=hg.atsup hi hs
      have ek:k'=k:=by rw[h7] at h4;exact Option.some.inj h4
      subst ek
      obtain⟨t',h8,_,h9⟩:=ih k' h6 (by omega) x h5
      subst h8
      rcases List.mem_cons.1 hax with rfl | hax
      ·exact⟨k',h6,rfl⟩
      ·obtain⟨k2,h10,h11⟩:=h9 a hax
       exact⟨k2,by omega,h11⟩
     ·simp at hx;subst hx
      exact hg.sup i hi a hax
    refine⟨t,rfl,List.nodup_cons.2 ⟨fun hm=>?_,h1⟩,hk⟩
    obtain⟨k,hki,e3⟩:=hk _ hm
    have:=hg.uniq k i (by omega) hi e3
    omega
theorem nodup_le {l m:List ByteArray} (h:l.Nodup) (hs:∀ a∈l,a∈m):l.length≤m.length:=by
 induction l generalizing m with
 | nil=>simp
 | cons x l ih=>
  rw[List.nodup_cons] at h
  have hx:=hs x (by simp)
  have h1:=ih (m:=m.filter fun a=>decide (a≠x)) h.2 fun a ha=>by
   have hne:a≠x:=by rintro rfl;exact h.1 ha
   exact List.mem_filter.2 ⟨hs a (by simp[ha]),by simpa using hne⟩
  have h2:(m.filter fun a=>decide (a≠x)).length<m.length:=List.length_filter_lt_length_iff_exists.2 ⟨x,hx,by simp⟩
  simp;omega
theorem lin_len {g:List bA} (hg:Heirs g) {i:Nat} (hi:i<g.length) {l:List ByteArray} (h:iN g i=some l):l.length≤120:=by
 obtain⟨t,rfl,hn,hk⟩:=uR hg i hi l h
 have:=nodup_le (m:=g.map (·.1)) hn fun a ha=>by
  rcases List.mem_cons.1 ha with rfl | ha
  ·exact List.mem_map.2 ⟨g[i],List.getElem_mem hi,rfl⟩
  ·obtain⟨k,hki,rfl⟩:=hk a ha
   exact List.mem_map.2 ⟨g[k],List.getElem_mem _,rfl⟩
 have:=hg.len
 simp at *;omega
theorem lists_total {g:List bA} (hg:Heirs g) {i:Nat} (hi:i<g.length) {ls:List (List ByteArray)} (h:fB (iN g) g g[i].2=some ls):cN (ls++[g[i].2])≤1000000:=by
 obtain⟨h1,h2⟩:=uM h
 have hf:=hg.few i hi
 have:cN (ls++[g[i].2])≤(ls++[g[i].2]).length*120:=total_le 120 _ fun x hx=>by
  rcases List.mem_append.1 hx with hx | hx
  ·obtain⟨s,hs,k,h3,h4⟩:=h2 x hx
   obtain⟨hk,_⟩:=rY h3
   exact lin_len hg hk h4
  ·simp at hx;subst hx;omega
 simp at this;omega
section
attribute [local irreducible] T TL
set_option maxRecDepth 10000
def jW (g:List bA) (L:MK→Option PV):Prop:=∀ b p,L (.s b)=some p→∃ k l,oD g b=some k∧iN g k=some l∧p=LS l
def tB (k:Int):PV:=.iface 311 (.agg [.int .i64 k])
abbrev gC (g:List bA) (gA gL gt:Nat) (L:MK→Option PV):aD:=TR g gA gL gt (atM g) L
def LineR (g:List bA) (gA gL gt:Nat) (res:Option PV) (o:iY) (S':aD):Prop:=∃ L',jW g L'∧S'=gC g gA gL gt L'∧match res with
 | some p=>o=.ret p
 | none=>∃ k,o=.pan (tB k)
def BX (b1 b2 gt i:Nat):aD:=aK (aK E b1 (.row 0 1 0 [[.ptr gt 0 0 0 3]])) b2 (.row 0 1 0 [[.int .i64 (i:Int)]])
theorem qY {g:List bA} {gA gL gt h:Nat} {A L L':MK→Option PV} (h0:TR g gA gL gt A L h=none):TR g gA gL gt A L' h=none:=by
 unfold TR at h0 ⊢
 simp only[aK] at h0 ⊢
 split at h0 <;> simp_all
 split at h0 <;> simp_all
theorem TR_Dj {g:List bA} {gA gL gt:Nat} {A L L':MK→Option PV} {B:aD} (d:Dj (TR g gA gL gt A L) B):Dj (TR g gA gL gt A L') B:=fun h x hx=>by
 cases e:TR g gA gL gt A L h with
 | some y=>exact d h y e
 | none=>rw[qY e] at hx;cases hx
theorem lists_spec (g:List bA) (gA gL gt:Nat) (L:MK→Option PV) (d:Dis gA gL gt) (i:Nat) :
  Fn PP 245 [.ptr gt 0 0 0 3,.int .i64 i] (gC g gA gL gt L) fun o S'=>∃ b1 b2,b1≠b2∧Dj (gC g gA gL gt L) (BX b1 b2 gt i) ∧
   o=.ret (.fn (.func 256) [] [.ptr b1 0 0 0 1,.ptr b2 0 0 0 1])∧S'=bC (gC g gA gL gt L) (BX b1 b2 gt i):=by
 refine aJ aI Tryz.func245 rfl (by rfl) (by rfl) ?_
 refine aX ?_;intros
 refine aG fun b1 hb1=>?_
 refine aX ?_;intros
 refine aG fun b2 hb2=>?_
 refine aX ?_;intros
 refine Exists.intro _ (And.intro (aB _) ?_)
 have hne:b2≠b1:=aL (aA _ _ _) hb2
 have hb2':gC g gA gL gt L b2=none:=by rw[aC hne] at hb2;exact hb2
 refine⟨b1,b2,Ne.symm hne,?_,rfl,?_⟩
 ·exact wA (wA Dj_E hb1) hb2'
 ·unfold BX
  rw[← cF hb2',← cF hb1,nH]
  rfl
theorem lW {P:Program} {g:Nat} {args:List PV} {S S1:aD} {R:iY→aD→Prop} {kr kp:PV→aD→Prop} (h:YFn P g args S1 R) (hs:bV S S1)
  (hk:∀ o S',R o S'→(∀ g,(S' g).isSome=true→(S1 g).isSome=true∨S g=none)→dR S S1 kr kp o S'):yldW P g args S kr kp:=by
 unfold yldW
 exact⟨S1,R,h,hs,fun o S' h1 h2=>by have:=hk o S' h1 h2;cases o <;> exact this⟩
def Gath (ACC:List (List ByteArray)→aD) (gl:Nat):Prop:=
 ∀ (xs:List (List ByteArray)) (x:List ByteArray),xs.length≤100→YFn PP gl [LS x] (ACC xs) fun o S'=>o=.ret (.bool true)∧S'=ACC (xs++[x])
theorem seq_spec (g:List bA) (hg:Heirs g) (gA gL gt b1 b2 gl:Nat) (d:Dis gA gL gt) (hb:b1≠b2) (i:Nat) (hi:i<g.length) (ACC:List (List ByteArray)→aD) (hY:Gath ACC gl)
  (L:MK→Option PV) (hL:jW g L) (dT:∀ L xs,Dj (gC g gA gL gt L) (bC (BX b1 b2 gt i) (ACC xs))) (dB:∀ xs,Dj (BX b1 b2 gt i) (ACC xs))
  (ih:∀ k,k<i→∀ L,jW g L→Fn PP 224 [.ptr gt 0 0 0 3,.int .i64 k] (gC g gA gL gt L) (LineR g gA gL gt ((iN g k).map LS))) :
  Fn PP 256 [.yld gl,.ptr b1 0 0 0 1,.ptr b2 0 0 0 1] (bC (gC g gA gL gt L) (bC (BX b1 b2 gt i) (ACC []))) fun o S'=>∃ L' xs',jW g L'∧S'=bC (gC g gA gL gt L') (bC (BX b1 b2 gt i) (ACC xs')) ∧
   match fH g i with
   | some ls=>o=.ret (.tup [])∧xs'=ls
   | none=>∃ k,o=.pan (tB k):=by
 refine aJ aI Tryz.func256 rfl (by rfl) (by rfl) ?_
 have l1:∀ L xs,bC (gC g gA gL gt L) (bC (BX b1 b2 gt i) (ACC xs)) b1=some (.row 0 1 0 [[.ptr gt 0 0 0 3]]):=fun L xs=>cZ (dT L xs) _ _ (dM (by unfold BX;rw[aC hb,aA]))
 have l2:∀ L xs,bC (gC g gA gL gt L) (bC (BX b1 b2 gt i) (ACC xs)) b2=some (.row 0 1 0 [[.int .i64 (i:Int)]]):=fun L xs=>cZ (dT L xs) _ _ (dM (by unfold BX;rw[aA]))
 have lt:∀ L xs,bC (gC g gA gL gt L) (bC (BX b1 b2 gt i) (ACC xs)) gt=some (.row 0 3 0 [[HS g,.map gA,.map gL]]):=fun L xs=>dM (TR_t d)
 have lA:∀ L xs,bC (gC g gA gL gt L) (bC (BX b1 b2 gt i) (ACC xs)) gA=some (.map true (atM g)):=fun L xs=>dM (TR_A d)
 have c1:=l1 L []
 have c2:=l2 L []
 have c3:=lt L []
 refine aX ?_;intros
 refine aU (aT aI (by rfl) 10 (by decide) ?_)
 conv=>whnf
 refine lV ?_
 refine aX ?_;intros
 refine lV ?_
 refine aX ?_;intros
 refine lV ?_
 refine aX ?_;intros
 refine lV ?_
 refine aX ?_;intros
 refine lV ?_
 refine aX ?_;intros
 apply Exists.intro;apply And.intro
 ·conv=>whnf
  refine aX ?_;intros
  refine bS hi ?_
  exact goE
 conv=>whnf
 refine lV ?_
 refine aX ?_;intros
 refine lV ?_
 refine aX ?_;intros
 refine lV ?_
 refine aX ?_;intros
 refine lV ?_
 refine aX ?_;intros
 refine aX ?_;intros
 have hfew:=hg.few i hi
 refine aU (aY (α:=(MK→Option PV) × List (List ByteArray) × Nat) (inv:=fun x=>x.2.2≤g[i].2.length∧jW g x.1∧x.2.1.length=x.2.2∧fB (iN g) g g[i].2=(fB (iN g) g (g[i].2.drop x.2.2)).map (x.2.1 ++ ·))
  (tm:=fun x=>gF 42 [(0,.yld gl),(1,.ptr b1 0 0 0 1),(2,.ptr b2 0 0 0 1),(13,LS g[i].2),(14,.int .i64 g[i].2.length),(15,.int .i64 x.2.2)])
  (st:=fun x=>bC (gC g gA gL gt x.1) (bC (BX b1 b2 gt i) (ACC x.2.1))) (μ:=fun x=>g[i].2.length - x.2.2) (L,[],0) ⟨by simp,hL,rfl,by simp⟩ ?_ (aB _) ?_)
 ·repeat' (first | exact trivial | exact rfl | refine And.intro ?_ ?_)
  simp
 rintro⟨L1,xs,j⟩ ⟨hj,hL1,hxs,hsup⟩
 dsimp only at hj hL1 hxs hsup ⊢
 have c4:=l1 L1 xs
 have c5:=l2 L1 xs
 have c6:=lt L1 xs
 have c7:=lA L1 xs
 have dAB:∀ L xs,Dj (bC (gC g gA gL gt L) (BX b1 b2 gt i)) (ACC xs):=fun L xs=>Dj_uni (dT L xs) (dB xs)
 have step:∀ L xs x,jD (bC (gC g gA gL gt L) (bC (BX b1 b2 gt i) (ACC xs))) (ACC xs) (ACC (xs++[x]))=bC (gC g gA gL gt L) (bC (BX b1 b2 gt i) (ACC (xs++[x]))):=fun L xs x=>by
  rw[← mD,mrg_r (dAB L xs) (dAB L _),mD]
 refine aX ?_;intros
 refine And.intro (fun hc=>?_) (fun hc=>?_)
 ·have hjl:j<g[i].2.length:=by simpa using hc
  obtain⟨k,hki,hat⟩:=hg.atsup hi (List.getElem_mem hjl)
  rw[List.drop_eq_getElem_cons hjl] at hsup
  simp only[fB,hat] at hsup
  refine aX ?_;intros
  refine bS hjl ?_
  refine aX ?_;intros
  refine aU (T_drawF aI (by rfl) 8 [0] (by kernel_rfl) (by decide) (fun _ _ _ _ _ h=>h) ?_)
  conv=>whnf
  refine lV ?_
  refine aX ?_;intros
  refine lV ?_
  refine aX ?_;intros
  refine lV ?_
  refine aX ?_;intros
  refine lV ?_
  refine aX ?_;intros
  refine lV ?_
  refine aX ?_;intros
  refine lV ?_
  refine aX ?_;intros
  apply Exists.intro;apply And.intro
  ·conv=>whnf
   refine aX ?_;intros
   refine fV c7 (p:=.int .i64 (k:Int)) (by simp[atM,hat]) ?_
   conv=>whnf
  refine aX ?_;intros
  refine aV (ih k hki L1 hL1) dQ ?_
  rintro o S' ⟨L2,hL2,rfl,ho⟩ hdom
  unfold dR
  rw[mrg_l (dT L1 xs)]
  cases hlk:iN g k with
  | none=>
   rw[hlk] at ho hsup
   obtain⟨k',rfl⟩:=ho
   conv=>whnf
   refine⟨rfl,_,aB _,L2,xs,hL2,rfl,?_⟩
   have:fH g i=none:=by
    unfold fH
    rw[List.getElem?_eq_getElem hi]
    dsimp only
    rw[hsup];rfl
   rw[this];exact⟨k',rfl⟩
  | some x=>
   rw[hlk] at ho hsup
   simp only[Option.map_some] at ho
   subst ho
   refine aX ?_;intros
   refine lW (hY xs x (by omega)) ((cZ (dT L2 xs)).trans (cZ (dB xs))) ?_
   rintro o S' ⟨rfl,rfl⟩ -
   unfold dR
   rw[step]
   refine aX ?_;intros
   refine⟨(L2,xs++[x],j+1),⟨by dsimp only;omega,hL2,by simp[hxs],?_⟩,by dsimp only;omega,?_,aB _⟩
   ·rw[hsup]
    dsimp only
    cases fB (iN g) g (List.drop (j+1) g[i].2) with
    | none=>rfl
    | some ls=>simp
   ·repeat' (first | exact trivial | exact rfl | refine And.intro ?_ ?_)
 ·have hge:¬ j<g[i].2.length:=by simpa using hc
  have hls:fH g i=some (xs++[g[i].2]):=by
   unfold fH
   rw[List.getElem?_eq_getElem hi]
   dsimp only
   rw[hsup,List.drop_of_length_le (by omega)]
   simp[fB]
  refine aX ?_;intros
  refine aU (aT aI (by rfl) 10 (by decide) ?_)
  conv=>whnf
  refine lV ?_
  refine aX ?_;intros
  refine lV ?_
  refine aX ?_;intros
  refine lV ?_
  refine aX ?_;intros
  refine lV ?_
  refine aX ?_;intros
  refine lV ?_
  refine aX ?_;intros
  refine lV ?_
  refine aX ?_;intros
  apply Exists.intro;apply And.intro
  ·conv=>whnf
   refine aX ?_;intros
   refine bS hi ?_
   exact goE
  conv=>whnf
  refine lV ?_
  refine aX ?_;intros
  refine lV ?_
  refine aX ?_;intros
  apply Exists.intro;apply And.intro
  ·conv=>whnf
   exact⟨E,aM _,pZ _⟩
  refine aX ?_;intros
  refine lW (hY xs g[i].2 (by omega)) ((cZ (dT L1 xs)).trans (cZ (dB xs))) ?_
  rintro o S' ⟨rfl,rfl⟩ -
  unfold dR
  rw[step]
  refine aX ?_;intros
  refine⟨_,aB _,L1,xs++[g[i].2],hL1,rfl,?_⟩
  rw[hls]
  exact⟨rfl,rfl⟩
end
section
attribute [local irreducible] T TL
set_option maxRecDepth 10000
def GA (gR b0:Nat) (xs:List (List ByteArray)):aD:=aK (aK E gR (.row xs.length 1 24 (xs.map eL))) b0 (.row 0 1 0 [[.row gR xs.length 0 xs.length 1]])
def AC (gR b0 gl:Nat) (rec:AO) (xs:List (List ByteArray)):aD:=aK (GA gR b0 xs) gl rec
theorem xV {gR b0 h:Nat} {xs:List (List ByteArray)}:GA gR b0 xs h=none↔h≠gR∧h≠b0:=by
 unfold GA
 by_cases h1:h=b0
 ·subst h1;simp
 ·rw[aC h1]
  by_cases h2:h=gR
  ·subst h2;simp
  ·rw[aC h2];simp[h1,h2,E]
theorem AC_none {gR b0 gl h:Nat} {rec:AO} {xs:List (List ByteArray)}:AC gR b0 gl rec xs h=none↔h≠gR∧h≠b0∧h≠gl:=by
 unfold AC
 by_cases h1:h=gl
 ·subst h1;simp
 ·rw[aC h1,xV];simp[h1]
theorem Dj_AC {A:aD} {gR b0 gl:Nat} {rec:AO} {xs:List (List ByteArray)} (h1:A gR=none) (h2:A b0=none) (h3:A gl=none):Dj A (AC gR b0 gl rec xs):=fun h x hx=>by
 rw[AC_none]
 exact⟨fun e=>(by rw[e,h1] at hx;cases hx),fun e=>(by rw[e,h2] at hx;cases hx),fun e=>(by rw[e,h3] at hx;cases hx)⟩
theorem Dj_uni_r {A B C:aD} (h:Dj A B) (k:Dj A C):Dj A (bC B C):=fun g x hx=>by rw[bL];exact⟨h g x hx,k g x hx⟩
theorem rf_gather (g:List bA) (hg:Heirs g) (gA gL gt b1 b2:Nat) (d:Dis gA gL gt) (hb:b1≠b2) (i:Nat) (hi:i<g.length) (L:MK→Option PV) (hL:jW g L) (hd:Dj (gC g gA gL gt L) (BX b1 b2 gt i))
    (ih:∀ k,k<i→∀ L,jW g L→Fn PP 224 [.ptr gt 0 0 0 3,.int .i64 k] (gC g gA gL gt L) (LineR g gA gL gt ((iN g k).map LS)))
    {gR b0:Nat} (hR:bC (gC g gA gL gt L) (BX b1 b2 gt i) gR=none) (h0:bC (gC g gA gL gt L) (BX b1 b2 gt i) b0=none) (h0R:b0≠gR) {S:aD} (hS:S=bC (bC (gC g gA gL gt L) (BX b1 b2 gt i)) (GA gR b0 []))
    {fn gd gl:Nat} {t:List PV} {ps:Array Tmp} {asg bd:Code} {Q:bQ} {D:List DA} (hgd:S gd=none) (hgl:S gl=none) (hne:gd≠gl) (hps:ps.size=1)
    (hround:∀ l xs x,xs.length≤100→T PP (some l) asg (yN PP l gl bd fun o S'=>o=.ret (.bool true)∧S'=AC gR b0 gl (.loop .ready none fn t ps asg bd gd) (xs++[x])) (zipT t ps.toList [LS x]) (AC gR b0 gl (.loop .ready none fn t ps asg bd gd) xs) [])
    (hret:∀ L' ls,jW g L'→fH g i=some ls→Q .normal t (aK (bC (bC (gC g gA gL gt L') (BX b1 b2 gt i)) (GA gR b0 ls)) gd .dfr) (.mark gd::D))
    (hpan:∀ L' k S',jW g L'→fH g i=none→bV S' (aK (bC (gC g gA gL gt L') (BX b1 b2 gt i)) gd .dfr)→Q (.panic (tB k)) t S' (.mark gd::D)) :
    ∃ S1 R,Fn PP 256 ([]++[.yld gl]++[.ptr b1 0 0 0 1,.ptr b2 0 0 0 1]) S1 R∧bV (aK (aK S gd .dfr) gl (.loop .ready none fn t ps asg bd gd)) S1 ∧
          ∀ o S',R o S'→(∀ g,(S' g).isSome=true→(S1 g).isSome=true∨aK (aK S gd .dfr) gl (.loop .ready none fn t ps asg bd gd) g=none) →
            rfX PP Q t (jD (aK (aK S gd .dfr) gl (.loop .ready none fn t ps asg bd gd)) S1 S') gl gd D o:=by
  generalize hrec:(AO.loop .ready none fn t ps asg bd gd)=rec at *
  obtain⟨hR1,hR2⟩:=bL.1 hR
  obtain⟨h01,h02⟩:=bL.1 h0
  subst hS
  obtain⟨hgl0,hgl3⟩:=bL.1 hgl
  obtain⟨hgl1,hgl2⟩:=bL.1 hgl0
  obtain⟨hgd0,hgd3⟩:=bL.1 hgd
  obtain⟨hgd1,hgd2⟩:=bL.1 hgd0
  rw[xV] at hgl3 hgd3
  have dT:∀ L' xs,Dj (gC g gA gL gt L') (bC (BX b1 b2 gt i) (AC gR b0 gl rec xs)):=fun L' xs=>Dj_uni_r (TR_Dj hd) (Dj_AC (qY hR1) (qY h01) (qY hgl1))
  have dB:∀ xs,Dj (BX b1 b2 gt i) (AC gR b0 gl rec xs):=fun xs=>Dj_AC hR2 h02 hgl2
  have hY:Gath (AC gR b0 gl rec) gl:=fun xs x hx=>by
    subst hrec
    exact xJ (by unfold AC;exact aA _ _ _) (by simp[hps]) fun l=>hround l xs x hx
  have hrecv:rec.ver=0:=by subst hrec;rfl
  refine⟨_,_,seq_spec g hg gA gL gt b1 b2 gl d hb i hi (AC gR b0 gl rec) hY L hL dT dB ih,?_,?_⟩
  ·
    intro h x hx
    rw[← mD] at hx
    by_cases e1:h=gl
    · subst e1
      rw[aA]
      rw[gU hgl0] at hx
      unfold AC at hx;rw[aA] at hx;exact hx
    · rw[aC e1]
      have e2:h≠gd:=by
        rintro rfl
        rw[gU hgd0,AC_none.2 ⟨hgd3.1,hgd3.2,hne⟩] at hx;cases hx
      rw[aC e2]
      cases e3:bC (gC g gA gL gt L) (BX b1 b2 gt i) h with
      | some y=>rw[dM e3] at hx ⊢;exact hx
      | none=>
        rw[gU e3] at hx ⊢
        unfold AC at hx;rw[aC e1] at hx;exact hx
  · rintro o S' ⟨L',xs',hL',rfl,ho⟩ hdom

    have rd:∀ h x,h≠gl→(bC (bC (gC g gA gL gt L') (BX b1 b2 gt i)) (GA gR b0 xs')) h=some x→jD (aK (aK (bC (bC (gC g gA gL gt L) (BX b1 b2 gt i)) (GA gR b0 [])) gd .dfr) gl rec) (bC (gC g gA gL gt L) (bC (BX b1 b2 gt i) (AC gR b0 gl rec []))) (bC (gC g gA gL gt L') (bC (BX b1 b2 gt i) (AC gR b0 gl rec xs'))) h=some x:=by
      intro h x e1 hx
      have:bC (gC g gA gL gt L') (bC (BX b1 b2 gt i) (AC gR b0 gl rec xs')) h=some x:=by
        rw[← mD]
        cases e3:bC (gC g gA gL gt L') (BX b1 b2 gt i) h with
        | some y=>rw[dM e3] at hx ⊢;exact hx
        | none=>
          rw[gU e3] at hx ⊢
          unfold AC;rw[aC e1];exact hx
      simp only[jD,this]
    have nT:∀ {h:Nat} {L':MK→Option PV},bC (gC g gA gL gt L) (BX b1 b2 gt i) h=none→bC (gC g gA gL gt L') (BX b1 b2 gt i) h=none:=fun hh=>by
      obtain⟨k1,k2⟩:=bL.1 hh
      exact bL.2 ⟨qY k1,k2⟩
    have rgl:jD (aK (aK (bC (bC (gC g gA gL gt L) (BX b1 b2 gt i)) (GA gR b0 [])) gd .dfr) gl rec) (bC (gC g gA gL gt L) (bC (BX b1 b2 gt i) (AC gR b0 gl rec []))) (bC (gC g gA gL gt L') (bC (BX b1 b2 gt i) (AC gR b0 gl rec xs'))) gl=some rec:=by
      have:bC (gC g gA gL gt L') (bC (BX b1 b2 gt i) (AC gR b0 gl rec xs')) gl=some rec:=by
        rw[← mD,gU (nT hgl0)];unfold AC;exact aA _ _ _
      simp only[jD,this]
    have rgd:jD (aK (aK (bC (bC (gC g gA gL gt L) (BX b1 b2 gt i)) (GA gR b0 [])) gd .dfr) gl rec) (bC (gC g gA gL gt L) (bC (BX b1 b2 gt i) (AC gR b0 gl rec []))) (bC (gC g gA gL gt L') (bC (BX b1 b2 gt i) (AC gR b0 gl rec xs'))) gd=some .dfr:=by
      have k1:bC (gC g gA gL gt L') (bC (BX b1 b2 gt i) (AC gR b0 gl rec xs')) gd=none:=by
        rw[← mD,gU (nT hgd0)];exact AC_none.2 ⟨hgd3.1,hgd3.2,hne⟩
      have k2:bC (gC g gA gL gt L) (bC (BX b1 b2 gt i) (AC gR b0 gl rec [])) gd=none:=by
        rw[← mD,gU hgd0];exact AC_none.2 ⟨hgd3.1,hgd3.2,hne⟩
      simp only[jD,k1,k2]
      rw[aC hne,aA];rfl
    cases hls:fH g i with
    | some ls=>
      rw[hls] at ho
      obtain⟨rfl,rfl⟩:=ho
      subst hrec
      refine⟨_,_,_,_,_,_,_,_,_,rgl,by simp,?_,hret L' xs' hL' hls⟩
      intro h x hx
      by_cases e1:h=gd
      · subst e1
        rw[aA] at hx;cases hx
        rw[aC hne];exact rgd
      · rw[aC e1] at hx
        have e2:h≠gl:=by
          rintro rfl
          rw[gU (nT hgl0),xV.2 hgl3] at hx;cases hx
        rw[aC e2];exact rd h x e2 hx
    | none=>
      rw[hls] at ho
      obtain⟨k,rfl⟩:=ho
      refine hpan L' k _ hL' hls ?_
      intro h x hx
      by_cases e1:h=gd
      · subst e1
        rw[aA] at hx;cases hx
        exact rgd
      · rw[aC e1] at hx
        have e2:h≠gl:=by
          rintro rfl
          rw[nT hgl0] at hx;cases hx
        exact rd h x e2 (dM hx)
end
section
set_option maxRecDepth 10000
theorem roundA_AC {gR b0 gl l:Nat} {fn:FuncId} {t0 t:List PV} {ps:Array Tmp} {asg bd:Code} {gd:Nat} {xs:List (List ByteArray)} {x:List ByteArray}
  (h:∀ bz,T PP (some l) bd (fun e _ S _=>match e with | .normal=>bV S (aK (GA gR b0 (xs++[x])) gl bz) | _=>False) t (aK (GA gR b0 xs) gl bz) []) :
  yN PP l gl bd (fun o S'=>o=.ret (.bool true)∧S'=AC gR b0 gl (.loop .ready none fn t0 ps asg bd gd) (xs++[x])) .normal t (AC gR b0 gl (.loop .ready none fn t0 ps asg bd gd) xs) []:=by
 refine⟨_,_,_,_,_,_,_,aA (GA gR b0 xs) gl _,?_⟩
 show T PP (some l) bd _ t (aK (aK (GA gR b0 xs) gl _) gl _) []
 rw[aN]
 refine T.mono (h _) fun e t' S D hx=>?_
 cases e with
 | normal=>
  have hx':bV S (aK (GA gR b0 (xs++[x])) gl _):=hx
  refine⟨_,_,_,_,_,_,_,_,_,hx' gl _ (aA _ _ _),?_,rfl,rfl⟩
  intro k y hy
  unfold AC at hy
  by_cases e:k=gl
  ·subst e;rw[aA] at hy ⊢;exact hy
  ·rw[aC e] at hy ⊢
   exact hx' k y (by rw[aC e];exact hy)
 | _=>exact hx.elim
attribute [local irreducible] T TL yN
def GathR (g:List bA) (gA gL gt b1 b2 i:Nat) (o:iY) (S':aD):Prop:=∃ L',jW g L'∧S'=bC (gC g gA gL gt L') (BX b1 b2 gt i)∧match fH g i with
 | some ls=>o=.ret (uN ls)
 | none=>∃ k,o=.pan (tB k)
def GathRow (g:List bA) (gA gL gt b1 b2 i:Nat) (o:iY) (S':aD):Prop:=∃ L',jW g L'∧match fH g i with
 | some ls=>∃ gR,bC (gC g gA gL gt L') (BX b1 b2 gt i) gR=none∧S'=bC (bC (gC g gA gL gt L') (BX b1 b2 gt i)) (aK E gR (.row ls.length 1 24 (ls.map eL)))∧o=.ret (.row gR ls.length 0 ls.length 1)
 | none=>S'=bC (gC g gA gL gt L') (BX b1 b2 gt i)∧∃ k,o=.pan (tB k)
theorem appendSeq_spec (g:List bA) (hg:Heirs g) (gA gL gt b1 b2:Nat) (d:Dis gA gL gt) (hb:b1≠b2) (i:Nat) (hi:i<g.length) (L:MK→Option PV) (hL:jW g L) (hd:Dj (gC g gA gL gt L) (BX b1 b2 gt i))
  (ih:∀ k,k<i→∀ L,jW g L→Fn PP 224 [.ptr gt 0 0 0 3,.int .i64 k] (gC g gA gL gt L) (LineR g gA gL gt ((iN g k).map LS))) :
  Fn PP 255 [.nils,.fn (.func 256) [] [.ptr b1 0 0 0 1,.ptr b2 0 0 0 1]] (bC (gC g gA gL gt L) (BX b1 b2 gt i)) (GathRow g gA gL gt b1 b2 i):=by
 refine cL (tW aI Tryz.func255 rfl (by rfl) (by rfl) ?_)
 refine gJ 0 1 24 rfl fun gR hgR=>?_
 refine aX ?_;intros
 refine aG fun b0 hb0=>?_
 have h0R:b0≠gR:=aL (aA _ _ _) hb0
 have h0:bC (gC g gA gL gt L) (BX b1 b2 gt i) b0=none:=by rw[aC h0R] at hb0;exact hb0
 have hS:aK (aK (bC (gC g gA gL gt L) (BX b1 b2 gt i)) gR (.row 0 1 24 [])) b0 (.row 0 1 0 [[.row gR 0 0 0 1]])=bC (bC (gC g gA gL gt L) (BX b1 b2 gt i)) (GA gR b0 []):=by
  unfold GA
  rw[← cF h0,← cF hgR,nH];rfl
 refine aX ?_;intros
 refine aU (pV ?_)
 conv=>whnf
 intro fn gd gl hgd hgl hne
 refine rf_gather g hg gA gL gt b1 b2 d hb i hi L hL hd ih hgR h0 h0R hS hgd hgl hne rfl ?_ ?_ ?_
 ·intro l xs x hx
  have n1:gl≠b0:=aL (aA _ _ _) hgl
  have n2:gl≠gR:=aL (by rw[aC (Ne.symm h0R)];exact aA _ _ _) hgl
  refine aX ?_;intros
  refine roundA_AC fun bz=>?_
  have cB:(aK (GA gR b0 xs) gl bz) b0=some (.row 0 1 0 [[.row gR xs.length 0 xs.length 1]]):=by rw[aC (Ne.symm n1)];exact aA _ _ _
  have cR:(aK (GA gR b0 xs) gl bz) gR=some (.row xs.length 1 24 (xs.map eL)):=by rw[aC (Ne.symm n2)];unfold GA;rw[aC (Ne.symm h0R),aA]
  refine aX ?_;intros
  refine .inl ?_
  refine aX ?_;intros
  refine eV (And.intro (by simp[dS,lH];rfl) ?_)
  refine aX ?_;intros
  refine bX cR ?_
  refine And.intro (by simp) (And.intro rfl (And.intro (show (xs.length+1)*24≤140737488355328 by omega) ?_))
  refine aX ?_;intros
  refine And.intro ⟨bB (aA _ _ _),trivial⟩ ?_
  refine eR (xs:=[[.row gR xs.length 0 xs.length 1]]) (by rw[aC h0R];exact cB) rfl (Nat.le_refl 1) ?_
  rintro new rfl
  refine aX ?_
  intro k y hy
  by_cases e1:k=b0
  ·subst e1
   rw[aC (Ne.symm n1)] at hy
   unfold GA at hy
   rw[aA] at hy ⊢
   rw[← hy];simp
  ·rw[aC e1]
   by_cases e2:k=gR
   ·subst e2
    rw[aC (Ne.symm n2)] at hy
    unfold GA at hy
    rw[aC e1,aA] at hy
    rw[aA,← hy];simp
   ·rw[aC e2]
    by_cases e3:k=gl
    ·subst e3;rw[aA] at hy ⊢;exact hy
    ·rw[aC e3,xV.2 ⟨e2,e1⟩] at hy;cases hy
 ·intro L' ls hL' hls
  have nT:∀ {h:Nat},bC (gC g gA gL gt L) (BX b1 b2 gt i) h=none→bC (gC g gA gL gt L') (BX b1 b2 gt i) h=none:=fun hh=>by
   obtain⟨k1,k2⟩:=bL.1 hh
   exact bL.2 ⟨qY k1,k2⟩
  have m1:gd≠b0:=aL (aA _ _ _) hgd
  have m2:gd≠gR:=aL (by rw[aC (Ne.symm h0R)];exact aA _ _ _) hgd
  have cB:(aK (bC (bC (gC g gA gL gt L') (BX b1 b2 gt i)) (GA gR b0 ls)) gd AO.dfr) b0=some (.row 0 1 0 [[.row gR ls.length 0 ls.length 1]]):=by
   rw[aC (Ne.symm m1),gU (nT h0)];exact aA _ _ _
  show T PP none _ _ _ _ _
  refine aX ?_;intros
  have x1:bC (bC (gC g gA gL gt L') (BX b1 b2 gt i)) (GA gR b0 ls) gd=none:=by
   have hgd':bC (bC (gC g gA gL gt L) (BX b1 b2 gt i)) (GA gR b0 []) gd=none:=by rw[← hS];exact hgd
   exact bL.2 ⟨nT (bL.1 hgd').1,xV.2 ⟨m2,m1⟩⟩
  have x2:bC (bC (gC g gA gL gt L') (BX b1 b2 gt i)) (GA gR b0 ls) gR=some (.row ls.length 1 24 (ls.map eL)):=by
   rw[gU (nT hgR)];unfold GA;rw[aC (Ne.symm h0R),aA]
  refine And.intro (by unfold pG;exact aA _ _ _) ?_
  conv=>whnf
  refine⟨bC (bC (gC g gA gL gt L') (BX b1 b2 gt i)) (GA gR b0 ls),?_,aO.weak (S':=bC (bC (gC g gA gL gt L') (BX b1 b2 gt i)) (aK E gR (.row ls.length 1 24 (ls.map eL)))) ?_ (aO.same ⟨L',hL',by rw[hls];exact⟨gR,nT hgR,rfl,rfl⟩⟩)⟩
  ·intro h x hx
   have e:h≠gd:=by rintro rfl;rw[x1] at hx;cases hx
   unfold iZ
   rw[if_neg e,aC e];exact hx
  ·intro h x hx
   cases e:bC (gC g gA gL gt L') (BX b1 b2 gt i) h with
   | some y=>rw[dM e] at hx ⊢;exact hx
   | none=>
    rw[gU e] at hx ⊢
    by_cases e2:h=gR
    ·subst e2
     rw[aA] at hx
     rw[← hx];unfold GA;rw[aC (Ne.symm h0R),aA]
    ·rw[aC e2] at hx;cases hx
 ·intro L' k S' hL' hls hsle
  have nT:∀ {h:Nat},bC (gC g gA gL gt L) (BX b1 b2 gt i) h=none→bC (gC g gA gL gt L') (BX b1 b2 gt i) h=none:=fun hh=>by
   obtain⟨k1,k2⟩:=bL.1 hh
   exact bL.2 ⟨qY k1,k2⟩
  have hgd':bC (bC (gC g gA gL gt L) (BX b1 b2 gt i)) (GA gR b0 []) gd=none:=by rw[← hS];exact hgd
  have x1:bC (gC g gA gL gt L') (BX b1 b2 gt i) gd=none:=nT (bL.1 hgd').1
  conv=>whnf
  refine And.intro (by unfold pG;exact hsle gd _ (aA _ _ _)) ?_
  conv=>whnf
  refine⟨bC (gC g gA gL gt L') (BX b1 b2 gt i),?_,aO.same ⟨L',hL',by rw[hls];exact⟨rfl,k,rfl⟩⟩⟩
  intro h x hx
  have e:h≠gd:=by rintro rfl;rw[x1] at hx;cases hx
  unfold iZ
  rw[if_neg e];exact hsle h x (by rw[aC e];exact hx)
theorem collect_row (g:List bA) (hg:Heirs g) (gA gL gt b1 b2:Nat) (d:Dis gA gL gt) (hb:b1≠b2) (i:Nat) (hi:i<g.length) (L:MK→Option PV) (hL:jW g L) (hd:Dj (gC g gA gL gt L) (BX b1 b2 gt i))
  (ih:∀ k,k<i→∀ L,jW g L→Fn PP 224 [.ptr gt 0 0 0 3,.int .i64 k] (gC g gA gL gt L) (LineR g gA gL gt ((iN g k).map LS))) :
  Fn PP 244 [.fn (.func 256) [] [.ptr b1 0 0 0 1,.ptr b2 0 0 0 1]] (bC (gC g gA gL gt L) (BX b1 b2 gt i)) (GathRow g gA gL gt b1 b2 i):=by
 refine aJ aI Tryz.func244 rfl (by rfl) (by rfl) ?_
 refine aX ?_;intros
 refine aV (appendSeq_spec g hg gA gL gt b1 b2 d hb i hi L hL hd ih) (aB _) ?_
 rintro o S' hR -
 unfold dR
 rw[cW]
 obtain⟨L',hL',ho⟩:=hR
 cases hls:fH g i with
 | some ls=>
  rw[hls] at ho
  obtain⟨gR,h1,rfl,rfl⟩:=ho
  refine aX ?_;intros
  exact⟨_,aB _,L',hL',by rw[hls];exact⟨gR,h1,rfl,rfl⟩⟩
 | none=>
  rw[hls] at ho
  obtain⟨rfl,k,rfl⟩:=ho
  conv=>whnf
  exact⟨rfl,_,aB _,L',hL',by rw[hls];exact⟨rfl,k,rfl⟩⟩
theorem collect_spec (g:List bA) (hg:Heirs g) (gA gL gt b1 b2:Nat) (d:Dis gA gL gt) (hb:b1≠b2) (i:Nat) (hi:i<g.length) (L:MK→Option PV) (hL:jW g L) (hd:Dj (gC g gA gL gt L) (BX b1 b2 gt i))
  (ih:∀ k,k<i→∀ L,jW g L→Fn PP 224 [.ptr gt 0 0 0 3,.int .i64 k] (gC g gA gL gt L) (LineR g gA gL gt ((iN g k).map LS))) :
  Fn PP 244 [.fn (.func 256) [] [.ptr b1 0 0 0 1,.ptr b2 0 0 0 1]] (bC (gC g gA gL gt L) (BX b1 b2 gt i)) (GathR g gA gL gt b1 b2 i):=by
 refine cL (fO (collect_row g hg gA gL gt b1 b2 d hb i hi L hL hd ih) ?_)
 rintro o S' ⟨L',hL',ho⟩
 cases hls:fH g i with
 | some ls=>
  rw[hls] at ho
  obtain⟨gR,h1,rfl,rfl⟩:=ho
  refine aO.freeze (by rw[gU h1,aA]) (eQ (by simp)) (aO.weak (S':=bC (gC g gA gL gt L') (BX b1 b2 gt i)) ?_ (aO.same ⟨L',hL',rfl,by rw[hls]⟩))
  intro h x hx
  have e:h≠gR:=by rintro rfl;rw[h1] at hx;cases hx
  unfold iZ
  rw[if_neg e];exact dM hx
 | none=>
  rw[hls] at ho
  obtain⟨rfl,k,rfl⟩:=ho
  exact aO.same ⟨L',hL',rfl,by rw[hls];exact⟨k,rfl⟩⟩
end
section
attribute [local irreducible] T TL
set_option maxRecDepth 10000
theorem goodL_upd {g:List bA} {L:MK→Option PV} (h:jW g L) {b:ByteArray} {k:Nat} {l:List ByteArray} (h1:oD g b=some k) (h2:iN g k=some l):jW g (fD L (.s b) (LS l)):=by
 intro b' p hp
 by_cases e:b'=b
 ·subst e
  simp[fD] at hp
  exact⟨k,l,h1,h2,hp.symm⟩
 ·have:¬ (MK.s b'=MK.s b):=by simpa using e
  simp only[fD,this,if_false] at hp
  exact h b' p hp
theorem line_spec (g:List bA) (hg:Heirs g) (gA gL gt:Nat) (d:Dis gA gL gt):∀ (i:Nat),i<g.length→∀ (L:MK→Option PV),jW g L →
  Fn PP 224 [.ptr gt 0 0 0 3,.int .i64 i] (gC g gA gL gt L) (LineR g gA gL gt ((iN g i).map LS)):=by
 intro i
 induction i using Nat.strongRecOn with
 | _ i ih=>
 intro hi L hL
 have hat:=hg.at hi
 refine aJ aI Tryz.func224 rfl (by rfl) (by rfl) ?_
 have c1:gC g gA gL gt L gt=some (.row 0 3 0 [[HS g,.map gA,.map gL]]):=TR_t d
 refine aX ?_;intros
 refine bS hi ?_
 refine aX ?_;intros
 refine mO (TR_L d) (lZ (fun p hp=>?_) (fun hp=>?_))
 ·obtain⟨k,l,h1,h2,rfl⟩:=hL _ _ hp
  rw[hat] at h1;cases h1
  refine aX ?_;intros
  refine⟨_,aB _,L,hL,rfl,?_⟩
  rw[h2];rfl
 ·conv=>whnf
  refine aX ?_;intros
  refine aV (lists_spec g gA gL gt L d i) (aB _) ?_
  rintro o S' ⟨b1,b2,hb,hd,rfl,rfl⟩ -
  unfold dR
  rw[cW]
  refine aX ?_;intros
  refine aV (collect_spec g hg gA gL gt b1 b2 d hb i hi L hL hd fun k hk L hL=>ih k hk (by omega) L hL) (aB _) ?_
  rintro o S' ⟨L1,hL1,rfl,ho⟩ -
  unfold dR
  rw[cW]
  cases hls:fH g i with
  | none=>
   rw[hls] at ho
   obtain⟨k,rfl⟩:=ho
   conv=>whnf
   refine⟨rfl,gC g gA gL gt L1,dQ,L1,hL1,rfl,?_⟩
   have:iN g i=none:=by
    rw[lin_eq hg hi]
    unfold fH at hls
    rw[List.getElem?_eq_getElem hi] at hls
    dsimp only at hls
    cases e:fB (iN g) g g[i].2 with
    | none=>rfl
    | some ls=>rw[e] at hls;cases hls
   rw[this];exact⟨k,rfl⟩
  | some ls=>
   rw[hls] at ho
   subst ho
   have hlin:iN g i=(cG ls).map (g[i].1 :: ·)∧cN ls≤1000000:=by
    unfold fH at hls
    rw[List.getElem?_eq_getElem hi] at hls
    dsimp only at hls
    cases e:fB (iN g) g g[i].2 with
    | none=>rw[e] at hls;cases hls
    | some ls'=>
     rw[e] at hls
     simp only[Option.map_some,Option.some.injEq] at hls
     subst hls
     refine⟨?_,lists_total hg hi e⟩
     rw[lin_eq hg hi,e]
   obtain⟨hlin,htot⟩:=hlin
   have hm:=merged_spec ls htot
   unfold mergedV at hm
   refine aX ?_;intros
   cases hmx:cG ls with
   | none=>
    rw[hmx] at hm hlin
    dsimp only at hm
    refine bE hm ?_
    refine aX ?_;intros
    refine⟨gC g gA gL gt L1,dQ,L1,hL1,rfl,?_⟩
    rw[hlin];exact⟨_,rfl⟩
   | some out=>
    rw[hmx] at hm hlin
    simp only[Option.map_some] at hlin
    dsimp only at hm
    have hlen:=lin_len hg hi hlin
    simp only[List.length_cons] at hlen
    refine bE hm ?_
    refine aX ?_;intros
    refine .inr (aG fun gr hgr=>?_)
    refine aX ?_;intros
    refine eV (And.intro (fG fun x=>⟨rfl,trivial,trivial⟩) ?_)
    refine aX ?_;intros
    refine bX (aA _ _ _) ?_
    refine And.intro rfl (And.intro rfl (And.intro (show (1+(out.map eS).length)*16≤140737488355328 by simp;omega) ?_))
    rw[aN]
    conv=>whnf
    have hsl:∀ x,bV (iZ (aK (bC (gC g gA gL gt L1) (BX b1 b2 gt i)) gr x) gr) (gC g gA gL gt L1):=fun x h y hy=>by
     have e:h≠gr:=by
      rintro rfl
      rw[dM hy] at hgr;cases hgr
     unfold iZ
     rw[if_neg e,aC e];exact dM hy
    refine TL_view (qJ.trans (yC (d:=46) (aA _ _ _) (eQ (by simp;omega))) (qJ.weak (aZ _) (hsl _))) ?_
    have c2:gC g gA gL gt L1 gt=some (.row 0 3 0 [[HS g,.map gA,.map gL]]):=TR_t d
    refine aX ?_;intros
    refine dL (TR_L d) ?_
    refine aX ?_;intros
    refine⟨_,aB _,fD L1 (.s g[i].1) (LS (g[i].1::out)),goodL_upd hL1 hat hlin,?_,?_⟩
    ·show aK (gC g gA gL gt L1) gL (.map true _)=_
     rw[TR_updL d];rfl
    ·rw[hlin];rfl
end
section
attribute [local irreducible] T TL
set_option maxRecDepth 10000
abbrev EC (gE:Nat) (e:Int):aD:=aK E gE (.row 0 1 0 [[.int .i64 e]])
theorem callDW_intro {P:Program} {f:Nat} {args:List PV} {u:AM} {S S1:aD} {R:iY→AM→aD→Prop} {k:iY→AM→aD→Prop} (h:FnD P f args u S1 R) (hs:bV S S1)
  (hk:∀ o u' S',R o u' S'→(∀ g,(S' g).isSome=true→(S1 g).isSome=true∨S g=none)→k o u' (jD S S1 S')):callDW P f args u S k:=by
 unfold callDW;exact⟨S1,R,h,hs,hk⟩
theorem callDW_r {P:Program} {f:Nat} {args:List PV} {u u':AM} {A B B':aD} {o:iY} {k:iY→AM→aD→Prop} (h:FnD P f args u B fun o1 u1 S'=>u1=u'∧o1=o∧S'=B') (d:Dj A B) (d':Dj A B') (hk:k o u' (bC A B')):callDW P f args u (bC A B) k:=by
 refine callDW_intro h (cZ d) ?_
 rintro o u' S' ⟨rfl,rfl,rfl⟩ -
 rw[mrg_r d d'];exact hk
theorem caught_ret (gE:Nat) (e:Int):FnD PP 223 [.ptr gE 0 0 0 1] .ret (EC gE e) fun o u' S'=>u'=.ret∧o=.ret (.tup [])∧S'=EC gE e:=by
 refine FnD_rec (u:=.ret) (R:=fun o S'=>o=.ret (.tup [])∧S'=EC gE e) aI Tryz.func223 rfl (by rfl) (by rfl) rfl rfl (by simp) ?_
 refine aX ?_;intros
 refine Exists.intro _ (And.intro (aB _) ?_)
 exact⟨rfl,rfl⟩
theorem caught_pan (gE:Nat) (e k:Int):FnD PP 223 [.ptr gE 0 0 0 1] (.pan (tB k)) (EC gE e) fun o u' S'=>u'=.done∧o=.ret (.tup [])∧S'=EC gE 71:=by
 refine FnD_rec (u:=.pan (tB k)) (R:=fun o S'=>o=.ret (.tup [])∧S'=EC gE 71) aI Tryz.func223 rfl (by rfl) (by rfl) rfl rfl (by simp) ?_
 unfold tB
 refine aX ?_;intros
 refine aG fun g hg=>?_
 have hne:gE≠g:=Ne.symm (aL (aA _ _ _) hg)
 refine aX ?_;intros
 refine eR (aA _ _ _) rfl (Nat.le_of_ble_eq_true rfl) ?_
 rintro new rfl
 rw[aN]
 have hE:∀ x,(aK (EC gE e) g x) gE=some (.row 0 1 0 [[.int .i64 e]]):=fun x=>by rw[aC hne];exact aA _ _ _
 have hE1:=hE (.row 0 1 0 [[.int .i64 k]])
 refine aX ?_;intros
 refine eR hE1 rfl (Nat.le_of_ble_eq_true rfl) ?_
 rintro new rfl
 refine aX ?_;intros
 refine⟨EC gE 71,?_,rfl,rfl⟩
 intro h x hx
 unfold EC at hx
 by_cases e1:h=gE
 ·subst e1;rw[aA] at hx ⊢;exact hx
 ·rw[aC e1] at hx;cases hx
def linP (o:Option (List ByteArray)):PV:=match o with
 | some l=>.tup [LS l,.int .i64 0]
 | none=>.tup [LS [],.int .i64 71]
theorem Dj_one {S:aD} {g:Nat} {x:AO} (h:S g=none):Dj S (aK E g x):=wA Dj_E h
theorem tried_spec (g:List bA) (hg:Heirs g) (gA gL gt:Nat) (d:Dis gA gL gt) (i:Nat) (hi:i<g.length) (L:MK→Option PV) (hL:jW g L) :
  Fn PP 191 [.ptr gt 0 0 0 3,.int .i64 i] (gC g gA gL gt L) fun o S'=>∃ L',jW g L'∧S'=gC g gA gL gt L'∧o=.ret (linP (iN g i)):=by
 refine cL (tW aI Tryz.func191 rfl (by rfl) (by rfl) ?_)
 refine aX ?_;intros
 refine aG fun gE hgE=>?_
 refine aX ?_;intros
 refine aV (line_spec g hg gA gL gt d i hi L hL) (aR hgE) ?_
 rintro o S' ⟨L',hL',rfl,ho⟩ -
 unfold dR
 rw[upd_new hgE,mrg_l (Dj_one hgE)]
 have hgE':gC g gA gL gt L' gE=none:=qY hgE
 have hd:Dj (gC g gA gL gt L') (aK E gE (.row 0 1 0 [[.int .i64 0]])):=Dj_one hgE'
 have cE:∀ x,bC (gC g gA gL gt L') (aK E gE x) gE=some x:=fun x=>by rw[gU hgE',aA]
 cases hlin:iN g i with
 | some l=>
  rw[hlin] at ho
  simp only[Option.map_some] at ho
  subst ho
  have cE1:=cE (.row 0 1 0 [[.int .i64 0]])
  refine aX ?_;intros
  refine eR cE1 rfl (Nat.le_of_ble_eq_true rfl) ?_
  rintro new rfl
  rw[cF hgE',aN]
  refine aX ?_;intros
  refine callDW_r (caught_ret gE 0) hd hd ?_
  refine aX ?_;intros
  exact⟨gC g gA gL gt L',dQ,aO.same ⟨L',hL',rfl,rfl⟩⟩
 | none=>
  rw[hlin] at ho
  obtain⟨k,rfl⟩:=ho
  have cE2:=cE (.row 0 1 0 [[.int .i64 71]])
  refine aX ?_;intros
  refine callDW_r (caught_pan gE 0 k) hd (Dj_one hgE') ?_
  refine aX ?_;intros
  exact⟨gC g gA gL gt L',dQ,aO.nilv sQ (aO.same ⟨L',hL',rfl,rfl⟩)⟩
end
section
attribute [local irreducible] T TL
set_option maxRecDepth 10000
theorem xM {S S':aD}:jD S E S'=bC S' S:=by
 funext h
 simp only[jD,bC,E]
 cases S' h <;> simp
end
section
attribute [local irreducible] T TL
set_option maxRecDepth 10000
def allV (g:List bA):PV:=
 if cX g≠0 then .tup [uN [],.int .i64 0,.int .i64 (cX g)] else
 match (List.range g.length).find? (fun i=>(iN g i).isNone) with
 | some i=>.tup [uN [],.int .i64 (i:Nat),.int .i64 71]
 | none=>.tup [uN ((List.range g.length).filterMap (iN g)),.int .i64 0,.int .i64 0]
theorem nil_tup3 {p q:PV}:NilV (.tup [.nils,p,q]) (.tup [uN [],p,q]):=.tup _ _ rfl fun i h1 h2=>by
 match i,h1 with
 | 0,_=>exact .nils 24
 | 1,_=>exact .same _
 | 2,_=>exact .same _
theorem fz_tup3 {g ver sz e n:Nat} {xs:List (List PV)} {p q:PV} (hn:n=xs.length):FzV g ver sz e xs (.tup [.row g ver 0 n sz,p,q]) (.tup [.list e xs,p,q]):=.tup _ _ rfl fun i h1 h2=>by
 match i,h1 with
 | 0,_=>exact eQ hn
 | 1,_=>exact .same _
 | 2,_=>exact .same _
theorem all_spec (g:List bA):FnP PP 160 [HS g] (allV g):=by
 refine cL (aJ aI Tryz.func160 rfl (by rfl) (by rfl) ?_)
 refine aX ?_;intros
 refine aV (open_spec g ⟨#[]⟩) (aM _) ?_
 rintro o S' hR -
 rcases hR with ⟨hn,rfl,rfl⟩ | ⟨hn,gA,gL,gt,d,rfl,rfl⟩
 ·unfold dR
  rw[mrg_E]
  have h3:cX g≠3:=by unfold cX;split <;> (try split) <;> simp
  refine aX ?_;intros
  refine And.intro (fun hc=>?_) (fun hc=>?_)
  ·conv=>whnf
   refine aX ?_;intros
   refine And.intro (fun hc=>?_) (fun hc=>?_)
   ·conv=>whnf
    refine aX ?_;intros
    refine⟨E,aM _,aO.nilv nil_tup3 (aO.same ⟨?_,rfl⟩)⟩
    unfold allV;rw[if_pos hn]
   ·simp[h3] at hc
  ·simp[hn] at hc
 ·unfold dR
  rw[mrg_E]
  have hg:=xX hn
  have hat:oD g ⟨#[]⟩=none:=by
   cases e:oD g ⟨#[]⟩ with
   | none=>rfl
   | some k=>obtain⟨hk,e2⟩:=rY e;exact absurd e2 (hg.name k hk)
  rw[hat]
  simp only[Option.getD_none,Option.isSome_none,Bool.false_eq_true,if_false]
  refine aX ?_;intros
  refine aU (gJ 8 1 24 rfl fun go hgo=>?_)
  have hgo':∀ L,gC g gA gL gt L go=none:=fun L=>qY hgo
  have hd:∀ L x,Dj (gC g gA gL gt L) (aK E go x):=fun L x=>Dj_one (hgo' L)
  have cO:∀ L x,bC (gC g gA gL gt L) (aK E go x) go=some x:=fun L x=>by rw[gU (hgo' L),aA]
  let outs:Nat→List (List ByteArray):=fun i=>(List.range i).filterMap (iN g)
  refine aY (α:=(MK→Option PV) × Nat) (inv:=fun x=>x.2≤g.length∧jW g x.1∧(∀ j,j<x.2→(iN g j).isSome=true)∧(outs x.2).length=x.2)
   (tm:=fun x=>gF 47 [(5,.ptr gt 0 0 0 3),(8,.row go x.2 0 x.2 1),(26,.int .i64 g.length),(27,.int .i64 x.2)])
   (st:=fun x=>bC (gC g gA gL gt x.1) (aK E go (.row x.2 1 24 ((outs x.2).map eL)))) (μ:=fun x=>g.length - x.2) (fun _=>none,0) ⟨Nat.zero_le _,fun b p hp=>(by cases hp),fun j hj=>absurd hj (Nat.not_lt_zero j),rfl⟩ ?_ ?_ ?_
  ·repeat' (first | exact trivial | exact rfl | refine And.intro ?_ ?_)
   simp
  ·rw[upd_new hgo];exact aB _
  rintro⟨L,i⟩ ⟨hi,hL,hsome,hlen2⟩
  dsimp only at hi hL hsome hlen2 ⊢
  have h120:=hg.len
  refine aX ?_;intros
  refine And.intro (fun hc=>?_) (fun hc=>?_)
  ·have hlt:i<g.length:=by simpa using hc
   refine aX ?_;intros
   refine aV (tried_spec g hg gA gL gt d i hlt L hL) dQ ?_
   rintro o S' ⟨L',hL',rfl,rfl⟩ -
   unfold dR
   rw[mrg_l (hd _ _)]
   cases hlin:iN g i with
   | none=>
    unfold linP
    refine aX ?_;intros
    refine⟨E,aM _,aO.nilv nil_tup3 (aO.same ⟨?_,rfl⟩)⟩
    have:(List.range g.length).find? (fun i=>(iN g i).isNone)=some i:=by
     have:=find_at (p:=fun i=>(iN g i).isNone) (l:=List.range g.length) (i:=i) (by simpa using hlt) (by simp[hlin]) (fun j hj h'=>by
      have:=hsome j hj
      simp only[List.getElem_range]
      cases e:iN g j with
      | none=>rw[e] at this;cases this
      | some y=>rfl)
     simpa using this
    unfold allV;rw[if_neg (by simp[hn]),this]
   | some l=>
    unfold linP
    have hout:outs (i+1)=outs i++[l]:=by
     simp only[outs]
     rw[List.range_succ,List.filterMap_append]
     simp[hlin]
    refine aX ?_;intros
    refine bE (pZ l) ?_
    refine aX ?_;intros
    refine .inl ?_
    refine aX ?_;intros
    refine eV (And.intro (by simp[dS,lH];rfl) ?_)
    refine aX ?_;intros
    refine bX (cO _ _) ?_
    refine And.intro (by simp[hlen2]) (And.intro rfl (And.intro (show (i+1)*24≤140737488355328 by omega) ?_))
    rw[cF (hgo' _),aN]
    refine aX ?_;intros
    refine⟨(L',i+1),⟨by dsimp only;omega,hL',fun j hj=>?_,by dsimp only;rw[hout];simp[hlen2]⟩,by dsimp only;omega,?_,?_⟩
    ·by_cases e:j=i
     ·subst e;rw[hlin];rfl
     ·exact hsome j (by dsimp only at hj;omega)
    ·repeat' (first | exact trivial | exact rfl | refine And.intro ?_ ?_)
    ·dsimp only
     rw[hout,List.map_append];exact aB _
  ·have hge:¬ i<g.length:=by simpa using hc
   have hi2:i=g.length:=by omega
   subst hi2
   refine aX ?_;intros
   refine⟨_,aB _,aO.freeze (cO _ _) (fz_tup3 (by simp[hlen2])) (aO.weak (aM _) (aO.same ⟨?_,rfl⟩))⟩
   have:(List.range g.length).find? (fun i=>(iN g i).isNone)=none:=by
    rw[List.find?_eq_none]
    intro j hj
    have:=hsome j (by simpa using hj)
    cases e:iN g j with
    | none=>rw[e] at this;cases this
    | some y=>simp
   unfold allV;rw[if_neg (by simp[hn]),this]
end
section
attribute [local irreducible] T TL
set_option maxRecDepth 10000
def linzP (g:List bA) (name:ByteArray):List ByteArray × Int:=
 if cX g≠0 then ([],cX g) else match oD g name with
  | none=>([],3)
  | some i=>match iN g i with
   | some l=>(l,0)
   | none=>([],71)
theorem eq_of_get {a b:List ByteArray} (hl:a.length=b.length) (h:∀ j (h1:j<a.length) (h2:j<b.length),a[j]=b[j]):a=b:=List.ext_getElem hl h
theorem equal_spec (a b:List ByteArray):FnP PP 77 [LS a,LS b] (.bool (decide (a=b))):=by
 refine aJ aI Tryz.func77 rfl (by rfl) (by rfl) ?_
 refine aX ?_;intros
 refine And.intro (fun hc=>?_) (fun hc=>?_)
 ·have hl:¬ a.length=b.length:=by simp at hc;omega
  refine aX ?_;intros
  refine⟨E,aM _,?_,rfl⟩
  have:¬ a=b:=fun e=>hl (by rw[e])
  simp[this]
 ·have hl:a.length=b.length:=by simp at hc;omega
  refine aX ?_;intros
  refine aU (aY (α:=Nat) (inv:=fun i=>i≤a.length∧∀ j (_:j<i) (h1:j<a.length) (h2:j<b.length),a[j]=b[j])
   (tm:=fun i=>gF 26 [(0,LS a),(1,LS b),(12,.int .i64 a.length),(13,.int .i64 i)]) (st:=fun _=>E) (μ:=fun i=>a.length - i) 0 ⟨by omega,fun j hj=>by omega⟩ ?_ (aB _) ?_)
  ·repeat' (first | exact trivial | exact rfl | refine And.intro ?_ ?_)
   simp
  rintro i ⟨hi,hpre⟩
  refine aX ?_;intros
  refine And.intro (fun hc=>?_) (fun hc=>?_)
  ·have hlt:i<a.length:=by simpa using hc
   have hlt2:i<b.length:=by omega
   refine aX ?_;intros
   refine aU (aT aI (by rfl) 9 (by decide) ?_)
   conv=>whnf
   refine lV ?_
   refine aX ?_;intros
   refine lV ?_
   refine aX ?_;intros
   apply Exists.intro;apply And.intro
   ·conv=>whnf
    refine bS hlt ?_
    exact goE
   conv=>whnf
   refine lV ?_
   refine aX ?_;intros
   refine lV ?_
   refine aX ?_;intros
   refine lV ?_
   refine aX ?_;intros
   apply Exists.intro;apply And.intro
   ·conv=>whnf
    refine bS hlt2 ?_
    exact goE
   conv=>whnf
   refine lV ?_
   refine aX ?_;intros
   refine lV ?_
   refine aX ?_;intros
   refine aX ?_;intros
   refine And.intro (fun hc=>?_) (fun hc=>?_)
   ·have hne:¬ a[i]=b[i]:=by simpa using hc
    refine aX ?_;intros
    refine⟨E,aM _,?_,rfl⟩
    have:¬ a=b:=fun e=>hne (by subst e;rfl)
    simp[this]
   ·have heq:a[i]=b[i]:=by simpa using hc
    refine aX ?_;intros
    refine⟨i+1,⟨by omega,fun j hj h1 h2=>?_⟩,by omega,?_,aB _⟩
    ·by_cases e:j=i
     ·subst e;exact heq
     ·exact hpre j (by omega) h1 h2
    ·repeat' (first | exact trivial | exact rfl | refine And.intro ?_ ?_)
  ·have hge:¬ i<a.length:=by simpa using hc
   refine aX ?_;intros
   refine⟨E,aM _,?_,rfl⟩
   have:a=b:=eq_of_get hl fun j h1 h2=>hpre j (by omega) h1 h2
   simp[this]
theorem same_spec (a b:List ByteArray):FnP PP 38 [LS a,LS b] (.bool (decide (a=b))):=by
 refine aJ aI Tryz.func38 rfl (by rfl) (by rfl) ?_
 refine aX ?_;intros
 refine And.intro (fun hc=>?_) (fun hc=>?_)
 ·have hl:¬ a.length=b.length:=by simp at hc;omega
  refine aX ?_;intros
  refine⟨E,aM _,?_,rfl⟩
  have:¬ a=b:=fun e=>hl (by rw[e])
  simp[this]
 ·have hl:a.length=b.length:=by simp at hc;omega
  refine aX ?_;intros
  refine aU (aY (α:=Nat) (inv:=fun i=>i≤a.length∧∀ j (_:j<i) (h1:j<a.length) (h2:j<b.length),a[j]=b[j])
   (tm:=fun i=>gF 26 [(0,LS a),(1,LS b),(5,.int .i64 i)]) (st:=fun _=>E) (μ:=fun i=>a.length - i) 0 ⟨by omega,fun j hj=>by omega⟩ ?_ (aB _) ?_)
  ·repeat' (first | exact trivial | exact rfl | refine And.intro ?_ ?_)
  rintro i ⟨hi,hpre⟩
  refine aX ?_;intros
  refine And.intro (fun hc=>?_) (fun hc=>?_)
  ·have hlt:i<a.length:=by simpa using hc
   have hlt2:i<b.length:=by omega
   refine aX ?_;intros
   refine aU (aT aI (by rfl) 9 (by decide) ?_)
   conv=>whnf
   refine lV ?_
   refine aX ?_;intros
   refine lV ?_
   refine aX ?_;intros
   apply Exists.intro;apply And.intro
   ·conv=>whnf
    refine bS hlt ?_
    exact goE
   conv=>whnf
   refine lV ?_
   refine aX ?_;intros
   refine lV ?_
   refine aX ?_;intros
   refine lV ?_
   refine aX ?_;intros
   apply Exists.intro;apply And.intro
   ·conv=>whnf
    refine bS hlt2 ?_
    exact goE
   conv=>whnf
   refine lV ?_
   refine aX ?_;intros
   refine lV ?_
   refine aX ?_;intros
   refine aX ?_;intros
   refine And.intro (fun hc=>?_) (fun hc=>?_)
   ·have hne:¬ a[i]=b[i]:=by simpa using hc
    refine aX ?_;intros
    refine⟨E,aM _,?_,rfl⟩
    have:¬ a=b:=fun e=>hne (by subst e;rfl)
    simp[this]
   ·have heq:a[i]=b[i]:=by simpa using hc
    refine aX ?_;intros
    refine⟨i+1,⟨by omega,fun j hj h1 h2=>?_⟩,by omega,?_,aB _⟩
    ·by_cases e:j=i
     ·subst e;exact heq
     ·exact hpre j (by omega) h1 h2
    ·repeat' (first | exact trivial | exact rfl | refine And.intro ?_ ?_)
  ·have hge:¬ i<a.length:=by simpa using hc
   refine aX ?_;intros
   refine⟨E,aM _,?_,rfl⟩
   have:a=b:=eq_of_get hl fun j h1 h2=>hpre j (by omega) h1 h2
   simp[this]
end
section
attribute [local irreducible] T TL
set_option maxRecDepth 10000
theorem nil_tup2L {p:PV}:NilV (.tup [.nils,p]) (.tup [uN [],p]):=.tup _ _ rfl fun i h1 h2=>by
 match i,h1 with
 | 0,_=>exact .nils 24
 | 1,_=>exact .same _
theorem mC {A B:aD} {g:Nat} {x:AO}:aK (bC A B) g x=bC (aK A g x) B:=by
 funext h
 simp only[aK,bC]
 split <;> rfl
end
section
attribute [local irreducible] T TL
set_option maxRecDepth 10000
theorem vD (l:List ByteArray) (s:ByteArray):FnP PP 23 [LS l,.str s] (.int .i64 (cQ (nL s) l)):=by
 refine aJ aI Tryz.func23 rfl (by rfl) (by rfl) ?_
 refine cJ (bW (d:=0) rfl) fun hlen=>?_
 rw[List.length_map] at hlen
 refine aX ?_;intros
 refine aU (aY (α:=Nat) (inv:=fun i=>i≤l.length∧∀ j (_:j<i) (h':j<l.length),nL s l[j]=false) (tm:=fun i=>lS [LS l,.str s,.any,.any,.any,.int .i64 i] (Tryz.f23).ntmps) (st:=fun _=>E) (μ:=fun i=>l.length - i) 0 ⟨by omega,by simp⟩ ?_ (aB _) ?_)
 ·repeat' (first | exact trivial | exact rfl | refine And.intro ?_ ?_)
 rintro i ⟨hi,hpre⟩
 refine aX ?_;intros
 refine And.intro (fun hc=>?_) (fun hc=>?_)
 ·have hlt:i<l.length:=by simpa using hc
  refine aX ?_;intros
  refine bS hlt ?_
  refine aX ?_;intros
  refine And.intro (fun hc=>?_) (fun hc=>?_)
  ·have he:nL s l[i]=true:=by
    have:l[i]=s:=by simpa using hc
    simp[nL,this]
   refine aX ?_;intros
   refine Exists.intro _ (And.intro (aB _) ?_)
   exact⟨by rw[iM hlt he hpre],rfl⟩
  ·have he:nL s l[i]=false:=by
    have:¬ l[i]=s:=by simpa using hc
    simp[nL,Ne.symm this]
   refine aX ?_;intros
   refine⟨i+1,⟨by omega,fun j hj h'=>?_⟩,by omega,?_,aB _⟩
   ·by_cases e:j=i
    ·subst e;exact he
    ·exact hpre j (by omega) h'
   ·repeat' (first | exact trivial | exact rfl | refine And.intro ?_ ?_)
 ·have hge:¬ i<l.length:=by simpa using hc
  refine aX ?_;intros
  refine Exists.intro _ (And.intro (aB _) ?_)
  exact⟨by rw[eN fun j h'=>hpre j (by omega) h'],rfl⟩
theorem distinct_spec (l:List ByteArray):FnP PP 170 [LS l] (.bool (decide l.Nodup)):=by
 refine aJ aI Tryz.func170 rfl (by rfl) (by rfl) ?_
 refine cJ (bW (d:=0) rfl) fun hlen=>?_
 rw[List.length_map] at hlen
 refine aX ?_;intros
 refine aU (aY (α:=Nat) (inv:=fun i=>i≤l.length∧(l.take i).Nodup) (tm:=fun i=>lS [LS l,.any,.any,.int .i64 i] (Tryz.f170).ntmps) (st:=fun _=>E) (μ:=fun i=>l.length - i) 0 ⟨by omega,by simp⟩ ?_ (aB _) ?_)
 ·repeat' (first | exact trivial | exact rfl | refine And.intro ?_ ?_)
 rintro i ⟨hi,hpre⟩
 refine aX ?_;intros
 refine And.intro (fun hc=>?_) (fun hc=>?_)
 ·have hlt:i<l.length:=by simpa using hc
  refine aX ?_;intros
  refine aU (aT aI (by rfl) 9 (by decide) ?_)
  conv=>whnf
  refine lV ?_
  refine aX ?_;intros
  refine lV ?_
  refine aX ?_;intros
  refine⟨LS (l.take i),?_,?_⟩
  ·conv=>whnf
   refine aX ?_;intros
   refine kE (h:=i) rfl (by omega) ?_
   rfl
  conv=>whnf
  refine lV ?_
  refine aX ?_;intros
  refine lV ?_
  refine aX ?_;intros
  apply Exists.intro;apply And.intro
  ·conv=>whnf
   refine bS hlt ?_
   exact goE
  conv=>whnf
  refine lV ?_
  refine aX ?_;intros
  apply Exists.intro;apply And.intro
  ·conv=>whnf
   exact⟨E,aM _,vD _ _⟩
  conv=>whnf
  refine lV ?_
  refine aX ?_;intros
  refine aX ?_;intros
  have hd:decide (cQ (nL l[i]) (l.take i)≥0)=(l.take i).any (nL l[i]):=nI _ _
  refine And.intro (fun hc=>?_) (fun hc=>?_)
  ·have hm:l[i]∈l.take i:=jE.1 (by rw[← hd];exact hc)
   refine aX ?_;intros
   refine⟨E,aM _,?_,rfl⟩
   have:=not_nodup hlt hm
   simp[this]
  ·have hm:l[i]∉l.take i:=fun h=>by
    have h2:=jE.2 h
    rw[← hd] at h2
    have h3:decide (cQ (nL l[i]) (l.take i)≥0)=false:=hc
    rw[h3] at h2;cases h2
   refine aX ?_;intros
   refine⟨i+1,⟨by omega,nodup_take hpre hlt hm⟩,by omega,?_,aB _⟩
   ·repeat' (first | exact trivial | exact rfl | refine And.intro ?_ ?_)
 ·have hge:¬ i<l.length:=by simpa using hc
  refine aX ?_;intros
  refine⟨E,aM _,?_,rfl⟩
  have:l.Nodup:=by rw[List.take_of_length_le (by omega)] at hpre;exact hpre
  simp[this]
def isH (s:ByteArray) (h:bA):Bool:=decide (h.1=s)
theorem heir_spec (g:List bA) (s:ByteArray):FnP PP 177 [HS g,.str s] (.int .i64 (cQ (isH s) g)):=by
 refine aJ aI Tryz.func177 rfl (by rfl) (by rfl) ?_
 refine cJ (bW (d:=0) rfl) fun hlen=>?_
 rw[List.length_map] at hlen
 refine aX ?_;intros
 refine aU (aY (α:=Nat) (inv:=fun i=>i≤g.length∧∀ j (_:j<i) (h':j<g.length),isH s g[j]=false) (tm:=fun i=>lS [HS g,.str s,.any,.any,.any,.int .i64 i] (Tryz.f177).ntmps) (st:=fun _=>E) (μ:=fun i=>g.length - i) 0 ⟨by omega,by simp⟩ ?_ (aB _) ?_)
 ·repeat' (first | exact trivial | exact rfl | refine And.intro ?_ ?_)
 rintro i ⟨hi,hpre⟩
 refine aX ?_;intros
 refine And.intro (fun hc=>?_) (fun hc=>?_)
 ·have hlt:i<g.length:=by simpa using hc
  refine aX ?_;intros
  refine bS hlt ?_
  refine aX ?_;intros
  refine And.intro (fun hc=>?_) (fun hc=>?_)
  ·have he:isH s g[i]=true:=by
    have:g[i].1=s:=by simpa using hc
    simp[isH,this]
   refine aX ?_;intros
   refine Exists.intro _ (And.intro (aB _) ?_)
   exact⟨by rw[iM hlt he hpre],rfl⟩
  ·have he:isH s g[i]=false:=by
    have:¬ g[i].1=s:=by simpa using hc
    simp[isH,this]
   refine aX ?_;intros
   refine⟨i+1,⟨by omega,fun j hj h'=>?_⟩,by omega,?_,aB _⟩
   ·by_cases e:j=i
    ·subst e;exact he
    ·exact hpre j (by omega) h'
   ·repeat' (first | exact trivial | exact rfl | refine And.intro ?_ ?_)
 ·have hge:¬ i<g.length:=by simpa using hc
  refine aX ?_;intros
  refine Exists.intro _ (And.intro (aB _) ?_)
  exact⟨by rw[eN fun j h'=>hpre j (by omega) h'],rfl⟩
end
instance (l:List ByteArray) (s:ByteArray):cH 59 [LS l,.str s] (.int .i64 (cQ (nL s) l)):=⟨index_spec l s⟩
instance (l:List ByteArray) (s:ByteArray):cH 80 [LS l,.str s] (.bool (l.any (nL s))):=⟨mT l s⟩
instance (a b:List ByteArray):cH 77 [LS a,LS b] (.bool (decide (a=b))):=⟨equal_spec a b⟩
instance (a b:List ByteArray):cH 38 [LS a,LS b] (.bool (decide (a=b))):=⟨same_spec a b⟩
instance (l:List ByteArray) (s:ByteArray):cH 23 [LS l,.str s] (.int .i64 (cQ (nL s) l)):=⟨vD l s⟩
instance (l:List ByteArray):cH 170 [LS l] (.bool (decide l.Nodup)):=⟨distinct_spec l⟩
instance (g:List bA) (s:ByteArray):cH 177 [HS g,.str s] (.int .i64 (cQ (isH s) g)):=⟨heir_spec g s⟩
end Go.Proofs.YtbojdflgjpjbiaaGreat.L
