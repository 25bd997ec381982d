/- A logic over the machine, and what the functions of the seat come to: part 9. No claim stands here; the theorems are used by the row. -/
import Derived.Test.YtbojdflgjpjbiaaGreatJ8
set_option linter.unusedSimpArgs false
set_option linter.unnecessarySimpa false
set_option linter.unusedVariables false
namespace Go.Proofs.YtbojdflgjpjbiaaGreat.L
open Go
section
attribute [local irreducible] T TL
set_option maxRecDepth 10000
set_option maxHeartbeats 4000000
theorem sameC_spec (a b:ClassI):FnP PP 158 [CV a,CV b] (.bool (decide (a=b))):=by
 refine aJ aI Tryz.func158 rfl (by rfl) (by rfl) ?_
 refine aF ?_;intros
 refine aG fun g1 hg1=>?_
 refine aF ?_;intros
 refine aG fun g2 hg2=>?_
 have fin:∀ S:aD,decide (a=b)=false→∃ S',bV S S'∧(iY.ret (.bool false)=.ret (.bool (decide (a=b)))∧S'=E):=fun S h=>⟨E,aM _,by rw[h],rfl⟩
 have ne:∀ {α:Type} (f:ClassI→α),¬ f a=f b→decide (a=b)=false:=fun f h=>decide_eq_false fun e=>h (by rw[e])
 refine aF ?_;intros
 refine And.intro (fun h1=>?_) (fun h1=>?_)
 ·have e1:=of_decide_eq_true h1
  refine aF ?_;intros
  refine And.intro (fun h2=>?_) (fun h2=>?_)
  ·have e2:=of_decide_eq_true h2
   refine aF ?_;intros
   refine And.intro (fun h3=>?_) (fun h3=>?_)
   ·have e3:=of_decide_eq_true h3
    refine aF ?_;intros
    refine And.intro (fun h4=>?_) (fun h4=>?_)
    ·have e4:=of_decide_eq_true h4
     refine aF ?_;intros
     refine And.intro (fun h5=>?_) (fun h5=>?_)
     ·have e5:a.abs=b.abs:=by simpa using h5
      refine aF ?_;intros
      refine⟨E,aM _,?_,rfl⟩
      have:decide (a=b)=(a.sealed == b.sealed):=by
       cases a;cases b
       simp only at e1 e2 e3 e4 e5
       subst e1 e2 e3 e4 e5
       rename_i s1 s2
       cases s1 <;> cases s2 <;> simp
      rw[this]
     ·have h5:¬ a.abs=b.abs:=by simpa using h5
      refine aF ?_;intros
      exact fin _ (ne _ h5)
    ·have h4:=of_decide_eq_false h4
     refine aF ?_;intros
     exact fin _ (ne _ h4)
   ·have h3:=of_decide_eq_false h3
    refine aF ?_;intros
    exact fin _ (ne _ h3)
  ·have h2:=of_decide_eq_false h2
   refine aF ?_;intros
   exact fin _ (ne _ h2)
 ·have h1:=of_decide_eq_false h1
  refine aF ?_;intros
  exact fin _ (ne _ h1)
end
section
attribute [local irreducible] T TL
set_option maxRecDepth 10000
set_option maxHeartbeats 4000000
theorem heirs_spec (l:List ClassI) (hl:l.length≤1000):FnP PP 161 [CS l] (HS (hsOf l)):=by
 refine cL (aJ aI Tryz.func161 rfl (by rfl) (by rfl) ?_)
 refine nO ?_;intros
 refine lY aI (nO ?_);intros
 refine nO ?_;intros
 refine lY aI (nO ?_);intros
 refine gJ 3 2 40 rfl fun gq hgq=>?_
 refine aF ?_;intros
 let st:Nat→aD:=fun i=>aK E gq (.row i 2 40 ((hsOf (l.take i)).map eH))
 refine aU (aY (α:=Nat) (inv:=fun i=>i≤l.length) (tm:=fun i=>gF 22 [(3,.row gq i 0 i 2),(6,CS l),(7,.int .i64 l.length),(8,.int .i64 i)]) (st:=st) (μ:=fun i=>l.length - i) 0 (by omega) ?_ (aB _) ?_)
 ·repeat' (first | exact trivial | exact rfl | refine And.intro ?_ ?_)
  simp
 intro i hi
 have hS:st i gq=some (.row i 2 40 ((hsOf (l.take i)).map eH)):=aA _ _ _
 have hlen:((hsOf (l.take i)).map eH).length=i:=by simp[hsOf];omega
 refine aF ?_;intros
 refine fC (fun hc=>?_) (fun hc=>?_)
 ·have hil:i<l.length:=by omega
  refine aF ?_;intros
  refine aG fun g1 hg1=>?_
  have hS1:∀ x,aK (st i) g1 x gq=some (.row i 2 40 ((hsOf (l.take i)).map eH)):=fun x=>aE hS hg1
  refine aF ?_;intros
  refine And.intro hlen (And.intro rfl (And.intro (show (i+1)*40≤140737488355328 by omega) ?_))
  refine aF ?_;intros
  have hrow:(hsOf (l.take i)).map eH++[[PV.str l[i].name,LS l[i].supers]]=(hsOf (l.take (i+1))).map eH:=by
   rw[List.take_succ_eq_append_getElem hil];unfold hsOf;rw[List.map_append,List.map_append];rfl
  refine⟨i+1,by omega,by omega,?_,?_⟩
  ·repeat' (first | exact trivial | exact rfl | refine And.intro ?_ ?_)
  ·exact fE (by rw[aA];exact congrArg (fun z=>some (AO.row (i+1) 2 40 z)) hrow)
 ·have e:i=l.length:=by omega
  subst e
  rw[List.take_length] at hS hlen
  refine aF ?_;intros
  exact⟨_,aB _,aO.freeze hS (eQ hlen.symm) (aO.weak (aM _) (aO.same ⟨rfl,rfl⟩))⟩
def KL (l:List ClassI) (n:pY) (i:Nat):aD:=
 aK (aK (aK (aK E n.ga (.map true (atM (hsOf (l.take i))))) n.gc (.map true fun _=>none)) n.gv (.map true fun _=>none)) n.gh (.row 0 4 0 [[CS l,.map n.ga,.map n.gc,.map n.gv]])
theorem mayS_spec (l:List ClassI) (n:pY) (k:n.Ok) (i:Nat) (hi:i≤l.length) (c:ClassI) (b1 b2:Nat) (S:aD) (s1:S b1=some (.row 0 1 0 [[.ptr n.gh 0 0 0 4]])) (s2:S b2=some (.row 0 6 0 [eC c]))
  (s3:S n.gh=some (.row 0 4 0 [[CS l,.map n.ga,.map n.gc,.map n.gv]])) (s4:S n.ga=some (.map true (atM (hsOf (l.take i))))) (s:ByteArray) :
  Fn PP 189 [.str s,.ptr b1 0 0 0 1,.ptr b2 0 0 0 6] S fun o S'=>o=.ret (.bool (!qE (l.take i) c.lib s))∧S'=S:=by
 refine aJ aI Tryz.func189 rfl (by rfl) (by rfl) ?_
 refine aF ?_;intros
 refine mO (f:=atM (hsOf (l.take i))) s4 (lZ (fun p hp=>?_) (fun hp=>?_))
 ·obtain⟨k,hk,rfl⟩:∃ k,mZ (l.take i) s=some k∧p=.int .i64 (k:Nat):=by
   simp only[atM] at hp
   unfold mZ
   cases e:oD (hsOf (l.take i)) s with
   | none=>rw[e] at hp;cases hp
   | some k=>rw[e] at hp;exact⟨k,rfl,by simpa using hp.symm⟩
  obtain⟨hk1,_⟩:=rY hk
  have hki:k<(l.take i).length:=by simpa[hsOf] using hk1
  have hkl:k<l.length:=by simp at hki;omega
  refine aF ?_;intros
  have hfit:qE (l.take i) c.lib s=(!(decide (1≤k) && decide (k≤4)) && !(l[k].sealed && !decide (l[k].lib=c.lib))):=by
   unfold qE
   rw[hk]
   dsimp only
   rw[List.getElem?_eq_getElem hki]
   simp only[List.getElem_take]
  refine aU (aT aI (by rfl) 34 (by decide) ?_)
  refine aF ?_;intros
  have cont:∀ h1:Bool,True:=fun _=>trivial
  by_cases q1:1≤k
  ·refine And.intro (fun _=>?_) (fun h=>absurd h (by simp;omega))
   refine aF ?_;intros
   by_cases q2:k≤4
   ·refine And.intro (fun h=>absurd h (by simp;omega)) (fun _=>?_)
    refine aF ?_;intros
    exact⟨S,aB _,by rw[hfit];simp[q1,q2],rfl⟩
   ·refine And.intro (fun _=>?_) (fun h=>absurd h (by simp;omega))
    refine aF ?_;intros
    cases q3:l[k].sealed with
    | true=>
     refine And.intro (fun _=>?_) (fun h=>by simp at h)
     refine aF ?_;intros
     exact⟨S,aB _,by rw[hfit];simp[q1,q2,q3],rfl⟩
    | false=>
     refine And.intro (fun h=>by simp at h) (fun _=>?_)
     refine aF ?_;intros
     exact⟨S,aB _,by rw[hfit];simp[q1,q2,q3],rfl⟩
  ·refine And.intro (fun h=>absurd h (by simp;omega)) (fun _=>?_)
   refine aF ?_;intros
   cases q3:l[k].sealed with
   | true=>
    refine And.intro (fun _=>?_) (fun h=>by simp at h)
    refine aF ?_;intros
    exact⟨S,aB _,by rw[hfit];simp[q1,q3],rfl⟩
   | false=>
    refine And.intro (fun h=>by simp at h) (fun _=>?_)
    refine aF ?_;intros
    exact⟨S,aB _,by rw[hfit];simp[q1,q3],rfl⟩
 ·have hk:mZ (l.take i) s=none:=by
   simp only[atM] at hp
   unfold mZ
   cases e:oD (hsOf (l.take i)) s with
   | none=>rfl
   | some k=>rw[e] at hp;cases hp
  refine aF ?_;intros
  refine aU (aT aI (by rfl) 34 (by decide) ?_)
  refine aF ?_;intros
  exact⟨S,aB _,by unfold qE;rw[hk];rfl,rfl⟩
end
section
attribute [local irreducible] T TL
set_option maxRecDepth 10000
set_option maxHeartbeats 4000000
theorem KL_h {l:List ClassI} {n:pY} {i:Nat}:KL l n i n.gh=some (.row 0 4 0 [[CS l,.map n.ga,.map n.gc,.map n.gv]]):=aA _ _ _
theorem KL_a {l:List ClassI} {n:pY} (k:n.Ok) {i:Nat}:KL l n i n.ga=some (.map true (atM (hsOf (l.take i)))):=by
 unfold KL;rw[aC (Ne.symm k.ah),aC (Ne.symm k.av),aC (Ne.symm k.ac),aA]
theorem may_spec (l:List ClassI) (n:pY) (k:n.Ok) (i:Nat) (hi:i≤l.length) (c:ClassI):Fn PP 159 [.ptr n.gh 0 0 0 4,CV c] (KL l n i) fun o S'=>o=.ret (.bool (mayB (l.take i) c))∧S'=KL l n i:=by
 refine aJ aI Tryz.func159 rfl (by rfl) (by rfl) ?_
 have kh:=KL_h (l:=l) (n:=n) (i:=i)
 have ka:=KL_a (l:=l) k (i:=i)
 refine aF ?_;intros
 refine aG fun b1 h1=>?_
 refine aF ?_;intros
 refine aG fun b2 h2=>?_
 refine aF ?_;intros
 have hs:=fun s=>mayS_spec l n k i hi c b1 b2 _ (aE (aA _ _ _) h2) (aA _ _ _) (aE (aE kh h1) h2) (aE (aE ka h1) h2) s
 refine fA (St:=Unit) (st:=fun _=>aK (aK (KL l n i) b1 _) b2 _) (s:=()) (mQ c.supers 189 [] _ (fun s=>!qE (l.take i) c.lib s) (fun s _ _=>?_)) fun _=>?_
 ·refine fO (hs s) ?_
  rintro o S' ⟨rfl,rfl⟩
  exact⟨(),rfl,rfl⟩
 ·refine aF ?_;intros
  refine⟨_,(aR h2).trans (aR h1),?_,rfl⟩
  unfold mayB
  have:(c.supers.any fun s=>!qE (l.take i) c.lib s)=!(c.supers.all (qE (l.take i) c.lib)):=by
   rw[← List.not_all_eq_any_not]
  rw[this,Bool.not_not]
theorem cplEq_spec (c:ClassI) (x:List ByteArray):FnP PP 163 [CV c,LS x] (.bool (decide (c.cpl=x))):=by
 refine aJ aI Tryz.func163 rfl (by rfl) (by rfl) ?_
 refine aF ?_;intros
 refine aG fun b1 h1=>?_
 refine aF ?_;intros
 exact⟨E,aM _,rfl,rfl⟩
theorem zip_eq {α:Type} [DecidableEq α]:∀ a b:List α,(decide (a.length=b.length) && (a.zip b).all fun x=>decide (x.1=x.2))=decide (a=b)
 | [],[]=>rfl
 | [],_::_=>by simp
 | _::_,[]=>by simp
 | x::a,y::b=>by
  have:=zip_eq a b
  by_cases h:x=y
  ·subst h
   simp only[List.length_cons,Nat.add_right_cancel_iff,List.zip_cons_cons,List.all_cons,decide_true,Bool.true_and,List.cons.injEq,true_and]
   exact this
  ·simp[h]
theorem zip_eqf {α β:Type} [DecidableEq β] (f:α→β):∀ (a:List α) (b:List β),(decide (a.length=b.length) && (a.zip b).all fun x=>decide (f x.1=x.2))=decide (a.map f=b)
 | [],[]=>rfl
 | [],_::_=>by simp
 | _::_,[]=>by simp
 | x::a,y::b=>by
  have:=zip_eqf f a b
  by_cases h:f x=y
  ·subst h
   simp only[List.length_cons,Nat.add_right_cancel_iff,List.zip_cons_cons,List.all_cons,decide_true,Bool.true_and,List.map_cons,List.cons.injEq,true_and]
   exact this
  ·simp[h]
instance (l m:List ClassI):cH 157 [CS l,CS m,.fn (.func 158) [] []] (.bool (decide (l=m))):=⟨by
 have:=equalFuncC l m 158 (fun a b=>decide (a=b)) sameC_spec
 rw[zip_eq] at this;exact this⟩
instance (l:List ClassI) (m:List (List ByteArray)):cH 162 [CS l,uN m,.fn (.func 163) [] []] (.bool (decide (l.map (·.cpl)=m))):=⟨by
 have:=equalFuncP l m 163 (fun c x=>decide (c.cpl=x)) cplEq_spec
 rw[zip_eqf] at this;exact this⟩
theorem nA {l:List ClassI} {b:ByteArray} {k:Nat} (h:mZ l b=some k):atM (hsOf l) (.s b)=some (.int .i64 (k:Nat)):=by
 unfold mZ at h;simp only[atM,h];rfl
theorem nC {l:List ClassI} {b:ByteArray} (h:mZ l b=none):atM (hsOf l) (.s b)=none:=by
 unfold mZ at h;simp only[atM,h];rfl
def lookO (l:List ClassI) (o:iY) (S':aD):Prop:=
 (lookB l=false∧o=.ret .nilp∧S'=E)∨(lookB l=true∧∃ n:pY,n.Ok∧o=.ret (.ptr n.gh 0 0 0 4)∧S'=bC (HK l n (Memo.nil l)) E)
theorem KL_upd {l:List ClassI} {n:pY} (k:n.Ok) {i:Nat}:aK (KL l n i) n.ga (.map true (atM (hsOf (l.take (i+1)))))=KL l n (i+1):=by
 unfold KL
 rw[cK k.ah,cK k.av,cK k.ac,aN]
theorem atM_next {l:List ClassI} {i:Nat} (h:i<l.length):fD (atM (hsOf (l.take i))) (.s l[i].name) (.int .i64 (i:Nat))=atM (hsOf (l.take (i+1))):=by
 have e:hsOf (l.take (i+1))=hsOf (l.take i)++[l[i].heir]:=by
  rw[List.take_succ_eq_append_getElem h];unfold hsOf;rw[List.map_append];rfl
 have e2:(hsOf (l.take i)).length=i:=by simp[hsOf];omega
 have:=atM_add (hsOf (l.take i)) l[i].heir
 rw[e,← this,e2];rfl
theorem KL_step {l:List ClassI} {n:pY} (k:n.Ok) {i:Nat} (h:i<l.length) {g6:Nat} {x:AO} (h6:KL l n i g6=none) :
  bV (aK (aK (KL l n i) g6 x) n.ga (.map true (fD (atM (hsOf (l.take i))) (.s l[i].name) (.int .i64 (i:Nat))))) (KL l n (i+1)):=by
 rw[atM_next h,← KL_upd k]
 intro g y hy
 by_cases e:g=n.ga
 ·subst e;rw[aA] at hy ⊢;exact hy
 ·rw[aC e] at hy ⊢
  exact aR h6 g y hy
theorem look_spec (l:List ClassI):Fn PP 128 [CS l] E (lookO l):=by
  refine aJ aI Tryz.func128 rfl (by rfl) (by rfl) ?_
  have fin:∀ S:aD,lookB l=false→∃ S',bV S S'∧lookO l (.ret .nilp) S':=fun S h=>⟨E,aM _,.inl ⟨h,rfl,rfl⟩⟩
  refine aF ?_;intros
  refine And.intro (fun h1=>?_) (fun h1=>?_)
  rotate_left
  · have h1:120<l.length:=by simp at h1;omega
    refine aF ?_;intros
    exact fin _ (by unfold lookB;simp only[Bool.and_eq_false_iff,decide_eq_false_iff_not];omega)
  have h1:l.length≤120:=by simp at h1;omega
  refine aF ?_;intros
  refine And.intro (fun h2=>?_) (fun h2=>?_)
  rotate_left
  · have h2:l.length<11:=by simp[baseL] at h2;omega
    refine aF ?_;intros
    exact fin _ (by unfold lookB;simp only[Bool.and_eq_false_iff,decide_eq_false_iff_not];omega)
  have h2:11≤l.length:=by simp[baseL] at h2;omega
  refine aF ?_;intros
  refine kE (h:=11) rfl h2 ?_
  refine aF ?_;intros
  refine And.intro (fun h3=>?_) (fun h3=>?_)
  · have h3:¬ l.take 11=baseL:=by simpa using h3
    refine aF ?_;intros
    exact fin _ (by unfold lookB;simp only[Bool.and_eq_false_iff,decide_eq_false_iff_not];exact .inl (.inl (.inr h3)))
  have h3:l.take 11=baseL:=by simpa using h3
  refine aF ?_;intros
  refine aG fun ga hga=>?_
  refine aF ?_;intros
  refine aG fun gc hgc=>?_
  refine aF ?_;intros
  refine aG fun gv hgv=>?_
  refine aF ?_;intros
  refine aG fun gh hgh=>?_
  have nac:gc≠ga:=aL (aA _ _ _) hgc
  have nav:gv≠ga:=aL (aE (aA _ _ _) hgc) hgv
  have ncv:gv≠gc:=aL (aA _ _ _) hgv
  have nah:gh≠ga:=aL (aE (aE (aA _ _ _) hgc) hgv) hgh
  have nch:gh≠gc:=aL (aE (aA _ _ _) hgv) hgh
  have nvh:gh≠gv:=aL (aA _ _ _) hgh
  obtain⟨n,rfl,rfl,rfl,rfl⟩:∃ n:pY,n.gh=gh∧n.ga=ga∧n.gc=gc∧n.gv=gv:=⟨⟨gh,ga,gc,gv⟩,rfl,rfl,rfl,rfl⟩
  have k:n.Ok:=⟨nac,nav,nah,ncv,nch,nvh⟩
  refine aF ?_;intros
  refine aU (aY (α:=Nat) (inv:=fun i=>i≤l.length∧okFrom 0 [] l=okFrom i (l.take i) (l.drop i)) (tm:=fun i=>gF 113 [(0,CS l),(3,CS baseL),(4,.ptr n.gh 0 0 0 4),(38,CS l),(39,.int .i64 l.length),(40,.int .i64 i)]) (st:=KL l n) (μ:=fun i=>l.length - i) 0 ⟨by omega,rfl⟩ ?_ ?_ ?_)
  · repeat' (first | exact trivial | exact rfl | refine And.intro ?_ ?_)
    simp
  · have:KL l n 0=aK (aK (aK (aK E n.ga (.map true fun _=>none)) n.gc (.map true fun _=>none)) n.gv (.map true fun _=>none)) n.gh (.row 0 4 0 [[CS l,.map n.ga,.map n.gc,.map n.gv]]):=by
      unfold KL;rw[atM_nil];rfl
    rw[this];exact aB _
  rintro i ⟨hi,hok⟩
  have kh:=KL_h (l:=l) (n:=n) (i:=i)
  have ka:=KL_a (l:=l) k (i:=i)
  refine aF ?_;intros
  refine fC (fun hc=>?_) (fun hc=>?_)
  · have hil:i<l.length:=by omega
    rw[List.drop_eq_getElem_cons hil,okFrom] at hok
    refine aF ?_;intros
    refine aG fun g6 h6=>?_
    have kh6:=fun x=>aE (y:=x) kh h6
    have ka6:=fun x=>aE (y:=x) ka h6
    have kh6':=kh6 (.row 0 (aH GT 42).size 0 [eC l[i]])
    have ka6':=ka6 (.row 0 (aH GT 42).size 0 [eC l[i]])
    refine aF ?_;intros
    have hrej:fM (l.take i) i l[i]=false→lookB l=false:=fun h=>by
      rw[h,Bool.false_and] at hok
      unfold lookB;rw[hok];simp
    refine aU (aT aI (by rfl) 12 (by decide) ?_)
    refine aF ?_;intros
    cases hat:mZ (l.take i) l[i].name with
    | some q=>
      apply Exists.intro;apply And.intro
      · conv=>whnf
        refine And.intro rfl (fV ka6' (nA hat) ?_)
        conv=>whnf
      refine aF ?_;intros
      exact fin _ (hrej (by unfold fM lI;rw[hat];simp))
    | none=>
      apply Exists.intro;apply And.intro
      · conv=>whnf
        refine And.intro rfl (jN ka6' (nC hat) ?_)
        conv=>whnf
      have hnc:lI (l.take i) l[i].name=false:=by unfold lI;rw[hat];rfl
      refine aF ?_;intros
      refine And.intro (fun q1=>?_) (fun q1=>?_)
      rotate_left
      · have q1:l[i].name=⟨#[]⟩:=of_decide_eq_true q1
        refine aF ?_;intros
        exact fin _ (hrej (by unfold fM;rw[q1];simp))
      have q1:¬ l[i].name=⟨#[]⟩:=of_decide_eq_false q1
      refine aF ?_;intros
      conv=>whnf
      refine aF ?_;intros
      refine fC (fun q2=>?_) (fun q2=>?_)
      · refine aF ?_;intros
        exact fin _ (hrej (by
           unfold fM;have:¬ l[i].name.size≤100:=by omega
           simp[this]))
      have q2:l[i].name.size≤100:=by omega
      refine aF ?_;intros
      by_cases q3:11≤i
      · refine And.intro (fun _=>?_) (fun h=>absurd h (by simp[baseL];omega))
        refine aF ?_;intros
        refine And.intro (fun q4=>?_) (fun q4=>?_)
        rotate_left
        · have q4:l[i].supers.length=0:=by have:=of_decide_eq_true q4;simp at this;simp[this]
          refine aF ?_;intros
          exact fin _ (hrej (by
             unfold fM;have:¬ i<11:=by omega
             simp only[q4,this];simp))
        have q4:l[i].supers.length≠0:=by have:=of_decide_eq_false q4;simp at this;intro h;exact this (List.length_eq_zero_iff.1 h)
        refine aF ?_;intros
        refine And.intro (fun q5=>?_) (fun q5=>?_)
        rotate_left
        · have q5:¬ l[i].supers.length≤8:=by have:=of_decide_eq_true q5;simp at this;omega
          refine aF ?_;intros
          exact fin _ (hrej (by
             unfold fM;have:¬ i<11:=by omega
             simp only[q5,this];simp))
        have q5:l[i].supers.length≤8:=by have:=of_decide_eq_false q5;simp at this;omega
        refine aF ?_;intros
        refine bN (may_spec l n k i hi l[i]) (aR h6) ?_
        refine aF ?_;intros
        refine And.intro (fun q6=>?_) (fun q6=>?_)
        · have q6:mayB (l.take i) l[i]=false:=by simpa using q6
          refine aF ?_;intros
          exact fin _ (hrej (by
             unfold fM;have:¬ i<11:=by omega
             simp only[q6,this];simp))
        have q6:mayB (l.take i) l[i]=true:=by simpa using q6
        have hacc:fM (l.take i) i l[i]=true:=by
          unfold fM;simp[hnc,q1,q2,q4,q5,q6]
        refine aF ?_;intros
        refine aU (aT aI (by rfl) 7 (by decide) ?_)
        refine aF ?_;intros
        refine dL ka6' ?_
        refine aF ?_;intros
        refine⟨i+1,⟨by omega,?_⟩,by omega,?_,KL_step k hil h6⟩
        · rw[hok,hacc,Bool.true_and,List.take_succ_eq_append_getElem hil]
        · repeat' (first | exact trivial | exact rfl | refine And.intro ?_ ?_)
      · refine And.intro (fun h=>absurd h (by simp[baseL];omega)) (fun _=>?_)
        have hacc:fM (l.take i) i l[i]=true:=by
          unfold fM;have:i<11:=by omega
          simp[hnc,q1,q2,this]
        refine aF ?_;intros
        refine aU (aT aI (by rfl) 7 (by decide) ?_)
        refine aF ?_;intros
        refine dL ka6' ?_
        refine aF ?_;intros
        refine⟨i+1,⟨by omega,?_⟩,by omega,?_,KL_step k hil h6⟩
        · rw[hok,hacc,Bool.true_and,List.take_succ_eq_append_getElem hil]
        · repeat' (first | exact trivial | exact rfl | refine And.intro ?_ ?_)
  · have e:i=l.length:=by omega
    subst e
    rw[List.drop_length,okFrom] at hok
    have hl1:l.length≤1000:=by omega
    haveI:cH 161 [CS l] (HS (hsOf l)):=⟨heirs_spec l hl1⟩
    have hKH:KL l n l.length=bC (HK l n (Memo.nil l)) E:=by
      rw[nH];unfold KL HK Memo.nil;rw[List.take_length]
    have hlk:lookB l=cplsOk l:=by
      unfold lookB;rw[hok];simp[h1,h2,h3]
    refine aF ?_;intros
    refine ifNF (fun q1=>?_) (fun q1=>?_)
    · refine aF ?_;intros
      refine ifN (fun q2=>?_) (fun q2=>?_)
      · refine aF ?_;intros
        exact fin _ (by rw[hlk];unfold cplsOk;simp[q2])
      · refine aF ?_;intros
        exact⟨_,aB _,.inr ⟨by rw[hlk];unfold cplsOk;simp[q1,q2],n,k,rfl,hKH⟩⟩
    · refine aF ?_;intros
      exact fin _ (by rw[hlk];unfold cplsOk;simp[q1])
end
end Go.Proofs.YtbojdflgjpjbiaaGreat.L
