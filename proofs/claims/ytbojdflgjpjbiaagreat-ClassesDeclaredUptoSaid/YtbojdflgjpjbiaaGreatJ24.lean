/- A logic over the machine, and what the functions of the seat come to: part 24. No claim stands here; the theorems are used by the row. -/
import Derived.Test.YtbojdflgjpjbiaaGreatJ7
import Derived.Test.YtbojdflgjpjbiaaGreatJ21
import Derived.Test.YtbojdflgjpjbiaaGreatJ22
set_option linter.unusedSimpArgs false
set_option linter.unnecessarySimpa false
set_option linter.unusedVariables false
namespace Go.Proofs.YtbojdflgjpjbiaaGreat.L
open Go
theorem oV {α β:Type} (f:α→Option β) (d:β):∀ L:List α,(∀ x∈L,(f x).isSome=true)→L.filterMap f=L.map fun x=>(f x).getD d
 | [],_=>rfl
 | x::L,h=>by
  obtain⟨y,hy⟩:=Option.isSome_iff_exists.1 (h x (by simp))
  rw[List.filterMap_cons,hy]
  simp[hy,oV f d L fun z hz=>h z (by simp[hz])]
theorem cpl_lin {l:List ClassI} (h:Hier l) {i:Nat} (hi:i<l.length):iN (hsOf l) i=some l[i].cpl:=by
 have hc:=h.cpl
 unfold cplsOk aAa at hc
 by_cases e:cX (hsOf l)=0
 ·rw[if_neg (by simp[e])] at hc
  cases hf:(List.range (hsOf l).length).find? (fun i=>(iN (hsOf l) i).isNone) with
  | some j=>rw[hf] at hc;simp at hc
  | none=>
   rw[hf] at hc
   simp only[Bool.and_eq_true,decide_eq_true_eq] at hc
   have hall:∀ x∈List.range (hsOf l).length,(iN (hsOf l) x).isSome=true:=fun x hx=>by
    have:=List.find?_eq_none.1 hf x hx
    cases e2:iN (hsOf l) x with
    | none=>rw[e2] at this;simp at this
    | some y=>rfl
   have h2:=hc.2
   rw[oV _ [] _ hall] at h2
   have h3:=congrArg (·[i]?) h2
   simp only[List.getElem?_map,List.getElem?_eq_getElem hi,dP,List.getElem?_range hi,Option.map_some,Option.some.injEq] at h3
   have h4:=hall i (by rw[dP];exact List.mem_range.2 hi)
   obtain⟨y,hy⟩:=Option.isSome_iff_exists.1 h4
   rw[hy] at h3 ⊢
   rw[h3];rfl
 ·rw[if_pos e] at hc;simp[e] at hc
theorem cplsOk_of {l:List ClassI} (hc:cX (hsOf l)=0) (h:∀ i (hi:i<l.length),iN (hsOf l) i=some l[i].cpl):cplsOk l=true:=by
 unfold cplsOk aAa
 rw[if_neg (by simp[hc])]
 have hall:∀ x∈List.range (hsOf l).length,(iN (hsOf l) x).isSome=true:=fun x hx=>by
  have hx:=List.mem_range.1 hx
  rw[dP] at hx
  rw[h x hx];rfl
 have hf:(List.range (hsOf l).length).find? (fun i=>(iN (hsOf l) i).isNone)=none:=by
  rw[List.find?_eq_none]
  intro x hx
  have:=hall x hx
  cases e2:iN (hsOf l) x with
  | none=>rw[e2] at this;cases this
  | some y=>simp
 rw[hf]
 dsimp only
 rw[oV _ [] _ hall]
 simp only[decide_true,Bool.true_and,decide_eq_true_eq]
 apply List.ext_getElem (by simp[dP])
 intro i h1 h2
 have hi:i<l.length:=by simpa using h1
 simp only[List.getElem_map,List.getElem_range,h i hi,Option.getD_some]
theorem checkV_of {g:List bA} (h:Heirs g):cX g=0:=by
 unfold cX
 rw[if_neg (by have:=h.len;omega),if_pos]
 rw[wJ]
 intro i hi
 simp only[List.nil_append]
 unfold iA
 simp only[Bool.and_eq_true,Bool.not_eq_true',decide_eq_false_iff_not,decide_eq_true_eq,yK]
 refine⟨⟨⟨h.name i hi,?_⟩,h.few i hi⟩,fun s hs=>?_,h.dist i hi,by simp⟩
 ·rw[Bool.eq_false_iff,Ne,jE]
  intro hm
  obtain⟨x,hx,e⟩:=List.mem_map.1 hm
  rw[List.mem_take_iff_getElem] at hx
  obtain⟨k,hk,rfl⟩:=hx
  have:=h.uniq k i (by omega) hi e
  omega
 ·obtain⟨k,hk,rfl⟩:=h.sup i hi s hs
  exact List.mem_map.2 ⟨g[k],by rw[List.mem_take_iff_getElem];exact⟨k,by omega,rfl⟩,rfl⟩
def NmU (l:List ClassI):Prop:=∀ i j (hi:i<l.length) (hj:j<l.length),l[i].name=l[j].name→i=j
theorem NmU.take {l:List ClassI} (h:NmU l) (n:Nat):NmU (l.take n):=fun i j hi hj e=>by
 rw[List.length_take] at hi hj
 rw[List.getElem_take,List.getElem_take] at e
 exact h i j (by omega) (by omega) e
theorem Hier.nmU {l:List ClassI} (h:Hier l):NmU l:=fun i j hi hj e=>by
 have:=h.g.uniq i j (by rw[dP];exact hi) (by rw[dP];exact hj)
 rw[eJ hi,eJ hj] at this
 exact this e
theorem atC_neg {l:List ClassI} {s:ByteArray}:mZ l s=none↔∀ j (h:j<l.length),l[j].name≠s:=by
 unfold mZ
 rw[nZ]
 constructor
 ·intro h j hj e
  exact h (List.mem_map.2 ⟨(hsOf l)[j]'(by rw[dP];exact hj),List.getElem_mem _,by rw[eJ hj];exact e⟩)
 ·intro h hm
  obtain⟨x,hx,e⟩:=List.mem_map.1 hm
  obtain⟨j,hj,rfl⟩:=List.getElem_of_mem hx
  have hj':j<l.length:=by rwa [dP] at hj
  rw[eJ hj'] at e
  exact h j hj' e
theorem idxC_at {l:List ClassI} (hu:NmU l) (s:ByteArray):cQ (vZ s) l=match mZ l s with | some k=>(k:Int) | none=>-1:=by
 cases e:mZ l s with
 | none=>
  have h:=atC_neg.1 e
  dsimp only
  exact eN fun j hj=>by unfold vZ;exact decide_eq_false (h j hj)
 | some k=>
  obtain⟨hk,hn⟩:=mF e
  dsimp only
  refine iM hk (by unfold vZ;exact decide_eq_true hn) fun j hj hj'=>?_
  unfold vZ
  exact decide_eq_false fun e2=>by have:=hu j k hj' hk (e2.trans hn.symm);omega
theorem supR_fit {l:List ClassI} (hu:NmU l) (lib s:ByteArray):sF l lib s=qE l lib s:=by
 unfold sF qE
 rw[idxC_at hu]
 cases e:mZ l s with
 | none=>
  dsimp only
  cases l[(-1:Int).toNat]? <;> simp
 | some k=>
  dsimp only
  rw[Int.toNat_natCast]
  cases l[k]? with
  | none=>rfl
  | some d=>
   dsimp only
   rw[decide_eq_true (show (0:Int)≤k by omega)]
   have e1:decide ((1:Int)≤k)=decide (1≤k):=by rw[decide_eq_decide];omega
   have e2:decide ((k:Int)≤4)=decide (k≤4):=by rw[decide_eq_decide];omega
   rw[e1,e2];rfl
theorem wL:∀ {l pre:List ClassI} {n:Nat},okFrom n pre l=true↔∀ i (hi:i<l.length),fM (pre++l.take i) (n+i) l[i]=true
 | [],pre,n=>by simp[okFrom]
 | c::l,pre,n=>by
  simp only[okFrom,Bool.and_eq_true]
  rw[wL (l:=l)]
  constructor
  ·rintro⟨h1,h2⟩ i hi
   cases i with
   | zero=>simpa using h1
   | succ i=>
    have:=h2 i (by simpa using hi)
    rw[List.append_assoc] at this
    simpa[Nat.add_assoc,Nat.add_comm 1 i] using this
  ·intro h
   have h0:fM (pre++(c::l).take 0) (n+0) c=true:=h 0 (by simp)
   rw[List.take_zero,List.append_nil] at h0
   refine⟨h0,fun i hi=>?_⟩
   have:=h (i+1) (by simpa using hi)
   rw[List.append_assoc]
   simpa[Nat.add_assoc,Nat.add_comm 1 i] using this
def qV (l:List ClassI):Prop:=∀ i (hi:i<l.length),11≤i→dU (l.take i) l[i]=true
theorem right_of {l:List ClassI} (h:Hier l):qV l:=fun i hi h11=>by
 have hok:=wL.1 h.ok i hi
 rw[List.nil_append,Nat.zero_add] at hok
 have hu:=h.nmU.take i
 have hd:=h.g.dist i (by rw[dP];exact hi)
 rw[eJ hi] at hd
 dsimp only at hd
 unfold fM at hok
 rw[decide_eq_false (show ¬ i<11 by omega),Bool.false_or] at hok
 simp only[Bool.and_eq_true,decide_eq_true_eq] at hok
 obtain⟨⟨⟨h1,h2⟩,h3⟩,⟨h4,h5⟩,h6⟩:=hok
 unfold dU
 have e1:cQ (vZ l[i].name) (l.take i)<0:=by
  rw[idxC_at hu]
  unfold lI at h1
  cases e:mZ (l.take i) l[i].name with
  | none=>simp
  | some k=>rw[e] at h1;cases h1
 have e2:l[i].supers.all (sF (l.take i) l[i].lib)=true:=by
  rw[List.all_eq_true]
  intro s hs
  rw[supR_fit hu]
  exact List.all_eq_true.1 h6 s hs
 rw[h2,decide_eq_true h3,decide_eq_true e1,decide_eq_true (show 1≤l[i].supers.length by omega),decide_eq_true h5,decide_eq_true hd,e2]
 rfl
theorem base_ok:((List.range 11).all fun i=>match baseL[i]? with | some c=>fM (baseL.take i) i c && decide c.supers.Nodup && decide (c.supers.length≤8) && c.supers.all (fun s=>(baseL.take i).any (vZ s)) | none=>false)=true:=by decide +kernel
theorem base_at {i:Nat} (h:i<11) (hb:i<baseL.length):fM (baseL.take i) i baseL[i]=true∧baseL[i].supers.Nodup∧baseL[i].supers.length≤8∧∀ s∈baseL[i].supers,∃ k,∃ hk:k<i,baseL[k].name=s:=by
 have:=List.all_eq_true.1 base_ok i (List.mem_range.2 h)
 rw[List.getElem?_eq_getElem hb] at this
 simp only[Bool.and_eq_true,decide_eq_true_eq] at this
 obtain⟨⟨⟨h1,h2⟩,h3⟩,h4⟩:=this
 refine⟨h1,h2,h3,fun s hs=>?_⟩
 obtain⟨c,hc,he⟩:=List.any_eq_true.1 (List.all_eq_true.1 h4 s hs)
 rw[List.mem_take_iff_getElem] at hc
 obtain⟨k,hk,rfl⟩:=hc
 exact⟨k,by omega,by unfold vZ at he;exact of_decide_eq_true he⟩
theorem tH {l:List ClassI} (h11:11≤l.length) (hb:l.take 11=baseL) (hr:qV l) (i:Nat) (hi:i<l.length) :
  l[i].name≠⟨#[]⟩∧l[i].name.size≤100∧(∀ j (hj:j<i),l[j].name≠l[i].name)∧l[i].supers.Nodup∧l[i].supers.length≤8∧∀ s∈l[i].supers,∃ k,∃ hk:k<i,l[k].name=s:=by
 have hbl:∀ j (h:j<11),∃ hb':j<baseL.length,l[j]'(by omega)=baseL[j]:=fun j hj=>by
  have hb':j<baseL.length:=by have:baseL.length=11:=rfl;omega
  refine⟨hb',?_⟩
  have:(l.take 11)[j]'(by rw[List.length_take];omega)=baseL[j]:=by simp only[hb]
  rw[List.getElem_take] at this
  exact this
 by_cases h:i<11
 ·obtain⟨hb',e⟩:=hbl i h
  obtain⟨h1,h2,h3,h4⟩:=base_at h hb'
  unfold fM at h1
  simp only[Bool.and_eq_true,Bool.not_eq_true',decide_eq_true_eq,decide_eq_false_iff_not] at h1
  rw[e]
  refine⟨h1.1.1.2,h1.1.2,fun j hj e2=>?_,h2,h3,fun s hs=>?_⟩
  ·obtain⟨hb2,e3⟩:=hbl j (by omega)
   have h5:=h1.1.1.1
   unfold lI at h5
   cases e4:mZ (baseL.take i) baseL[i].name with
   | some k=>rw[e4] at h5;cases h5
   | none=>
    have:=atC_neg.1 e4 j (by rw[List.length_take];omega)
    rw[List.getElem_take] at this
    rw[e3] at e2
    exact this e2
  ·obtain⟨k,hk,e3⟩:=h4 s hs
   obtain⟨_,e4⟩:=hbl k (by omega)
   exact⟨k,hk,by rw[e4];exact e3⟩
 ·have h1:=hr i hi (by omega)
  unfold dU at h1
  simp only[Bool.and_eq_true,Bool.not_eq_true',decide_eq_true_eq,decide_eq_false_iff_not] at h1
  obtain⟨⟨⟨⟨⟨⟨h1,h2⟩,h3⟩,h4⟩,h5⟩,h6⟩,h7⟩:=h1
  refine⟨h1,h2,fun j hj e=>?_,h6,h5,fun s hs=>?_⟩
  ·rcases fJ (vZ l[i].name) (l.take i) with ⟨_,h8⟩ | ⟨k,hk,h8,_,_⟩
   ·have:=h8 j (by rw[List.length_take];omega)
    rw[List.getElem_take] at this
    unfold vZ at this
    exact of_decide_eq_false this e
   ·rw[h8] at h3;omega
  ·have h8:=List.all_eq_true.1 h7 s hs
   unfold sF at h8
   rcases fJ (vZ s) (l.take i) with ⟨h9,_⟩ | ⟨k,hk,_,h9,_⟩
   ·rw[h9] at h8
    cases e:(l.take i)[(-1:Int).toNat]? with
    | none=>rw[e] at h8;cases h8
    | some c=>rw[e] at h8;simp at h8
   ·rw[List.length_take] at hk
    rw[List.getElem_take] at h9
    exact⟨k,by omega,by unfold vZ at h9;exact of_decide_eq_true h9⟩
theorem right_nmU {l:List ClassI} (h11:11≤l.length) (hb:l.take 11=baseL) (hr:qV l):NmU l:=fun i j hi hj e=>by
 rcases Nat.lt_trichotomy i j with h | h | h
 ·exact absurd e ((tH h11 hb hr j hj).2.2.1 i h)
 ·exact h
 ·exact absurd e.symm ((tH h11 hb hr i hi).2.2.1 j h)
theorem zN {l:List ClassI} (hl:l.length≤120) (h11:11≤l.length) (hb:l.take 11=baseL) (hr:qV l):Heirs (hsOf l):=by
 have hu:=right_nmU h11 hb hr
 refine⟨by rw[dP];exact hl,fun i j hi hj e=>?_,fun i hi=>?_,fun i hi=>?_,fun i hi=>?_,fun i hi s hs=>?_⟩
 all_goals rw[dP] at hi
 ·rw[dP] at hj
  rw[eJ hi,eJ hj] at e
  exact hu i j hi hj e
 all_goals have hf:=tH h11 hb hr i hi
 ·rw[eJ hi];exact hf.1
 ·rw[eJ hi];exact hf.2.2.2.2.1
 ·rw[eJ hi];exact hf.2.2.2.1
 ·rw[eJ hi] at hs
  obtain⟨k,hk,e⟩:=hf.2.2.2.2.2 s hs
  exact⟨k,hk,by rw[eJ (by omega)];exact e⟩
theorem look_of {l:List ClassI} (hl:l.length≤120) (h11:11≤l.length) (hb:l.take 11=baseL) (hr:qV l) (hlin:∀ i (hi:i<l.length),iN (hsOf l) i=some l[i].cpl):lookB l=true:=by
 have hu:=right_nmU h11 hb hr
 unfold lookB
 rw[decide_eq_true hl,decide_eq_true h11,decide_eq_true hb,cplsOk_of (checkV_of (zN hl h11 hb hr)) hlin]
 simp only[Bool.true_and,Bool.and_true]
 rw[wL]
 intro i hi
 rw[List.nil_append,Nat.zero_add]
 by_cases h:i<11
 ·have hb':i<baseL.length:=by have:baseL.length=11:=rfl;omega
  have e:l[i]=baseL[i]:=by
   have:(l.take 11)[i]'(by rw[List.length_take];omega)=baseL[i]:=by simp only[hb]
   rw[List.getElem_take] at this
   exact this
  have e2:l.take i=baseL.take i:=by rw[← hb,List.take_take,Nat.min_eq_left (by omega)]
  rw[e,e2]
  exact (base_at h hb').1
 ·have h1:=hr i hi (by omega)
  have hu':=hu.take i
  unfold dU at h1
  simp only[Bool.and_eq_true,decide_eq_true_eq] at h1
  obtain⟨⟨⟨⟨⟨⟨h1,h2⟩,h3⟩,h4⟩,h5⟩,h6⟩,h7⟩:=h1
  unfold fM
  have e1:lI (l.take i) l[i].name=false:=by
   unfold lI
   rw[idxC_at hu'] at h3
   cases e:mZ (l.take i) l[i].name with
   | none=>rfl
   | some k=>
    rw[e] at h3
    have h3:(k:Int)<0:=h3
    omega
  have e2:mayB (l.take i) l[i]=true:=by
   unfold mayB
   rw[List.all_eq_true]
   intro s hs
   rw[← supR_fit hu']
   exact List.all_eq_true.1 h7 s hs
  rw[e1,h1,decide_eq_true h2,decide_eq_true (show l[i].supers.length≠0 by omega),decide_eq_true h5,e2]
  simp
section
attribute [local irreducible] T TL
set_option maxRecDepth 10000
set_option maxHeartbeats 4000000
theorem tail91b (l:List ClassI) (hl:l.length≤120) (h11:11≤l.length) (hb:l.take 11=baseL) (hr:qV l) (t:List PV) :
  T PP none (rst Tryz.f91 9) (endX GT Tryz.f91.results.toList fun o S'=>o=.ret (.bool (lookB l))∧S'=E) (gF 70 [(0,CS l)]) E []:=by
 have ml:(l.map eC).length=l.length:=List.length_map _
 have hg:=zN hl h11 hb hr
 have hgl:=dP l
 haveI:cH 136 [CS l] (HS (hsOf l)):=⟨heirsR_spec l (by omega)⟩
 have hlen:=oN (hsOf l) l.length
 refine aF ?_;intros
 refine bE (zK (hsOf l) hg l.length (by omega) _ (by simp)) ?_
 refine aF ?_;intros
 refine aU (aY (α:=Nat) (inv:=fun i=>i≤l.length∧∀ j (h:j<l.length),j<i→iN (hsOf l) j=some l[j].cpl) (tm:=fun i=>gF 70 [(0,CS l),(5,uN (dZ (hsOf l) l.length)),(6,.int .i64 i)]) (st:=fun _=>E) (μ:=fun i=>l.length - i) 0 ⟨by omega,fun j _ h=>by omega⟩ ?_ (aB _) ?_)
 ·repeat' (first | exact trivial | exact rfl | refine And.intro ?_ ?_)
 rintro i ⟨hi,hpre⟩
 refine aF ?_;intros
 refine fC (fun hc=>?_) (fun hc=>?_)
 ·have hil:i<l.length:=by omega
  have hi2:i<(dZ (hsOf l) l.length).length:=by omega
  have hli:=yM (g:=hsOf l) hil hi2
  refine aF ?_;intros
  have bad:¬ iN (hsOf l) i=some l[i].cpl→∃ S',bV E S'∧(iY.ret (.bool false)=.ret (.bool (lookB l))∧S'=E):=fun h=>by
   have:lookB l=false:=by
    cases e:lookB l with
    | false=>rfl
    | true=>exact absurd (cpl_lin (pR e) hil) h
   exact⟨E,aM _,by rw[this],rfl⟩
  have mlen:((dZ (hsOf l) l.length)[i].map eS).length=(dZ (hsOf l) l.length)[i].length:=List.length_map _
  refine aU (aT aI (by rfl) 19 (by kernel_rfl) ?_)
  refine aF ?_;intros
  refine And.intro (fun h1=>?_) (fun h1=>?_)
  ·have h1:=of_decide_eq_false h1
   refine aF ?_;intros
   refine And.intro (fun h2=>?_) (fun h2=>?_)
   ·have h2:¬ (dZ (hsOf l) l.length)[i]=l[i].cpl:=by simpa using h2
    refine aF ?_;intros
    exact bad fun h=>h2 (by rw[hli,h];rfl)
   ·have h2:(dZ (hsOf l) l.length)[i]=l[i].cpl:=by simpa using h2
    refine aF ?_;intros
    refine⟨i+1,⟨by omega,fun j h hj=>?_⟩,by omega,by repeat' (first | exact trivial | exact rfl | refine And.intro ?_ ?_),aB _⟩
    by_cases e:j=i
    ·subst e
     rw[hli] at h2
     cases e2:iN (hsOf l) j with
     | none=>
      have:=oU.2 e2
      rw[hli] at mlen h1
      omega
     | some x=>rw[e2] at h2;rw[← h2];rfl
    ·exact hpre j h (by omega)
  ·have h1:((((dZ (hsOf l) l.length)[i].map eS).length:Nat):Int)=0:=by simpa using h1
   refine aF ?_;intros
   refine bad fun h=>?_
   rw[hli,h] at mlen h1
   have:=lin_ne h
   have h3:l[i].cpl.length≠0:=fun e=>this (List.length_eq_zero_iff.1 e)
   simp only[Option.getD_some] at mlen h1
   omega
 ·refine aF ?_;intros
  refine⟨E,aM _,?_,rfl⟩
  rw[look_of hl h11 hb hr fun j hj=>hpre j hj (by omega)]
end
section
attribute [local irreducible] T TL
set_option maxRecDepth 10000
set_option maxHeartbeats 4000000
theorem tail91a (l:List ClassI) (hl:l.length≤120) (h11:11≤l.length) (hb:l.take 11=baseL) :
  T PP none (rst Tryz.f91 4) (endX GT Tryz.f91.results.toList fun o S'=>o=.ret (.bool (lookB l))∧S'=E) (gF 70 [(0,CS l),(3,CS baseL)]) E []:=by
 have ml:(l.map eC).length=l.length:=List.length_map _
 have mb:(baseL.map eC).length=11:=rfl
 refine aF ?_;intros
 refine aU (aY (α:=Nat) (inv:=fun i=>11≤i∧i≤l.length∧∀ j (h:j<l.length),11≤j→j<i→dU (l.take j) l[j]=true) (tm:=fun i=>gF 70 [(0,CS l),(4,.int .i64 i)]) (st:=fun _=>E) (μ:=fun i=>l.length - i) 11 ⟨by omega,by omega,fun j _ h h'=>by omega⟩ ?_ (aB _) ?_)
 ·repeat' (first | exact trivial | exact rfl | refine And.intro ?_ ?_)
 rintro i ⟨hi0,hi,hpre⟩
 refine aF ?_;intros
 refine fC (fun hc=>?_) (fun hc=>?_)
 ·have hil:i<l.length:=by omega
  haveI:cH 134 [CS l,.int .i64 i] (.bool (dU (l.take i) l[i])):=⟨zW l (by omega) i hil⟩
  refine aF ?_;intros
  refine And.intro (fun h1=>?_) (fun h1=>?_)
  ·refine aF ?_;intros
   refine⟨E,aM _,?_,rfl⟩
   have:lookB l=false:=by
    cases e:lookB l with
    | false=>rfl
    | true=>rw[right_of (pR e) i hil hi0] at h1;cases h1
   rw[this]
  ·refine aF ?_;intros
   refine⟨i+1,⟨by omega,by omega,fun j h h' hj=>?_⟩,by omega,by repeat' (first | exact trivial | exact rfl | refine And.intro ?_ ?_),aB _⟩
   by_cases e:j=i
   ·subst e;simpa using h1
   ·exact hpre j h h' (by omega)
 ·refine nO ?_;intros
  refine T_exit ?_
  refine nO ?_;intros
  refine T.weak (tail91b l hl h11 hb (fun j hj h'=>hpre j hj h' (by omega)) []) ?_ (aB _)
  repeat' (first | exact trivial | exact rfl | refine And.intro ?_ ?_)
theorem right_spec (l:List ClassI):FnP PP 91 [CS l] (.bool (lookB l)):=by
 refine aJ aI Tryz.func91 rfl (by rfl) (by rfl) ?_
 refine cJ (bW (d:=0) rfl) fun hlen=>?_
 rw[List.length_map] at hlen
 have ml:(l.map eC).length=l.length:=List.length_map _
 have fin:∀ S:aD,lookB l=false→∃ S',bV S S'∧(iY.ret (.bool false)=.ret (.bool (lookB l))∧S'=E):=fun S h=>⟨E,aM _,by rw[h],rfl⟩
 have mb:(baseL.map eC).length=11:=rfl
 refine aF ?_;intros
 refine And.intro (fun h1=>?_) (fun h1=>?_)
 ·have g1:=of_decide_eq_false h1
  refine aF ?_;intros
  refine And.intro (fun h2=>?_) (fun h2=>?_)
  ·have g2:=of_decide_eq_false h2
   have g3:11≤l.length:=by omega
   refine aF ?_;intros
   refine And.intro (fun h3=>?_) (fun h3=>?_)
   ·refine aF ?_;intros
    refine fin _ ?_
    unfold lookB
    have:decide (l.take baseL.length=baseL)=false:=by simpa using h3
    rw[show baseL.length=11 from rfl] at this
    rw[this];simp
   ·have h3:l.take baseL.length=baseL:=by simpa using h3
    rw[show baseL.length=11 from rfl] at h3
    refine nO ?_;intros
    refine T_skip ?_
    refine T.weak (tail91a l (by omega) g3 h3) ?_ (aB _)
    repeat' (first | exact trivial | exact rfl | refine And.intro ?_ ?_)
  ·have g2:=of_decide_eq_true h2
   refine aF ?_;intros
   refine fin _ ?_
   unfold lookB
   have:decide (11≤l.length)=false:=decide_eq_false (by omega)
   rw[this];simp
 ·have g1:=of_decide_eq_true h1
  refine aF ?_;intros
  refine fin _ ?_
  unfold lookB
  have:decide (l.length≤120)=false:=decide_eq_false (by omega)
  rw[this];simp
instance (l:List ClassI):cH 91 [CS l] (.bool (lookB l)):=⟨right_spec l⟩
end
end Go.Proofs.YtbojdflgjpjbiaaGreat.L
