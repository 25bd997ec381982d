/- A logic over the machine, and what the functions of the seat come to: part 15. No claim stands here; the theorems are used by the row. -/
import Derived.Test.YtbojdflgjpjbiaaGreatJ4
import Derived.Test.YtbojdflgjpjbiaaGreatJ5
import Derived.Test.YtbojdflgjpjbiaaGreatJ6
import Derived.Test.YtbojdflgjpjbiaaGreatJ8
import Derived.Test.YtbojdflgjpjbiaaGreatJ10
set_option linter.unusedSimpArgs false
set_option linter.unnecessarySimpa false
set_option linter.unusedVariables false
namespace Go.Proofs.YtbojdflgjpjbiaaGreat.L
open Go
abbrev qZ:ByteArray:=⟨#[]⟩
def qH (s:ByteArray):Bool:=decide (1≤s.size) && decide (s.size≤100) && s.data.toList.all fun b=>decide (33≤b.toNat) && decide (b.toNat≤126)
def gW (l:List ClassI) (s:SlotT):Bool:=
 qH s.name && decide (1≤s.alloc) && decide (s.alloc≤3) && decide (s.init.length≤1) && (decide (s.key=qZ) || (qH s.key && decide (s.alloc=1))) && decide (iO l s.ty=0)
def gQ (l:List ClassI):List SlotT→List SlotT→Bool
 | _,[]=>true
 | pre,s::r=>gW l s && !(pre.any fun t=>decide (t.name=s.name)) && gQ l (pre++[s]) r
def defOkB (l:List ClassI) (c:ClassI) (d:DefT):Bool:=
 decide (d.name=c.name) && decide (d.supers=c.supers) && decide (d.abs=c.abs) && decide (d.sealed=c.sealed) && decide (d.slots.length≤16) && gQ l [] d.slots
def jB (l:List ClassI):List ClassI→List DefT→List Int→Bool
 | c::cs,d::ds,v::vs=>decide (0≤v) && defOkB l c d && jB l cs ds vs
 | _,_,_=>true
def lU (w:aW):Bool:=decide (w.defs.length=w.classes.length) && decide (w.versions.length=w.classes.length) && lookB w.classes && jB w.classes w.classes w.defs w.versions
def dD (out:List OwnT) (n:ByteArray):Option Nat:=out.findIdx? fun o=>decide (o.slot.name=n)
def nS (l:List ClassI) (out:List OwnT) (owner:ByteArray) (s:SlotT):Option (List OwnT):=match dD out s.name with
 | none=>some (out++[⟨s,owner⟩])
 | some k=>match out[k]? with
  | some o=>if o.slot.alloc=s.alloc∧subV l s.ty o.slot.ty=true then some (out.set k ⟨s,owner⟩) else none
  | none=>none
def pB (l:List ClassI) (owner:ByteArray):List OwnT→List SlotT→Option (List OwnT)
 | out,[]=>some out
 | out,s::r=>match nS l out owner s with
  | some out'=>pB l owner out' r
  | none=>none
def gN (w:aW) (n:ByteArray):DefT:=w.defs.getD ((mZ w.classes n).getD 0) ⟨qZ,[],[],false,false⟩
def pI (w:aW):List OwnT→List ByteArray→Option (List OwnT)
 | out,[]=>some out
 | out,n::r=>match pB w.classes (gN w n).name out (gN w n).slots with
  | some out'=>pI w out' r
  | none=>none
def dJ:List ByteArray→List OwnT→Bool
 | _,[]=>true
 | pre,o::r=>(decide (o.slot.key=qZ) || !(pre.any fun k=>decide (k=o.slot.key))) && dJ (pre++[o.slot.key]) r
def dI (w:aW) (c:ClassI):List OwnT × Bool:=match pI w [] c.cpl.reverse with
 | none=>([],false)
 | some out=>if dJ [] out then (out,decide (out.length≤64)) else ([],false)
def bK (w:aW):Int:=if lU w=false then 90 else if w.classes.all fun c=>(dI w c).2 then 0 else 91
def cP (w:aW) (n:ByteArray):Int:=if bK w≠0 then 90 else match mZ w.classes n with
 | some _=>0
 | none=>3
def zH (d:DefT):Bool:=!d.abs && !(([aP,cS,dX,iK,kS]:List ByteArray).any fun n=>decide (n=d.name))
section
attribute [local irreducible] T TL
set_option maxRecDepth 10000
set_option maxHeartbeats 4000000
theorem clone_147 (l:List Ty):Fn PP 147 [TS l] E fun o S'=>∃ g ver,o=.ret (.row g ver 0 l.length 5)∧S'=aK E g (.row ver 5 64 (l.map eT)):=by
 refine cL (aJ aI Tryz.func147 rfl (by rfl) (by rfl) ?_)
 refine cJ (bW (d:=0) rfl) fun hlen=>?_
 rw[List.length_map] at hlen
 refine aX ?_
 intro b hb
 refine aX ?_;intros
 refine And.intro (fun hc=>?_) (fun hc=>?_)
 ·have hz:l=[]:=by simpa using hb hc
  subst hz
  refine aX ?_;intros
  refine Exists.intro _ (And.intro (aB _) ?_)
  exact aO.nilrow 5 64 fun g hg=>⟨g,0,rfl,rfl⟩
 ·conv=>whnf
  refine aX ?_;intros
  refine .inr (aG fun g hg=>?_)
  refine aX ?_;intros
  refine eV ?_
  refine And.intro (fG fun x=>⟨rfl,trivial,trivial,trivial,trivial,trivial,trivial⟩) ?_
  refine aX ?_;intros
  refine bX (aA _ _ _) ?_
  conv=>whnf
  refine And.intro rfl (And.intro rfl (And.intro (show (0+(l.map eT).length)*64≤140737488355328 by simpa using hlen) ?_))
  refine aX ?_;intros
  refine Exists.intro _ (And.intro (aB _) ?_)
  refine aO.same ⟨g,1,?_,?_⟩
  ·show iY.ret (.row g 1 0 (0+(l.map eT).length) 5)=_
   rw[List.length_map,Nat.zero_add]
  ·rw[aN,List.nil_append];rfl
theorem clone_106 (l:List Ex):Fn PP 106 [XS l] E fun o S'=>∃ g ver,o=.ret (.row g ver 0 l.length 11)∧S'=aK E g (.row ver 11 168 (l.map eX)):=by
 refine cL (aJ aI Tryz.func106 rfl (by rfl) (by rfl) ?_)
 refine cJ (bW (d:=0) rfl) fun hlen=>?_
 rw[List.length_map] at hlen
 refine aX ?_
 intro b hb
 refine aX ?_;intros
 refine And.intro (fun hc=>?_) (fun hc=>?_)
 ·have hz:l=[]:=by simpa using hb hc
  subst hz
  refine aX ?_;intros
  refine Exists.intro _ (And.intro (aB _) ?_)
  exact aO.nilrow 11 168 fun g hg=>⟨g,0,rfl,rfl⟩
 ·conv=>whnf
  refine aX ?_;intros
  refine .inr (aG fun g hg=>?_)
  refine aX ?_;intros
  refine eV ?_
  refine And.intro (fG fun x=>⟨rfl,trivial,trivial,trivial,trivial,trivial,trivial,trivial,trivial,trivial,trivial,trivial,trivial⟩) ?_
  refine aX ?_;intros
  refine bX (aA _ _ _) ?_
  conv=>whnf
  refine And.intro rfl (And.intro rfl (And.intro (show (0+(l.map eX).length)*168≤140737488355328 by simpa using hlen) ?_))
  refine aX ?_;intros
  refine Exists.intro _ (And.intro (aB _) ?_)
  refine aO.same ⟨g,1,?_,?_⟩
  ·show iY.ret (.row g 1 0 (0+(l.map eX).length) 11)=_
   rw[List.length_map,Nat.zero_add]
  ·rw[aN,List.nil_append];rfl
theorem clone_148 (l:List (ByteArray × Ty)):Fn PP 148 [PS l] E fun o S'=>∃ g ver,o=.ret (.row g ver 0 l.length 6)∧S'=aK E g (.row ver 6 80 (l.map eP)):=by
 refine cL (aJ aI Tryz.func148 rfl (by rfl) (by rfl) ?_)
 refine cJ (bW (d:=0) rfl) fun hlen=>?_
 rw[List.length_map] at hlen
 refine aX ?_
 intro b hb
 refine aX ?_;intros
 refine And.intro (fun hc=>?_) (fun hc=>?_)
 ·have hz:l=[]:=by simpa using hb hc
  subst hz
  refine aX ?_;intros
  refine Exists.intro _ (And.intro (aB _) ?_)
  exact aO.nilrow 6 80 fun g hg=>⟨g,0,rfl,rfl⟩
 ·conv=>whnf
  refine aX ?_;intros
  refine .inr (aG fun g hg=>?_)
  refine aX ?_;intros
  refine eV ?_
  refine And.intro (fG fun x=>⟨rfl,trivial,trivial,trivial,trivial,trivial,trivial,trivial⟩) ?_
  refine aX ?_;intros
  refine bX (aA _ _ _) ?_
  conv=>whnf
  refine And.intro rfl (And.intro rfl (And.intro (show (0+(l.map eP).length)*80≤140737488355328 by simpa using hlen) ?_))
  refine aX ?_;intros
  refine Exists.intro _ (And.intro (aB _) ?_)
  refine aO.same ⟨g,1,?_,?_⟩
  ·show iY.ret (.row g 1 0 (0+(l.map eP).length) 6)=_
   rw[List.length_map,Nat.zero_add]
  ·rw[aN,List.nil_append];rfl
end
section
attribute [local irreducible] T TL
set_option maxRecDepth 10000
set_option maxHeartbeats 4000000
theorem callW_Sl {St:Type} {st:St→aD} {f:Nat} {args:List PV} {v:PV} {s:St} {S:aD} {kr kp:PV→aD→Prop} (h:FnS st f args v) (hs:bV S (st s)) (hk:∀ s' S',bV S' (st s')→kr v S'):kJ PP f args S kr kp:=by
 refine aV (h s) hs ?_
 rintro o S' ⟨s',rfl,rfl⟩ -
 unfold dR
 exact hk s' _ fun g x hx=>dN hx
theorem indexS {St:Type} {st:St→aD} (l:List SlotT) (k:Nat) (a c:List PV) (p:SlotT→Bool) (hp:∀ x∈l,FnS st k (a++[.agg (wN x)]++c) (.bool (p x))):FnS st 184 [SLS l,.fn (.func k) a c] (.int .i64 (cQ p l)):=by
 intro s0
 refine aJ aI Tryz.func184 rfl (by rfl) (by rfl) ?_
 refine aX ?_;intros
 refine aU (aY (α:=St × Nat) (inv:=fun x=>x.2≤l.length∧∀ j (_:j<x.2) (h':j<l.length),p l[j]=false) (tm:=fun x=>gF 19 [(1,.fn (.func k) a c),(7,SLS l),(8,.int .i64 l.length),(9,.int .i64 x.2)]) (st:=fun x=>st x.1) (μ:=fun x=>l.length - x.2) (s0,0) ⟨by simp,by simp⟩ ?_ (aB _) ?_)
 ·repeat' (first | exact trivial | exact rfl | refine And.intro ?_ ?_)
  simp
 rintro⟨s,i⟩ ⟨hi,hpre⟩
 dsimp only at hi hpre ⊢
 refine aF ?_;intros
 refine fC (fun hc=>?_) (fun hc=>?_)
 ·have hlt:i<l.length:=by omega
  refine aF ?_;intros
  refine aG fun g1 h1=>?_
  refine aF ?_;intros
  simp only[iS]
  refine callW_Sl (hp _ (List.getElem_mem hlt)) (aR h1) fun s' S' hs'=>?_
  refine aF ?_;intros
  refine And.intro (fun hq=>?_) (fun hq=>?_)
  ·refine aF ?_;intros
   exact⟨_,hs',s',by rw[iM hlt hq hpre],rfl⟩
  ·refine aF ?_;intros
   refine⟨(s',i+1),⟨by dsimp only;omega,fun j hj h'=>?_⟩,by dsimp only;omega,?_,hs'⟩
   ·dsimp only at hj
    by_cases e:j=i
    ·subst e;exact hq
    ·exact hpre j (by omega) h'
   ·repeat' (first | exact trivial | exact rfl | refine And.intro ?_ ?_)
 ·refine aF ?_;intros
  exact⟨_,aB _,s,by rw[eN fun j h'=>hpre j (by omega) h'],rfl⟩
theorem indexO {St:Type} {st:St→aD} (l:List OwnT) (k:Nat) (a c:List PV) (p:OwnT→Bool) (hp:∀ x∈l,FnS st k (a++[.agg (eO x)]++c) (.bool (p x))):FnS st 56 [OS l,.fn (.func k) a c] (.int .i64 (cQ p l)):=by
 intro s0
 refine aJ aI Tryz.func56 rfl (by rfl) (by rfl) ?_
 refine aX ?_;intros
 refine aU (aY (α:=St × Nat) (inv:=fun x=>x.2≤l.length∧∀ j (_:j<x.2) (h':j<l.length),p l[j]=false) (tm:=fun x=>gF 19 [(1,.fn (.func k) a c),(7,OS l),(8,.int .i64 l.length),(9,.int .i64 x.2)]) (st:=fun x=>st x.1) (μ:=fun x=>l.length - x.2) (s0,0) ⟨by simp,by simp⟩ ?_ (aB _) ?_)
 ·repeat' (first | exact trivial | exact rfl | refine And.intro ?_ ?_)
  simp
 rintro⟨s,i⟩ ⟨hi,hpre⟩
 dsimp only at hi hpre ⊢
 refine aF ?_;intros
 refine fC (fun hc=>?_) (fun hc=>?_)
 ·have hlt:i<l.length:=by omega
  refine aF ?_;intros
  refine aG fun g1 h1=>?_
  refine aF ?_;intros
  simp only[iS]
  refine callW_Sl (hp _ (List.getElem_mem hlt)) (aR h1) fun s' S' hs'=>?_
  refine aF ?_;intros
  refine And.intro (fun hq=>?_) (fun hq=>?_)
  ·refine aF ?_;intros
   exact⟨_,hs',s',by rw[iM hlt hq hpre],rfl⟩
  ·refine aF ?_;intros
   refine⟨(s',i+1),⟨by dsimp only;omega,fun j hj h'=>?_⟩,by dsimp only;omega,?_,hs'⟩
   ·dsimp only at hj
    by_cases e:j=i
    ·subst e;exact hq
    ·exact hpre j (by omega) h'
   ·repeat' (first | exact trivial | exact rfl | refine And.intro ?_ ?_)
 ·refine aF ?_;intros
  exact⟨_,aB _,s,by rw[eN fun j h'=>hpre j (by omega) h'],rfl⟩
end
section
attribute [local irreducible] T TL
set_option maxRecDepth 10000
set_option maxHeartbeats 4000000
theorem callW_row {f:Nat} {args:List PV} {k sz e:Nat} {xs:List (List PV)} {S:aD} {kr kp:PV→aD→Prop} (h:Fn PP f args E fun o S'=>∃ g ver,o=.ret (.row g ver 0 k sz)∧S'=aK E g (.row ver sz e xs))
  (hk:∀ g ver,S g=none→kr (.row g ver 0 k sz) (aK S g (.row ver sz e xs))):kJ PP f args S kr kp:=by
 refine aV h (aM _) ?_
 rintro o S' ⟨g,ver,rfl,rfl⟩ hd
 unfold dR
 rw[xM,yL]
 refine hk g ver ?_
 rcases hd g (by rw[aA];rfl) with h | h
 ·cases h
 ·exact h
theorem setsK_self:∀ (cs pre dF:List PV) (k:List PV→Prop),lE (pre++cs++dF) pre.length cs k=k (pre++cs++dF)
 | [],pre,dF,k=>by simp[lE]
 | c::cs,pre,dF,k=>by
  simp only[lE,lG]
  have e:(pre++c::cs++dF).set pre.length c=pre++[c]++cs++dF:=by rw[List.append_assoc,List.set_append];simp
  rw[e]
  have:=setsK_self cs (pre++[c]) dF k
  rw[List.length_append] at this
  simpa using this
theorem tG {S:aD} {g ver e sz:Nat} {xs:List (List PV)} {i:Nat} (pre c dF:List PV) {k:aD→Prop} (h:S g=some (.row ver sz e xs)) (hi:xs[i]?=some (pre++c++dF)) (hk:k S):stW S g ver i pre.length sz c k:=by
 obtain⟨hil,hic⟩:=List.getElem?_eq_some_iff.1 hi
 refine eR (old:=pre++c++dF) h hi (by simp only[List.length_append];omega) fun new hn=>?_
 rw[setsK_self c pre dF] at hn
 subst hn
 have e2:xs.set i (pre++c++dF)=xs:=by rw[← hic];exact List.set_getElem_self hil
 rw[e2,show aK S g (.row ver sz e xs)=S from ?_]
 ·exact hk
 ·funext x
  by_cases e3:x=g
  ·subst e3;rw[aA,h]
  ·rw[aC e3]
theorem stW_same {S:aD} {g ver e sz:Nat} {xs:List (List PV)} {i:Nat} {c:List PV} {k:aD→Prop} (h:S g=some (.row ver sz e xs)) (hi:xs[i]?=some c) (hk:k S):stW S g ver i 0 sz c k:=
 tG [] c [] h (by simpa using hi) hk
theorem qP {t:List PV} {S:aD} {D:List DA} {d i e:Nat} {cs:List PV} {xs:List (List PV)} (hd:getT t d=.agg cs) (hi:cs[i]?=some (.list e xs)):∀ a w fr m,kZ a w fr m t S D→xs.length*e≤140737488355328:=
 fun a w fr m hs=>by
  have:=hs.tmp d
  rw[hd] at this
  revert this;generalize a.tmps.getD d undef=v
  intro h
  cases h with
  | agg vs _ hl h=>
   obtain⟨h2,h3⟩:=List.getElem?_eq_some_iff.1 hi
   have h4:=h i (by omega) h2
   rw[h3] at h4
   exact qO h4
theorem copied_spec:∀ t:Ty,FnP PP 105 [TV t] (TV t):=by
 refine Ty.ind fun t ih=>?_
 have et:tA t.args=t.args.map eT:=nX _
 unfold TV eT
 rw[et]
 refine cL (aJ aI Tryz.func105 rfl (by rfl) (by rfl) ?_)
 refine cJ (qP (d:=0) (i:=4) rfl rfl) fun hlen=>?_
 rw[List.length_map] at hlen
 refine aF ?_;intros
 refine aG fun g1 h1=>?_
 refine aF ?_;intros
 refine aG fun g2 h2=>?_
 have n12:g2≠g1:=aL (aA _ _ _) h2
 generalize hS:aK (aK E g1 _) g2 _=S2
 have k1:S2 g1=some (.row 0 5 0 [[.int .i64 t.kind,.str t.name,.int .i64 t.lo,.int .i64 t.hi,TS t.args]]):=by rw[← hS];exact aE (aA _ _ _) h2
 have k2:S2 g2=some (.row 0 5 0 [(aH GT 46).zero]):=by rw[← hS];exact aA _ _ _
 refine aF ?_;intros
 refine callW_row (clone_147 t.args) fun g ver hg=>?_
 have n1:g≠g1:=aL k1 hg
 have n2:g≠g2:=aL k2 hg
 have kg:∀ y,aK (aK S2 g (.row ver 5 64 (t.args.map eT))) g1 y g=some (.row ver 5 64 (t.args.map eT)):=fun y=>by rw[aC n1];exact aA _ _ _
 refine aF ?_;intros
 generalize hS0:aK (aK S2 g (.row ver 5 64 (t.args.map eT))) g1 _=S0
 have kg:S0 g=some (.row ver 5 64 (t.args.map eT)):=by rw[← hS0];exact kg _
 have k2:S0 g2=some (.row 0 5 0 [(aH GT 46).zero]):=by rw[← hS0,aC n12];exact aE k2 hg
 have k1:S0 g1=some (.row 0 5 0 [[.int .i64 t.kind,.str t.name,.int .i64 t.lo,.int .i64 t.hi,.row g ver 0 t.args.length 5]]):=by rw[← hS0];exact aA _ _ _
 refine aF ?_;intros
 refine aU (aY (α:=Nat) (inv:=fun i=>i≤t.args.length) (tm:=fun i=>gF 26 [(1,.ptr g1 0 0 0 5),(2,.ptr g2 0 0 0 5),(10,.int .i64 t.args.length),(11,.int .i64 i)]) (st:=fun _=>S0) (μ:=fun i=>t.args.length - i) 0 (by omega) ?_ (aB _) ?_)
 ·repeat' (first | exact trivial | exact rfl | refine And.intro ?_ ?_)
 intro i hi
 have hb:=hi
 refine aF ?_;intros
 refine fC (fun hc=>?_) (fun hc=>?_)
 ·have hlt:i<t.args.length:=by omega
  have hc:=ih _ (List.getElem_mem hlt)
  refine aF ?_;intros
  refine aU (aT aI (by rfl) 10 (by decide) ?_)
  refine aF ?_;intros
  apply Exists.intro;apply And.intro
  ·conv=>whnf
   exact⟨E,aM _,hc⟩
  refine aF ?_;intros
  refine stW_same (i:=0+i) kg (by rw[Nat.zero_add,List.getElem?_map,List.getElem?_eq_getElem hlt];rfl) ?_
  refine aF ?_;intros
  refine⟨i+1,by omega,by omega,?_,aB _⟩
  repeat' (first | exact trivial | exact rfl | refine And.intro ?_ ?_)
 ·have e:i=t.args.length:=by omega
  refine aF ?_;intros
  have kz:∀ y,aK S0 g2 y g=some (.row ver 5 64 (t.args.map eT)):=fun y=>by rw[aC n2];exact kg
  refine⟨_,aB _,aO.freeze (kz _) (fzA (ps:=[.int .i64 t.kind,.str t.name,.int .i64 t.lo,.int .i64 t.hi,.row g ver 0 t.args.length 5]) (qs:=[.int .i64 t.kind,.str t.name,.int .i64 t.lo,.int .i64 t.hi,TS t.args]) ⟨.same _,.same _,.same _,.same _,eQ (List.length_map _).symm,trivial⟩) (aO.weak (aM _) (aO.same ⟨rfl,rfl⟩))⟩
instance (t:Ty):cH 105 [TV t] (TV t):=⟨copied_spec t⟩
end
section
attribute [local irreducible] T TL
set_option maxRecDepth 10000
set_option maxHeartbeats 4000000
instance (l:List ByteArray):cH 124 [LS l] (LS l):=⟨pZ l⟩
theorem copiedX_spec:∀ t:Ex,FnP PP 107 [XV t] (XV t):=by
 refine Ex.ind fun t ih=>?_
 have et:xA t.args=t.args.map eX:=xA_eq _
 unfold XV eX
 rw[et]
 refine cL (aJ aI Tryz.func107 rfl (by rfl) (by rfl) ?_)
 refine cJ (qP (d:=0) (i:=10) rfl rfl) fun hlen=>?_
 refine cJ (qP (d:=0) (i:=8) rfl rfl) fun hlp=>?_
 rw[List.length_map] at hlen hlp
 refine aF ?_;intros
 refine aG fun g1 h1=>?_
 refine aF ?_;intros
 refine aG fun g2 h2=>?_
 have n12:g2≠g1:=aL (aA _ _ _) h2
 generalize hS:aK (aK E g1 _) g2 _=S2
 have k1:S2 g1=some (.row 0 11 0 [[.int .i64 t.kind,.str t.name,.int .i64 t.num,.int .i64 t.ty.kind,.str t.ty.name,.int .i64 t.ty.lo,.int .i64 t.ty.hi,.list 64 (tA t.ty.args),PS t.params,LS t.keys,XS t.args]]):=by rw[← hS];exact aE (aA _ _ _) h2
 have k2:S2 g2=some (.row 0 11 0 [(aH GT 163).zero]):=by rw[← hS];exact aA _ _ _
 refine aF ?_;intros
 refine aU (T_drawR aI (by rfl) 13 [5,11] (by kernel_rfl) (by kernel_rfl) ?_)
 refine aF ?_;intros
 refine⟨yT t.params.length 6 80 (t.params.map eP),?_,fun _ _ _ h hs=>h.sle hs,?_⟩
 ·conv=>whnf
  exact RowFn.of (clone_148 t.params)
 refine aF ?_;intros
 refine⟨yT t.args.length 11 168 (t.args.map eX),?_,fun _ _ _ h hs=>h.sle hs,?_⟩
 ·conv=>whnf
  exact RowFn.of (clone_106 t.args)
 refine aF ?_
 rintro p S3 ⟨gp,vp,hgp,rfl,rfl⟩
 refine aF ?_
 rintro p S3 ⟨g,ver,hg,rfl,rfl⟩
 have n1:g≠g1:=aL (aE k1 hgp) hg
 have n2:g≠g2:=aL (aE k2 hgp) hg
 have np:g≠gp:=aL (aA _ _ _) hg
 have p1:gp≠g1:=aL k1 hgp
 have p2:gp≠g2:=aL k2 hgp
 generalize hS3:aK (aK S2 gp (.row vp 6 80 (t.params.map eP))) g (.row ver 11 168 (t.args.map eX))=S3
 have kg:S3 g=some (.row ver 11 168 (t.args.map eX)):=by rw[← hS3];exact aA _ _ _
 have kp:S3 gp=some (.row vp 6 80 (t.params.map eP)):=by rw[← hS3];exact aE (aA _ _ _) hg
 have k2:S3 g2=some (.row 0 11 0 [(aH GT 163).zero]):=by rw[← hS3];exact aE (aE k2 hgp) hg
 have k1:S3 g1=some (.row 0 11 0 [[.int .i64 t.kind,.str t.name,.int .i64 t.num,.int .i64 t.ty.kind,.str t.ty.name,.int .i64 t.ty.lo,.int .i64 t.ty.hi,.list 64 (tA t.ty.args),PS t.params,LS t.keys,XS t.args]]):=by rw[← hS3];exact aE (aE k1 hgp) hg
 clear hS3 hS
 refine aX ?_;intros
 refine And.intro ⟨trivial,trivial,trivial,trivial,trivial,trivial⟩ (tG [.int .i64 t.kind,.str t.name,.int .i64 t.num] (eT t.ty) [PS t.params,LS t.keys,XS t.args] k1 rfl ?_)
 refine aF ?_;intros
 generalize hS4:aK S3 g1 _=S4
 have q1:S4 g1=some (.row 0 11 0 [[.int .i64 t.kind,.str t.name,.int .i64 t.num,.int .i64 t.ty.kind,.str t.ty.name,.int .i64 t.ty.lo,.int .i64 t.ty.hi,.list 64 (tA t.ty.args),.row gp vp 0 t.params.length 6,LS t.keys,XS t.args]]):=by rw[← hS4];exact aA _ _ _
 have q2:S4 g2=some (.row 0 11 0 [(aH GT 163).zero]):=by rw[← hS4,aC n12];exact k2
 have qg:S4 g=some (.row ver 11 168 (t.args.map eX)):=by rw[← hS4,aC n1];exact kg
 have qp:S4 gp=some (.row vp 6 80 (t.params.map eP)):=by rw[← hS4,aC p1];exact kp
 clear hS4 k1 k2 kg kp
 refine aF ?_;intros
 generalize hS0:aK S4 g1 _=S0
 have k1:S0 g1=some (.row 0 11 0 [[.int .i64 t.kind,.str t.name,.int .i64 t.num,.int .i64 t.ty.kind,.str t.ty.name,.int .i64 t.ty.lo,.int .i64 t.ty.hi,.list 64 (tA t.ty.args),.row gp vp 0 t.params.length 6,LS t.keys,.row g ver 0 t.args.length 11]]):=by rw[← hS0];exact aA _ _ _
 have k2:S0 g2=some (.row 0 11 0 [(aH GT 163).zero]):=by rw[← hS0,aC n12];exact q2
 have kg:S0 g=some (.row ver 11 168 (t.args.map eX)):=by rw[← hS0,aC n1];exact qg
 have kp:S0 gp=some (.row vp 6 80 (t.params.map eP)):=by rw[← hS0,aC p1];exact qp
 clear hS0 q1 q2 qg qp
 refine aF ?_;intros
 refine aU (aY (α:=Nat) (inv:=fun i=>i≤t.params.length) (tm:=fun i=>gF 58 [(1,.ptr g1 0 0 0 11),(2,.ptr g2 0 0 0 11),(23,.int .i64 t.params.length),(24,.int .i64 i)]) (st:=fun _=>S0) (μ:=fun i=>t.params.length - i) 0 (by omega) ?_ (aB _) ?_)
 ·repeat' (first | exact trivial | exact rfl | refine And.intro ?_ ?_)
 intro i hi
 refine aF ?_;intros
 refine fC (fun hc=>?_) (fun hc=>?_)
 ·have hlt:i<t.params.length:=by omega
  refine aF ?_;intros
  refine aU (aT aI (by rfl) 12 (by decide) ?_)
  refine aF ?_;intros
  refine tG (i:=0+i) [.str t.params[i].1] (eT t.params[i].2) [] kp (by rw[Nat.zero_add,List.getElem?_map,List.getElem?_eq_getElem hlt];rfl) ?_
  refine aF ?_;intros
  refine⟨i+1,by omega,by omega,?_,aB _⟩
  repeat' (first | exact trivial | exact rfl | refine And.intro ?_ ?_)
 ·have e:i=t.params.length:=by omega
  clear e hc hi
  refine aF ?_;intros
  refine aU (aY (α:=Nat) (inv:=fun i=>i≤t.args.length) (tm:=fun i=>gF 58 [(1,.ptr g1 0 0 0 11),(2,.ptr g2 0 0 0 11),(42,.int .i64 t.args.length),(43,.int .i64 i)]) (st:=fun _=>S0) (μ:=fun i=>t.args.length - i) 0 (by omega) ?_ (aB _) ?_)
  ·repeat' (first | exact trivial | exact rfl | refine And.intro ?_ ?_)
  intro i hi
  refine aF ?_;intros
  refine fC (fun hc=>?_) (fun hc=>?_)
  ·have hlt:i<t.args.length:=by omega
   have hc:=ih _ (List.getElem_mem hlt)
   refine aF ?_;intros
   refine aU (aT aI (by rfl) 10 (by decide) ?_)
   refine aF ?_;intros
   apply Exists.intro;apply And.intro
   ·conv=>whnf
    exact⟨E,aM _,hc⟩
   refine aF ?_;intros
   refine stW_same (i:=0+i) kg (by rw[Nat.zero_add,List.getElem?_map,List.getElem?_eq_getElem hlt];rfl) ?_
   refine aF ?_;intros
   refine⟨i+1,by omega,by omega,?_,aB _⟩
   repeat' (first | exact trivial | exact rfl | refine And.intro ?_ ?_)
  ·have e:i=t.args.length:=by omega
   refine aF ?_;intros
   have kzp:∀ y,aK S0 g2 y gp=some (.row vp 6 80 (t.params.map eP)):=fun y=>by rw[aC p2];exact kp
   have kzg:∀ y,iZ (aK S0 g2 y) gp g=some (.row ver 11 168 (t.args.map eX)):=fun y=>by unfold iZ;rw[if_neg np,aC n2];exact kg
   refine⟨_,aB _,aO.freeze (kzp _) (fzA (qs:=[.int .i64 t.kind,.str t.name,.int .i64 t.num,.int .i64 t.ty.kind,.str t.ty.name,.int .i64 t.ty.lo,.int .i64 t.ty.hi,.list 64 (tA t.ty.args),PS t.params,LS t.keys,.row g ver 0 t.args.length 11]) ⟨.same _,.same _,.same _,.same _,.same _,.same _,.same _,.same _,eQ (List.length_map _).symm,.same _,.same _,trivial⟩)
    (aO.freeze (kzg _) (fzA (qs:=[.int .i64 t.kind,.str t.name,.int .i64 t.num,.int .i64 t.ty.kind,.str t.ty.name,.int .i64 t.ty.lo,.int .i64 t.ty.hi,.list 64 (tA t.ty.args),PS t.params,LS t.keys,XS t.args]) ⟨.same _,.same _,.same _,.same _,.same _,.same _,.same _,.same _,.same _,.same _,eQ (List.length_map _).symm,trivial⟩) (aO.weak (aM _) (aO.same ⟨rfl,rfl⟩)))⟩
instance (t:Ex):cH 107 [XV t] (XV t):=⟨copiedX_spec t⟩
theorem copiedSl_spec (t:SlotT):FnP PP 58 [.agg (wN t)] (.agg (wN t)):=by
 refine cL (aJ aI Tryz.func58 rfl (by rfl) (by rfl) ?_)
 refine cJ (qP (d:=0) (i:=8) rfl rfl) fun hlen=>?_
 rw[List.length_map] at hlen
 refine aF ?_;intros
 refine aG fun g1 h1=>?_
 refine aF ?_;intros
 refine aG fun g2 h2=>?_
 have n12:g2≠g1:=aL (aA _ _ _) h2
 generalize hS:aK (aK E g1 _) g2 _=S2
 have k1:S2 g1=some (.row 0 9 0 [wN t]):=by rw[← hS];exact aE (aA _ _ _) h2
 have k2:S2 g2=some (.row 0 9 0 [(aH GT 49).zero]):=by rw[← hS];exact aA _ _ _
 clear hS
 refine aF ?_;intros
 refine aU (T_drawR aI (by rfl) 7 [5] (by kernel_rfl) (by kernel_rfl) ?_)
 refine aF ?_;intros
 refine⟨yT t.init.length 11 168 (t.init.map eX),?_,fun _ _ _ h hs=>h.sle hs,?_⟩
 ·conv=>whnf
  exact RowFn.of (clone_106 t.init)
 refine aF ?_
 rintro p S3 ⟨g,ver,hg,rfl,rfl⟩
 have n1:g≠g1:=aL k1 hg
 have n2:g≠g2:=aL k2 hg
 generalize hS3:aK S2 g (.row ver 11 168 (t.init.map eX))=S3
 have kg:S3 g=some (.row ver 11 168 (t.init.map eX)):=by rw[← hS3];exact aA _ _ _
 have k2:S3 g2=some (.row 0 9 0 [(aH GT 49).zero]):=by rw[← hS3];exact aE k2 hg
 have k1:S3 g1=some (.row 0 9 0 [wN t]):=by rw[← hS3];exact aE k1 hg
 clear hS3
 refine aX ?_;intros
 refine And.intro ⟨trivial,trivial,trivial,trivial,trivial,trivial⟩ (tG [.str t.name] (eT t.ty) [.str t.key,.int .i64 t.alloc,XS t.init] k1 rfl ?_)
 refine aF ?_;intros
 generalize hS0:aK S3 g1 _=S0
 have q1:S0 g1=some (.row 0 9 0 [[.str t.name,.int .i64 t.ty.kind,.str t.ty.name,.int .i64 t.ty.lo,.int .i64 t.ty.hi,.list 64 (tA t.ty.args),.str t.key,.int .i64 t.alloc,.row g ver 0 t.init.length 11]]):=by rw[← hS0];exact aA _ _ _
 have q2:S0 g2=some (.row 0 9 0 [(aH GT 49).zero]):=by rw[← hS0,aC n12];exact k2
 have qg:S0 g=some (.row ver 11 168 (t.init.map eX)):=by rw[← hS0,aC n1];exact kg
 clear hS0 k1 k2 kg
 refine aF ?_;intros
 refine aU (aY (α:=Nat) (inv:=fun i=>i≤t.init.length) (tm:=fun i=>gF 30 [(1,.ptr g1 0 0 0 9),(2,.ptr g2 0 0 0 9),(14,.int .i64 t.init.length),(15,.int .i64 i)]) (st:=fun _=>S0) (μ:=fun i=>t.init.length - i) 0 (by omega) ?_ (aB _) ?_)
 ·repeat' (first | exact trivial | exact rfl | refine And.intro ?_ ?_)
 intro i hi
 refine aF ?_;intros
 refine fC (fun hc=>?_) (fun hc=>?_)
 ·have hlt:i<t.init.length:=by omega
  refine aF ?_;intros
  refine aU (aT aI (by rfl) 10 (by decide) ?_)
  refine aF ?_;intros
  refine stW_same (i:=0+i) qg (by rw[Nat.zero_add,List.getElem?_map,List.getElem?_eq_getElem hlt];rfl) ?_
  refine aF ?_;intros
  refine⟨i+1,by omega,by omega,?_,aB _⟩
  repeat' (first | exact trivial | exact rfl | refine And.intro ?_ ?_)
 ·have e:i=t.init.length:=by omega
  refine aF ?_;intros
  have kz:∀ y,aK S0 g2 y g=some (.row ver 11 168 (t.init.map eX)):=fun y=>by rw[aC n2];exact qg
  refine⟨_,aB _,aO.freeze (kz _) (fzA (qs:=wN t) ⟨.same _,.same _,.same _,.same _,.same _,.same _,.same _,.same _,eQ (List.length_map _).symm,trivial⟩) (aO.weak (aM _) (aO.same ⟨rfl,rfl⟩))⟩
instance (t:SlotT):cH 58 [.agg (wN t)] (.agg (wN t)):=⟨copiedSl_spec t⟩
end
section
attribute [local irreducible] T TL
set_option maxRecDepth 10000
set_option maxHeartbeats 4000000
def sL (b:UInt8):Bool:=decide (33≤b.toNat) && decide (b.toNat≤126)
theorem full_spec (s:ByteArray):FnP PP 219 [.str s] (.bool (qH s)):=by
 refine aJ aI Tryz.func219 rfl (by rfl) (by rfl) ?_
 refine cJ (str_bound (d:=0) rfl) fun hlen=>?_
 have fin:∀ v w:Bool,v=w→∃ S',bV E S'∧(iY.ret (.bool v)=.ret (.bool w)∧S'=E):=fun v w e=>⟨E,aM _,by rw[e],rfl⟩
 refine aF ?_;intros
 refine aF ?_;intros
 have hB:∀ h:qH s=false,∃ S',bV E S'∧(iY.ret (.bool false)=.ret (.bool (qH s))∧S'=E):=fun h=>fin _ _ h.symm
 refine And.intro (fun c1=>?_) (fun c1=>?_)
 rotate_left
 ·refine aF ?_;intros
  exact hB (by unfold qH;simp at c1;simp[c1])
 have c1:¬ s.size=0:=by simpa using c1
 refine aF ?_;intros
 conv=>whnf
 refine aF ?_;intros
 refine And.intro (fun c2=>?_) (fun c2=>?_)
 ·refine aF ?_;intros
  have c2:100<s.size:=by simp at c2;omega
  exact hB (by unfold qH;simp;omega)
 have c2:s.size≤100:=by simp at c2;omega
 refine aF ?_;intros
 conv=>whnf
 refine aF ?_;intros
 have hL:s.data.toList.length=s.size:=by simp
 refine aU (aY (α:=Nat) (inv:=fun i=>i≤s.size∧(s.data.toList.take i).all sL=true) (tm:=fun i=>gF 28 [(0,.str s),(13,.int .i64 s.size),(14,.int .i64 i)]) (st:=fun _=>E) (μ:=fun i=>s.size - i) 0 ⟨by omega,rfl⟩ ?_ (aB _) ?_)
 ·repeat' (first | exact trivial | exact rfl | refine And.intro ?_ ?_)
 rintro i ⟨hi,hpre⟩
 refine aF ?_;intros
 refine fC (fun hc=>?_) (fun hc=>?_)
 ·have hlt:i<s.size:=by omega
  have hl:i<s.data.toList.length:=by omega
  have hb:s.data.toList[((i:Nat):Int).toNat]?=some s.data.toList[i]:=by simp
  have hstep:(s.data.toList.take (i+1)).all sL=sL s.data.toList[i]:=by rw[List.take_succ_eq_append_getElem hl,List.all_append,hpre];simp
  have hno:sL s.data.toList[i]=false→qH s=false:=fun h=>by
   have:s.data.toList.all (fun b=>decide (33≤b.toNat) && decide (b.toNat≤126))=false:=by
    rw[List.all_eq_false]
    exact⟨_,List.getElem_mem hl,by simpa[sL] using h⟩
   unfold qH;rw[this,Bool.and_false]
  refine aF ?_;intros
  refine And.intro (by omega) ⟨_,hb,?_⟩
  refine aF ?_;intros
  refine And.intro (fun q1=>?_) (fun q1=>?_)
  ·refine aF ?_;intros
   refine And.intro (by omega) ⟨_,hb,?_⟩
   refine aF ?_;intros
   refine And.intro (fun q2=>?_) (fun q2=>?_)
   ·refine aF ?_;intros
    exact hB (hno (by simp at q2;simp[sL];omega))
   ·refine aF ?_;intros
    refine⟨i+1,⟨by omega,by rw[hstep];simp at q1 q2;simp[sL];omega⟩,by omega,?_,aB _⟩
    repeat' (first | exact trivial | exact rfl | refine And.intro ?_ ?_)
  ·refine aF ?_;intros
   exact hB (hno (by simp at q1;simp[sL];omega))
 ·have e:i=s.size:=by omega
  subst e
  refine aF ?_;intros
  refine fin _ _ ?_
  unfold qH
  rw[← hL,List.take_length] at hpre
  have h3:s.data.toList.all (fun b=>decide (33≤b.toNat) && decide (b.toNat≤126))=true:=hpre
  rw[h3]
  simp;omega
instance (s:ByteArray):cH 219 [.str s] (.bool (qH s)):=⟨full_spec s⟩
end
section
attribute [local irreducible] T TL
set_option maxRecDepth 10000
set_option maxHeartbeats 4000000
structure uU where
 gw:Nat
 gm:Nat
 gv:Nat
structure HasV (w:aW) (q:uU) (S:aD):Prop where
 kw:S q.gw=some (.row 0 7 0 [eW w])
 km:S q.gm=some (.map true (atM (hsOf w.classes)))
 kv:S q.gv=some (.row 0 2 0 [[.ptr q.gw 0 0 0 7,.map q.gm]])
abbrev vp (q:uU):PV:=.ptr q.gv 0 0 0 2
theorem HasV.upd {w:aW} {q:uU} {S:aD} (h:HasV w q S) {g:Nat} {x:AO} (hg:S g=none):HasV w q (L.aK S g x):=⟨aE h.kw hg,aE h.km hg,aE h.kv hg⟩
variable {w:aW} {q:uU}
theorem valid_class {l:List ClassI} {t:Ty} (hc:lI l t.name=true) (hk:t.kind=1) (hlo:t.lo=0) (hhi:t.hi=0) (ha:t.args.length=0):iO l t=0:=by
 have h0:t.args=[]:=List.length_eq_zero_iff.1 ha
 have h1:yW t=0:=by
  unfold yW
  rw[deep_eq,sR,h0]
  simp[zA,nK]
 have h2:zC (lI l) t=true:=by
  rw[vS,h0,hk,hlo,hhi]
  unfold lB
  simp[hc]
 unfold iO
 rw[h1,h2];simp
theorem isValid_spec (hl:lookB w.classes=true) (t:Ty) (ct:t.cnt<4611686018427387904) (S:aD) (hS:HasV w q S):Fn PP 220 [vp q,TV t] S fun o S'=>o=.ret (.bool (decide (iO w.classes t=0)))∧S'=S:=by
 have et:tA t.args=t.args.map eT:=nX _
 have hvt:=validT_spec w.classes t ct
 rw[hl,if_pos rfl] at hvt
 unfold TV eT at hvt ⊢
 rw[et] at hvt ⊢
 haveI:cH 87 [CS w.classes,.agg [.int .i64 t.kind,.str t.name,.int .i64 t.lo,.int .i64 t.hi,.list 64 (t.args.map eT)]] (.int .i64 (iO w.classes t)):=⟨hvt⟩
 refine aJ aI Tryz.func220 rfl (by rfl) (by rfl) ?_
 refine cJ (qP (d:=1) (i:=4) rfl rfl) fun hlen=>?_
 rw[List.length_map] at hlen
 obtain⟨kw,km,kv⟩:=hS
 refine aF ?_;intros
 refine aG fun b hb=>?_
 have kw:=aE (y:=.row 0 5 0 [[.int .i64 t.kind,.str t.name,.int .i64 t.lo,.int .i64 t.hi,.list 64 (t.args.map eT)]]) kw hb
 have km:=aE (y:=.row 0 5 0 [[.int .i64 t.kind,.str t.name,.int .i64 t.lo,.int .i64 t.hi,.list 64 (t.args.map eT)]]) km hb
 have kv:=aE (y:=.row 0 5 0 [[.int .i64 t.kind,.str t.name,.int .i64 t.lo,.int .i64 t.hi,.list 64 (t.args.map eT)]]) kv hb
 have fin:∀ v:Bool,v=decide (iO w.classes t=0)→∃ S',bV (L.aK S b (.row 0 5 0 [[.int .i64 t.kind,.str t.name,.int .i64 t.lo,.int .i64 t.hi,.list 64 (t.args.map eT)]])) S'∧(iY.ret (.bool v)=.ret (.bool (decide (iO w.classes t=0)))∧S'=S):=fun v e=>⟨S,aR hb,by rw[e],rfl⟩
 refine aF ?_;intros
 refine aU (aT aI (by rfl) 12 (by decide) ?_)
 refine aF ?_;intros
 cases hat:mZ w.classes t.name with
 | none=>
  apply Exists.intro;apply And.intro
  ·conv=>whnf
   refine And.intro rfl (jN km (nC hat) ?_)
   conv=>whnf
  refine aF ?_;intros
  refine aU (aT aI (by rfl) 11 (by decide) ?_)
  refine aF ?_;intros
  exact fin _ rfl
 | some i=>
  have hc:lI w.classes t.name=true:=by unfold lI;rw[hat];rfl
  apply Exists.intro;apply And.intro
  ·conv=>whnf
   refine And.intro rfl (fV km (nA hat) ?_)
   conv=>whnf
  refine aF ?_;intros
  refine And.intro (fun a1=>?_) (fun a1=>?_)
  ·refine aF ?_;intros
   refine And.intro (fun a2=>?_) (fun a2=>?_)
   ·refine aF ?_;intros
    refine And.intro (fun a3=>?_) (fun a3=>?_)
    ·refine aF ?_;intros
     refine And.intro (fun a4=>?_) (fun a4=>?_)
     ·refine aF ?_;intros
      exact fin _ (by simp at a1 a2 a3 a4;simp[valid_class hc a1 a2 a3 (by simp[a4])])
     ·refine aF ?_;intros
      refine aU (aT aI (by rfl) 11 (by decide) ?_)
      refine aF ?_;intros
      exact fin _ rfl
    ·refine aF ?_;intros
     refine aU (aT aI (by rfl) 11 (by decide) ?_)
     refine aF ?_;intros
     exact fin _ rfl
   ·refine aF ?_;intros
    refine aU (aT aI (by rfl) 11 (by decide) ?_)
    refine aF ?_;intros
    exact fin _ rfl
  ·refine aF ?_;intros
   refine aU (aT aI (by rfl) 11 (by decide) ?_)
   refine aF ?_;intros
   exact fin _ rfl
end
end Go.Proofs.YtbojdflgjpjbiaaGreat.L
