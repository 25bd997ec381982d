/- A logic over the machine, and what the functions of the seat come to: part 16. No claim stands here; the theorems are used by the row. -/
import Derived.Test.YtbojdflgjpjbiaaGreatJ10
import Derived.Test.YtbojdflgjpjbiaaGreatJ15
set_option linter.unusedSimpArgs false
set_option linter.unnecessarySimpa false
set_option linter.unusedVariables false
namespace Go.Proofs.YtbojdflgjpjbiaaGreat.L
open Go
section
attribute [local irreducible] T TL
set_option maxRecDepth 10000
set_option maxHeartbeats 4000000
variable {w:aW} {q:uU}
theorem fptr_bound {t:List PV} {S:aD} {D:List DA} {d i j e:Nat} {cs:List PV} {xs:List (List PV)} (hd:getT t d=.fptr cs j) (hi:cs[i]?=some (.list e xs)):∀ a w fr m,kZ a w fr m t S D→xs.length*e≤140737488355328:=
 fun a w fr m hs=>by
  have:=hs.tmp d
  rw[hd] at this
  revert this;generalize a.tmps.getD d undef=v
  intro h
  cases h with
  | fptr b o _ _ vals hf hv hr=>
   obtain⟨h2,h3⟩:=List.getElem?_eq_some_iff.1 hi
   have h4:=hr i h2
   rw[h3] at h4
   exact qO h4
theorem isSlot_spec (hl:lookB w.classes=true) (s:SlotT) (ct:s.ty.cnt<4611686018427387904) (S:aD) (hS:HasV w q S):Fn PP 183 [vp q,.fptr (wN s) 0] S fun o S'=>o=.ret (.bool (gW w.classes s))∧S'=S:=by
 refine aJ aI Tryz.func183 rfl (by rfl) (by rfl) ?_
 have fin:∀ v:Bool,v=gW w.classes s→∃ S',bV S S'∧(iY.ret (.bool v)=.ret (.bool (gW w.classes s))∧S'=S):=fun v e=>⟨S,aB _,by rw[e],rfl⟩
 refine cJ (fptr_bound (d:=1) (i:=8) rfl rfl) fun hlen=>?_
 rw[List.length_map] at hlen
 obtain⟨kw,km,kv⟩:=id hS
 have hv:=isValid_spec hl s.ty ct S hS
 refine aF ?_;intros
 refine And.intro (fun a1=>?_) (fun a1=>?_)
 rotate_left
 ·refine aF ?_;intros
  exact fin _ (by simp at a1;unfold gW;rw[a1];rfl)
 refine aF ?_;intros
 refine And.intro (fun a2=>?_) (fun a2=>?_)
 rotate_left
 ·refine aF ?_;intros
  exact fin _ (by simp at a2;unfold gW;rw[show decide (1≤s.alloc)=false by simp;omega];simp)
 refine aF ?_;intros
 refine And.intro (fun a3=>?_) (fun a3=>?_)
 rotate_left
 ·refine aF ?_;intros
  exact fin _ (by simp at a3;unfold gW;rw[show decide (s.alloc≤3)=false by simp;omega];simp)
 refine aF ?_;intros
 refine And.intro (fun a4=>?_) (fun a4=>?_)
 ·refine aF ?_;intros
  exact fin _ (by simp at a4;unfold gW;rw[show decide (s.init.length≤1)=false by simp;omega];simp)
 have hpre:gW w.classes s=((decide (s.key=qZ) || (qH s.key && decide (s.alloc=1))) && decide (iO w.classes s.ty=0)):=by
  simp at a1 a2 a3 a4
  unfold gW
  rw[a1,show decide (1≤s.alloc)=true by simp;omega,show decide (s.alloc≤3)=true by simp;omega,show decide (s.init.length≤1)=true by simp;omega]
  simp
 refine aF ?_;intros
 refine And.intro (fun a5=>?_) (fun a5=>?_)
 ·have a5':¬ s.key=qZ:=by simpa using a5
  refine aF ?_;intros
  refine And.intro (fun a6=>?_) (fun a6=>?_)
  ·have a6':qH s.key=true:=by simpa using a6
   refine aF ?_;intros
   refine And.intro (fun a7=>?_) (fun a7=>?_)
   ·refine aF ?_;intros
    exact fin _ (by simp at a7;rw[hpre];simp[a5',a7])
   ·refine aF ?_;intros
    refine bN hv (aB _) ?_
    refine aF ?_;intros
    exact fin _ (by simp at a7;rw[hpre];simp[a5',a7,a6'])
  ·refine aF ?_;intros
   exact fin _ (by simp at a6;rw[hpre];simp[a5',a6])
 ·have a5':s.key=qZ:=by simpa using a5
  refine aF ?_;intros
  refine bN hv (aB _) ?_
  refine aF ?_;intros
  exact fin _ (by rw[hpre];simp[a5'])
theorem isDefx_spec (d:DefT) (k:Nat) (hk:k<d.slots.length) (s:SlotT) (S:aD) (b6 b7:Nat) (h6:S b6=some (.row 0 1 0 [[.fptr (eD d) 0]])) (h7:S b7=some (.row 0 1 0 [[.int .i64 k]])) :
  Fn PP 185 [.agg (wN s),.ptr b6 0 0 0 1,.ptr b7 0 0 0 1] S fun o S'=>o=.ret (.bool (decide (s.name=d.slots[k].name)))∧S'=S:=by
 refine aJ aI Tryz.func185 rfl (by rfl) (by rfl) ?_
 refine aF ?_;intros
 refine aG fun b hb=>?_
 have k6:=aE (y:=.row 0 (wN s).length 0 [wN s]) h6 hb
 have k7:=aE (y:=.row 0 (wN s).length 0 [wN s]) h7 hb
 refine aF ?_;intros
 refine aU (aT aI (by rfl) 11 (by decide) ?_)
 refine aF ?_;intros
 exact⟨S,aR hb,rfl,rfl⟩
end
section
attribute [local irreducible] T TL
set_option maxRecDepth 10000
set_option maxHeartbeats 4000000
variable {w:aW} {q:uU}
theorem box_bound {t:List PV} {S:aD} {D:List DA} {g ver sz e j k o e':Nat} {cs ds:List PV} {ys:List (List PV)} (hg:S g=some (.row ver sz e [cs])) (hj:cs[j]?=some (.fptr ds o)) (hk:ds[k]?=some (.list e' ys)):∀ a w fr m,kZ a w fr m t S D→ys.length*e'≤140737488355328:=
 fun a w fr m hs=>by
  obtain⟨ob,h1,h2⟩:=hs.rel.obj g _ hg
  cases ob with
  | none=>obtain⟨_,_,_,e⟩:=h2;cases e
  | some b=>
   obtain⟨x,_,h3,arr,el,rfl,h4,h5,h6⟩:=h2
   obtain⟨hj1,hj2⟩:=List.getElem?_eq_some_iff.1 hj
   obtain⟨v,_,h7⟩:=h6 0 j (by simp) hj1
   have e1:([cs]:List (List PV))[0][j]=.fptr ds o:=hj2
   rw[e1] at h7
   cases h7 with
   | fptr b o _ _ vals hf hv hr=>
    obtain⟨h8,h9⟩:=List.getElem?_eq_some_iff.1 hk
    have h10:=hr k h8
    rw[h9] at h10
    exact qO h10
theorem isDef_spec (hl:lookB w.classes=true) (i:Nat) (hi:i<w.classes.length) (hd:i<w.defs.length) (ct:∀ s∈w.defs[i].slots,s.ty.cnt<4611686018427387904) (S:aD) (hS:HasV w q S) :
  Fn PP 149 [vp q,.int .i64 i] S fun o S'=>o=.ret (.bool (defOkB w.classes w.classes[i] w.defs[i]))∧S'=S:=by
 refine aJ aI Tryz.func149 rfl (by rfl) (by rfl) ?_
 obtain⟨kw,km,kv⟩:=id hS
 refine aF ?_;intros
 refine aU (T_drawR aI (by rfl) 20 [18] (by kernel_rfl) (by kernel_rfl) ?_)
 refine aF ?_;intros
 refine⟨yI (aH GT 140).size (aH GT 140).zero,?_,fun _ _ _ h hs=>h.sle hs,?_⟩
 ·conv=>whnf
  exact⟨by decide,rfl⟩
 refine aF ?_
 rintro p S3 ⟨b6,h6,rfl,rfl⟩
 refine aF ?_;intros
 generalize hS4:aK _ b6 _=S4
 have k6:S4 b6=some (.row 0 1 0 [[.fptr (eD w.defs[i]) 0]]):=by rw[← hS4];exact aA _ _ _
 have hV:HasV w q S4:=by rw[← hS4];first | exact hS.upd h6 | (rw[aN];exact hS.upd h6)
 have hs4:bV S4 S:=by rw[← hS4];first | exact aR h6 | (rw[aN];exact aR h6)
 clear hS4
 have fin:∀ v:Bool,v=defOkB w.classes w.classes[i] w.defs[i]→∃ S',bV S4 S'∧(iY.ret (.bool v)=.ret (.bool (defOkB w.classes w.classes[i] w.defs[i]))∧S'=S):=fun v e=>⟨S,hs4,by rw[e],rfl⟩
 have dof:defOkB w.classes w.classes[i] w.defs[i]=(decide (w.defs[i].name=w.classes[i].name) && decide (w.defs[i].supers=w.classes[i].supers) && decide (w.defs[i].abs=w.classes[i].abs) && decide (w.defs[i].sealed=w.classes[i].sealed) && decide (w.defs[i].slots.length≤16) && gQ w.classes [] w.defs[i].slots):=rfl
 obtain⟨kw,km,kv⟩:=id hV
 refine aU (cJ (box_bound (j:=0) (k:=2) k6 rfl rfl) fun hlen=>?_)
 rw[List.length_map] at hlen
 refine aT aI (by rfl) 51 (by kernel_rfl) ?_
 refine aF ?_;intros
 refine And.intro (fun a1=>?_) (fun a1=>?_)
 rotate_left
 ·refine aF ?_;intros
  exact fin _ (by simp at a1;rw[dof];simp[a1])
 refine aF ?_;intros
 refine And.intro (fun a2=>?_) (fun a2=>?_)
 rotate_left
 ·refine aF ?_;intros
  exact fin _ (by simp at a2;rw[dof];simp[a2])
 refine aF ?_;intros
 refine And.intro (fun a3=>?_) (fun a3=>?_)
 rotate_left
 ·refine aF ?_;intros
  exact fin _ (by simp at a3;rw[dof];simp[a3])
 refine aF ?_;intros
 refine And.intro (fun a4=>?_) (fun a4=>?_)
 rotate_left
 ·refine aF ?_;intros
  exact fin _ (by simp at a4;rw[dof];simp[a4])
 refine aF ?_;intros
 refine And.intro (fun a5=>?_) (fun a5=>?_)
 ·refine aF ?_;intros
  exact fin _ (by simp at a5;rw[dof];simp;omega)
 have dof2:defOkB w.classes w.classes[i] w.defs[i]=gQ w.classes [] w.defs[i].slots:=by
  simp at a1 a2 a3 a4 a5
  rw[dof];simp[a1,a2,a3,a4];omega
 clear dof
 generalize hD:w.defs[i]=d at *
 refine aF ?_;intros
 refine aU (aY (α:=Nat) (inv:=fun k=>k≤d.slots.length∧gQ w.classes [] d.slots=gQ w.classes (d.slots.take k) (d.slots.drop k)) (tm:=fun k=>gF 106 [(0,vp q),(6,.ptr b6 0 0 0 1),(81,.int .i64 d.slots.length),(82,.int .i64 k)]) (st:=fun _=>S4) (μ:=fun k=>d.slots.length - k) 0 ⟨by omega,rfl⟩ ?_ (aB _) ?_)
 ·repeat' (first | exact trivial | exact rfl | refine And.intro ?_ ?_)
  simp
 rintro k ⟨hk,hpre⟩
 refine aF ?_;intros
 refine fC (fun hc=>?_) (fun hc=>?_)
 ·have hlt:k<d.slots.length:=by omega
  refine aF ?_;intros
  refine aG fun b7 h7=>?_
  refine aF ?_;intros
  generalize hS5:aK _ b7 _=S5
  have k7:S5 b7=some (.row 0 1 0 [[.int .i64 (k:Nat)]]):=by rw[← hS5];exact aA _ _ _
  have k6':S5 b6=some (.row 0 1 0 [[.fptr (eD d) 0]]):=by rw[← hS5];first | exact aE k6 h7 | (rw[aN];exact aE k6 h7)
  have hV5:HasV w q S5:=by rw[← hS5];first | exact hV.upd h7 | (rw[aN];exact hV.upd h7)
  have hs5:bV S5 S4:=by rw[← hS5];first | exact aR h7 | (rw[aN];exact aR h7)
  clear hS5 h7
  have fin5:∀ v:Bool,v=defOkB w.classes w.classes[i] d→∃ S',bV S5 S'∧(iY.ret (.bool v)=.ret (.bool (defOkB w.classes w.classes[i] d))∧S'=S):=fun v e=>⟨S,hs5.trans hs4,by rw[e],rfl⟩
  obtain⟨kw5,km5,kv5⟩:=id hV5
  have hstep:gQ w.classes [] d.slots=(gW w.classes d.slots[k] && !((d.slots.take k).any fun t=>decide (t.name=d.slots[k].name)) && gQ w.classes (d.slots.take (k+1)) (d.slots.drop (k+1))):=by
   rw[hpre,List.drop_eq_getElem_cons hlt,gQ,List.take_succ_eq_append_getElem hlt]
  have hsl:=isSlot_spec hl d.slots[k] (ct _ (List.getElem_mem hlt)) S5 hV5
  have hix:Fn PP 184 [SLS (d.slots.take k),.fn (.func 185) [] [.ptr b6 0 0 0 1,.ptr b7 0 0 0 1]] S5 fun o S'=>o=.ret (.int .i64 (cQ (fun t:SlotT=>decide (t.name=d.slots[k].name)) (d.slots.take k)))∧S'=S5:=
   fO (indexS (St:=Unit) (st:=fun _=>S5) (d.slots.take k) 185 [] [.ptr b6 0 0 0 1,.ptr b7 0 0 0 1] (fun t=>decide (t.name=d.slots[k].name)) (fun x _ _=>fO (isDefx_spec d k hlt x S5 b6 b7 k6' k7) fun o S' h=>⟨(),h⟩) ()) fun o S' ⟨_,h⟩=>h
  refine aU (aT aI (by rfl) 20 (by kernel_rfl) ?_)
  refine aF ?_;intros
  apply Exists.intro;apply And.intro
  ·conv=>whnf
   exact⟨_,aB _,hsl⟩
  refine aF ?_;intros
  refine And.intro (fun c1=>?_) (fun c1=>?_)
  rotate_left
  ·refine aF ?_;intros
   exact fin5 _ (by simp at c1;rw[dof2,hstep];simp[c1])
  have c1:gW w.classes d.slots[k]=true:=by simpa using c1
  refine aF ?_;intros
  apply Exists.intro;apply And.intro
  ·conv=>whnf
   exact⟨_,aB _,hix⟩
  have hany:=nI (fun t:SlotT=>decide (t.name=d.slots[k].name)) (d.slots.take k)
  refine aF ?_;intros
  refine And.intro (fun c2=>?_) (fun c2=>?_)
  ·refine aF ?_;intros
   have c3:((d.slots.take k).any fun t=>decide (t.name=d.slots[k].name))=true:=by rw[← hany];simpa using c2
   exact fin5 _ (by rw[dof2,hstep,c3];simp)
  ·refine aF ?_;intros
   have c3:((d.slots.take k).any fun t=>decide (t.name=d.slots[k].name))=false:=by rw[← hany];simpa using c2
   refine⟨k+1,⟨by omega,by rw[hstep,c1,c3];simp⟩,by omega,?_,hs5⟩
   repeat' (first | exact trivial | exact rfl | refine And.intro ?_ ?_)
 ·have e:k=d.slots.length:=by omega
  subst e
  rw[List.drop_length,gQ] at hpre
  refine aF ?_;intros
  exact fin _ (by rw[dof2,hpre])
end
section
attribute [local irreducible] T TL
set_option maxRecDepth 10000
set_option maxHeartbeats 4000000
theorem mH {t:List PV} {S:aD} {D:List DA} {g ver sz e j e':Nat} {cs:List PV} {ys:List (List PV)} (hg:S g=some (.row ver sz e [cs])) (hj:cs[j]?=some (.list e' ys)):∀ a w fr m,kZ a w fr m t S D→ys.length*e'≤140737488355328:=
 fun a w fr m hs=>by
  obtain⟨ob,h1,h2⟩:=hs.rel.obj g _ hg
  cases ob with
  | none=>obtain⟨_,_,_,e⟩:=h2;cases e
  | some b=>
   obtain⟨x,_,h3,arr,el,rfl,h4,h5,h6⟩:=h2
   obtain⟨hj1,hj2⟩:=List.getElem?_eq_some_iff.1 hj
   obtain⟨v,_,h7⟩:=h6 0 j (by simp) hj1
   have e1:([cs]:List (List PV))[0][j]=.list e' ys:=hj2
   rw[e1] at h7
   exact qO h7
abbrev RW (w:aW):AO:=.row 0 7 0 [eW w]
structure uU.Ok (q:uU):Prop where
 mw:q.gm≠q.gw
 vw:q.gv≠q.gw
 vm:q.gv≠q.gm
def VW (w:aW) (q:uU):aD:=aK (aK (aK E q.gw (RW w)) q.gm (.map true (atM (hsOf w.classes)))) q.gv (.row 0 2 0 [[.ptr q.gw 0 0 0 7,.map q.gm]])
theorem HasV.of {w:aW} {q:uU} (o:q.Ok):HasV w q (VW w q):=⟨by unfold VW;rw[aC (Ne.symm o.vw),aC (Ne.symm o.mw),aA],by unfold VW;rw[aC (Ne.symm o.vm),aA],aA _ _ _⟩
theorem HasV.sle {w:aW} {q:uU} {S:aD} (h:HasV w q S):bV S (VW w q):=fun g x hx=>by
 unfold VW at hx
 by_cases e:g=q.gv
 ·subst e;rw[aA] at hx;rw[← hx];exact h.kv
 rw[aC e] at hx
 by_cases e:g=q.gm
 ·subst e;rw[aA] at hx;rw[← hx];exact h.km
 rw[aC e] at hx
 by_cases e:g=q.gw
 ·subst e;rw[aA] at hx;rw[← hx];exact h.kw
 rw[aC e] at hx;cases hx
def readO (w:aW) (gw:Nat) (o:iY) (S':aD):Prop:=
 (lU w=false∧o=.ret (.tup [.nilp,.bool false])∧S'=aK E gw (RW w))∨(lU w=true∧∃ q:uU,q.gw=gw∧q.Ok∧o=.ret (.tup [vp q,.bool true])∧S'=VW w q)
def SzW (w:aW):Prop:=∀ d∈w.defs,∀ s∈d.slots,s.ty.cnt<4611686018427387904
instance (l:List ClassI):cH 84 [CS l] (.int .i64 (if lookB l then 0 else 80)):=⟨checkT_spec l⟩
theorem read_spec (w:aW) (hz:SzW w) (gw:Nat):Fn PP 108 [.ptr gw 0 0 0 7] (aK E gw (RW w)) (readO w gw):=by
 refine aJ aI Tryz.func108 rfl (by rfl) (by rfl) ?_
 have kw:aK E gw (RW w) gw=some (.row 0 7 0 [eW w]):=aA _ _ _
 refine cJ (mH (j:=0) kw rfl) fun b0=>?_
 refine cJ (mH (j:=1) kw rfl) fun b1=>?_
 refine cJ (mH (j:=2) kw rfl) fun b2=>?_
 rw[List.length_map] at b0 b1 b2
 have fin:lU w=false→∃ S',bV (aK E gw (RW w)) S'∧readO w gw (.ret (.tup [.nilp,.bool false])) S':=fun h=>⟨_,aB _,.inl ⟨h,rfl,rfl⟩⟩
 refine aF ?_;intros
 refine And.intro (fun a1=>?_) (fun a1=>?_)
 rotate_left
 ·refine aF ?_;intros
  simp at a1
  have:¬ w.defs.length=w.classes.length:=by omega
  exact fin (by unfold lU;simp[this])
 refine aF ?_;intros
 refine And.intro (fun a2=>?_) (fun a2=>?_)
 rotate_left
 ·refine aF ?_;intros
  simp at a2
  have:¬ w.versions.length=w.classes.length:=by omega
  exact fin (by unfold lU;simp[this])
 have a1:w.defs.length=w.classes.length:=by simp at a1;omega
 have a2:w.versions.length=w.classes.length:=by simp at a2;omega
 refine aF ?_;intros
 refine And.intro (fun a3=>?_) (fun a3=>?_)
 ·refine aF ?_;intros
  have a3:lookB w.classes=false:=by
   cases e:lookB w.classes with
   | false=>rfl
   | true=>rw[e] at a3;simp at a3
  exact fin (by unfold lU;simp[a3])
 have a3:lookB w.classes=true:=by
  cases e:lookB w.classes with
  | true=>rfl
  | false=>rw[e] at a3;simp at a3
 have hrd:lU w=jB w.classes w.classes w.defs w.versions:=by unfold lU;simp[a1,a2,a3]
 refine aF ?_;intros
 refine aG fun gm hm=>?_
 refine aF ?_;intros
 refine aG fun gv hv=>?_
 have nmw:gm≠gw:=aL kw hm
 have nvm:gv≠gm:=aL (aA _ _ _) hv
 have nvw:gv≠gw:=aL (aE kw hm) hv
 let VS:Nat→aD:=fun i=>aK (aK (aK E gw (RW w)) gm (.map true (atM (hsOf (w.classes.take i))))) gv (.row 0 2 0 [[.ptr gw 0 0 0 7,.map gm]])
 have e0:VS 0=aK (aK (aK E gw (RW w)) gm (.map true fun _=>none)) gv (.row 0 2 0 [[.ptr gw 0 0 0 7,.map gm]]):=by
  have:atM (hsOf (w.classes.take 0))=fun _=>none:=by funext k;cases k <;> rfl
  show aK (aK (aK E gw (RW w)) gm (.map true (atM (hsOf (w.classes.take 0))))) gv _=_
  rw[this]
 have vw:∀ i,VS i gw=some (RW w):=fun i=>by show aK _ gv _ gw=_;rw[aC (Ne.symm nvw),aC (Ne.symm nmw),aA]
 have vm:∀ i,VS i gm=some (.map true (atM (hsOf (w.classes.take i)))):=fun i=>by show aK _ gv _ gm=_;rw[aC (Ne.symm nvm),aA]
 have vv:∀ i,VS i gv=some (.row 0 2 0 [[.ptr gw 0 0 0 7,.map gm]]):=fun i=>aA _ _ _
 have vsle:∀ i S,S gw=some (RW w)→S gm=some (.map true (atM (hsOf (w.classes.take i))))→S gv=some (.row 0 2 0 [[.ptr gw 0 0 0 7,.map gm]])→bV S (VS i):=fun i S h1 h2 h3 g x hx=>by
  have hx:aK _ gv _ g=some x:=hx
  by_cases e:g=gv
  ·subst e;rw[aA] at hx;rw[← hx];exact h3
  rw[aC e] at hx
  by_cases e:g=gm
  ·subst e;rw[aA] at hx;rw[← hx];exact h2
  rw[aC e] at hx
  by_cases e:g=gw
  ·subst e;rw[aA] at hx;rw[← hx];exact h1
  rw[aC e] at hx;cases hx
 have h0:bV (aK (aK (aK E gw (RW w)) gm (.map true fun _=>none)) gv (.row 0 2 0 [[.ptr gw 0 0 0 7,.map gm]])) (VS 0):=by rw[e0];exact aB _
 clear_value VS
 refine aF ?_;intros
 refine aU (aY (α:=Nat) (inv:=fun i=>i≤w.classes.length) (tm:=fun i=>gF 80 [(0,.ptr gw 0 0 0 7),(4,.int .i64 w.classes.length),(5,.ptr gv 0 0 0 2),(45,CS w.classes),(46,.int .i64 w.classes.length),(47,.int .i64 i)]) (st:=fun i=>VS i) (μ:=fun i=>w.classes.length - i) 0 (by omega) ?_ h0 ?_)
 ·repeat' (first | exact trivial | exact rfl | refine And.intro ?_ ?_)
  all_goals simp
 intro i hi
 have ki1:=vw i
 have ki2:=vm i
 have ki3:=vv i
 refine aF ?_;intros
 refine fC (fun hc=>?_) (fun hc=>?_)
 ·have hlt:i<w.classes.length:=by omega
  refine aF ?_;intros
  refine aG fun b7 h7=>?_
  have n7m:b7≠gm:=aL (vm i) h7
  refine aF ?_;intros
  generalize hS5:aK _ b7 _=S5
  have k7:S5 b7=some (.row 0 6 0 [eC w.classes[i]]):=by rw[← hS5];exact aA _ _ _
  have j1:S5 gw=some (RW w):=by rw[← hS5];first | exact aE ki1 h7 | (rw[aN];exact aE ki1 h7)
  have j2:S5 gm=some (.map true (atM (hsOf (w.classes.take i)))):=by rw[← hS5];first | exact aE ki2 h7 | (rw[aN];exact aE ki2 h7)
  have j3:S5 gv=some (.row 0 2 0 [[.ptr gw 0 0 0 7,.map gm]]):=by rw[← hS5];first | exact aE ki3 h7 | (rw[aN];exact aE ki3 h7)
  clear hS5 h7
  refine aU (aT aI (by rfl) 7 (by kernel_rfl) ?_)
  refine aF ?_;intros
  refine dL j2 ?_
  refine aF ?_;intros
  have hnx:=atM_next (l:=w.classes) hlt
  refine⟨i+1,by omega,by omega,?_,vsle (i+1) _ (by rw[aC (Ne.symm nmw)];exact j1) (by rw[aA,← hnx];rfl) (by rw[aC nvm];exact j3)⟩
  repeat' (first | exact trivial | exact rfl | refine And.intro ?_ ?_)
 ·have e:i=w.classes.length:=by omega
  subst e
  let q:uU:=⟨gw,gm,gv⟩
  have qo:q.Ok:=⟨nmw,nvw,nvm⟩
  have hV:HasV w q (VS w.classes.length):=⟨ki1,by have:=ki2;rw[List.take_length] at this;exact this,ki3⟩
  have lstep:∀ (cs:List ClassI) (ds:List DefT) (vs:List Int) (k:Nat) (h1:k<cs.length) (h2:k<ds.length) (h3:k<vs.length),jB w.classes (cs.drop k) (ds.drop k) (vs.drop k)=(decide (0≤vs[k]) && defOkB w.classes cs[k] ds[k] && jB w.classes (cs.drop (k+1)) (ds.drop (k+1)) (vs.drop (k+1))):=fun cs ds vs k h1 h2 h3=>by
   rw[List.drop_eq_getElem_cons h1,List.drop_eq_getElem_cons h2,List.drop_eq_getElem_cons h3,jB]
  have fin2:lU w=false→∃ S',bV (VS w.classes.length) S'∧readO w gw (.ret (.tup [.nilp,.bool false])) S':=fun h=>⟨aK E gw (RW w),fE ki1,.inl ⟨h,rfl,rfl⟩⟩
  generalize hV0:VS w.classes.length=V0 at *
  have kw0:=hV.kw
  have km0:=hV.km
  have kv0:=hV.kv
  refine aF ?_;intros
  refine aU (aY (α:=Nat) (inv:=fun k=>k≤w.classes.length∧jB w.classes w.classes w.defs w.versions=jB w.classes (w.classes.drop k) (w.defs.drop k) (w.versions.drop k)) (tm:=fun k=>gF 80 [(0,.ptr gw 0 0 0 7),(5,vp q),(60,.int .i64 w.classes.length),(61,.int .i64 k)]) (st:=fun _=>V0) (μ:=fun k=>w.classes.length - k) 0 ⟨by omega,rfl⟩ ?_ (aB _) ?_)
  ·repeat' (first | exact trivial | exact rfl | refine And.intro ?_ ?_)
  rintro k ⟨hk,hpre⟩
  refine aF ?_;intros
  refine fC (fun hc=>?_) (fun hc=>?_)
  ·have hlt:k<w.classes.length:=by omega
   have hl2:k<w.defs.length:=by omega
   have hl3:k<w.versions.length:=by omega
   have hst:=lstep w.classes w.defs w.versions k hlt hl2 hl3
   have hdef:=isDef_spec a3 k hlt hl2 (fun s hs=>hz _ (List.getElem_mem hl2) s hs) V0 hV
   refine aF ?_;intros
   refine And.intro (fun c1=>?_) (fun c1=>?_)
   rotate_left
   ·refine aF ?_;intros
    simp at c1
    exact fin2 (by rw[hrd,hpre,hst];simp;omega)
   have c1:0≤w.versions[k]:=by simp at c1;omega
   refine aF ?_;intros
   refine bN hdef (aB _) ?_
   refine aF ?_;intros
   refine And.intro (fun c2=>?_) (fun c2=>?_)
   ·refine aF ?_;intros
    simp at c2
    exact fin2 (by rw[hrd,hpre,hst];simp[c2])
   ·refine aF ?_;intros
    simp at c2
    refine⟨k+1,⟨by omega,by rw[hpre,hst];simp[c1,c2]⟩,by omega,?_,aB _⟩
    repeat' (first | exact trivial | exact rfl | refine And.intro ?_ ?_)
  ·have e:k=w.classes.length:=by omega
   subst e
   rw[List.drop_length] at hpre
   refine aF ?_;intros
   exact⟨_,hV.sle,.inr ⟨by rw[hrd,hpre];simp[jB],q,rfl,qo,rfl,rfl⟩⟩
end
section
attribute [local irreducible] T TL
set_option maxRecDepth 10000
set_option maxHeartbeats 4000000
variable {w:aW} {q:uU}
abbrev eK (d:DefT) (c:ClassI) (v:Int):List PV:=[.str d.name,LS d.supers,SLS d.slots,.bool d.abs,.bool d.sealed,.fptr (eC c) 0,.int .i64 v]
theorem tK (i:Nat) (h1:i<w.classes.length) (h2:i<w.defs.length) (h3:i<w.versions.length) (S:aD) (hS:HasV w q S) :
  Fn PP 53 [vp q,.int .i64 i] S fun o S'=>o=.ret (.agg (eK w.defs[i] w.classes[i] w.versions[i]))∧S'=S:=by
 refine aJ aI Tryz.func53 rfl (by rfl) (by rfl) ?_
 obtain⟨kw,km,kv⟩:=id hS
 refine aF ?_;intros
 refine aG fun b4 h4=>?_
 have kw:=aE (y:=.row 0 (aH GT 117).size 0 [(aH GT 117).zero]) kw h4
 have kv:=aE (y:=.row 0 (aH GT 117).size 0 [(aH GT 117).zero]) kv h4
 refine aF ?_;intros
 refine aU (aT aI (by rfl) 30 (by kernel_rfl) ?_)
 refine aF ?_;intros
 exact⟨S,by first | exact aR h4 | (rw[aN];exact aR h4),rfl,rfl⟩
theorem back_spec (l:List ByteArray):Fn PP 146 [LS l] E fun o S'=>∃ g,o=.ret (.fn (.func 182) [] [.ptr g 0 0 0 1])∧S'=aK E g (.row 0 1 0 [[LS l]]):=by
 refine aJ aI Tryz.func146 rfl (by rfl) (by rfl) ?_
 refine aF ?_;intros
 refine aG fun g hg=>?_
 refine aF ?_;intros
 exact⟨_,aB _,g,rfl,rfl⟩
end
section
attribute [local irreducible] T TL
set_option maxRecDepth 10000
set_option maxHeartbeats 4000000
def qU {α σ τ:Type} (f:σ→α→σ ⊕ τ):σ→List α→σ ⊕ τ
 | s,[]=>.inl s
 | s,x::l=>match f s x with
  | .inl s'=>qU f s' l
  | .inr y=>.inr y
structure YB {σ τ:Type} (gl:Nat) (ACC:σ→aD) (ACY:τ→aD) (stp:σ→ByteArray→σ ⊕ τ) (l:List ByteArray):Prop where
 y:∀ x (i:Nat) s,s∈l→YFn PP gl [.int .i64 (i:Nat),.str s] (ACC x) (SumR ACC ACY (.bool true) (.bool false) (stp x s))
 rc:∀ x,∃ st pd fn t ps asg bd d,ACC x gl=some (.loop st pd fn t ps asg bd d)
variable {σ τ:Type} {gl:Nat} {ACC:σ→aD} {ACY:τ→aD} {stp:σ→ByteArray→σ ⊕ τ} {l:List ByteArray}
theorem backs_spec (Y:YB gl ACC ACY stp l) (bs:Nat) (hb:∀ x,ACC x bs=some (.row 0 1 0 [[LS l]])) (x0:σ):Fn PP 182 [.yld gl,.ptr bs 0 0 0 1] (ACC x0) (SumR ACC ACY (.tup []) (.tup []) (qU stp x0 l.reverse)):=by
 refine aJ aI Tryz.func182 rfl (by rfl) (by rfl) ?_
 have kb:=hb x0
 refine cJ (mH (j:=0) kb rfl) fun hlen=>?_
 rw[List.length_map] at hlen
 refine aF ?_;intros
 refine aU (aY (α:=σ × Nat) (inv:=fun x=>x.2≤l.length∧qU stp x.1 (l.take x.2).reverse=qU stp x0 l.reverse) (tm:=fun x=>gF 19 [(0,.yld gl),(1,.ptr bs 0 0 0 1),(3,.int .i64 ((x.2:Int) - 1))]) (st:=fun x=>ACC x.1) (μ:=fun x=>x.2) (x0,l.length) ⟨by simp,by simp⟩ ?_ (aB _) ?_)
 ·repeat' (first | exact trivial | exact rfl | refine And.intro ?_ ?_)
  simp
 rintro⟨x,k⟩ ⟨hk,hf⟩
 dsimp only at hk hf ⊢
 cases k with
 | zero=>
  refine aF ?_;intros
  refine⟨ACC x,aB _,?_⟩
  rw[← hf]
  exact⟨rfl,rfl⟩
 | succ k=>
  have e9:(((k+1:Nat):Int) - 1)=(k:Nat):=by omega
  rw[e9]
  have hlt:k<l.length:=by omega
  have kb:=hb x
  obtain⟨st,pd,fn,t,ps,asg,bd,d,hr⟩:=Y.rc x
  have hrev:(l.take (k+1)).reverse=l[k]::(l.take k).reverse:=by rw[List.take_succ_eq_append_getElem hlt,List.reverse_append];rfl
  rw[hrev,qU] at hf
  refine aF ?_;intros
  refine lW (Y.y x k l[k] (List.getElem_mem hlt)) (aB _) ?_
  rintro o S' hR -
  cases e:stp x l[k] with
  | inl x'=>
   rw[e] at hR hf
   obtain⟨rfl,rfl⟩:=hR
   unfold dR
   rw[cW]
   refine aF ?_;intros
   refine⟨(x',k),⟨by dsimp only;omega,hf⟩,by dsimp only;omega,?_,aB _⟩
   repeat' (first | exact trivial | exact rfl | refine And.intro ?_ ?_)
  | inr y=>
   rw[e] at hR hf
   obtain⟨rfl,rfl⟩:=hR
   unfold dR
   rw[cW]
   refine aF ?_;intros
   refine⟨ACY y,aB _,?_⟩
   rw[← hf]
   exact⟨rfl,rfl⟩
end
section
attribute [local irreducible] T TL
set_option maxRecDepth 10000
set_option maxHeartbeats 4000000
variable {w:aW} {q:uU}
theorem general_spec (i:Nat) (S:aD) (hS:HasV w q S):Fn PP 104 [vp q,.int .i64 i] S fun o S'=>∃ b1 b2,S b1=none∧aK S b1 (.row 0 1 0 [[vp q]]) b2=none∧o=.ret (.fn (.func 145) [] [.ptr b1 0 0 0 1,.ptr b2 0 0 0 1])∧S'=aK (aK S b1 (.row 0 1 0 [[vp q]])) b2 (.row 0 1 0 [[.int .i64 i]]):=by
 refine aJ aI Tryz.func104 rfl (by rfl) (by rfl) ?_
 obtain⟨kw,km,kv⟩:=id hS
 refine aF ?_;intros
 refine aG fun b1 h1=>?_
 refine aF ?_;intros
 refine aG fun b2 h2=>?_
 refine aF ?_;intros
 exact⟨_,aB _,b1,b2,h1,h2,rfl,rfl⟩
theorem fR {S:aD} {a g:Nat} {x:AO} (h:aK S a x g=none):g≠a∧S g=none:=by
 by_cases e:g=a
 ·subst e;rw[aA] at h;cases h
 ·rw[aC e] at h;exact⟨e,h⟩
theorem kP {A B B':aD} {g:Nat} {r:AO} (h:B g=none) (h':B' g=none):jD (aK A g r) B B'=aK (jD A B B') g r:=by
 funext x
 by_cases e:x=g
 ·subst e;rw[aA];simp[jD,h,h',aA]
 ·rw[aC e];simp[jD,aC e]
def eKn (w:aW) (n:ByteArray):List PV:=match w.classes[(mZ w.classes n).getD 0]?,w.defs[(mZ w.classes n).getD 0]?,w.versions[(mZ w.classes n).getD 0]? with
 | some c,some d,some v=>eK d c v
 | _,_,_=>[]
structure YC {σ τ:Type} (w:aW) (q:uU) (bv bi i:Nat) (go:Nat) (ACC:σ→aD) (ACY:τ→aD) (stp:σ→ByteArray→σ ⊕ τ) (l:List ByteArray):Prop where
 y:∀ x n,n∈l→YFn PP go [.agg (eKn w n)] (ACC x) (SumR ACC ACY (.bool true) (.bool false) (stp x n))
 rc:∀ x,∃ st pd fn t ps asg bd d,ACC x go=some (.loop st pd fn t ps asg bd d)
 dom:∀ x x' g,ACC x g=none→ACC x' g=none
 domy:∀ x y g,ACC x g=none→ACY y g=none
 v:∀ x,HasV w q (ACC x)
 bv:∀ x,ACC x bv=some (.row 0 1 0 [[vp q]])
 bi:∀ x,ACC x bi=some (.row 0 1 0 [[.int .i64 (i:Nat)]])
theorem rf_fam {σ τ:Type} {P:Program} {fn:FuncId} {gd gl f:Nat} {t0:List PV} {ps:Array Tmp} {asg bd:Code} {Q:bQ} {D:List DA} {args:List PV} {S:aD} (A:σ→aD) (AY:τ→aD) (x0:σ) (res:σ ⊕ τ)
    (hS:bV S (A x0)) (hgd:S gd=none) (hgl:S gl=none) (hne:gd≠gl) (dom:∀ x g,A x0 g=none→A x g=none) (domy:∀ y g,A x0 g=none→AY y g=none)
    (hcall:Fn P f args (aK (A x0) gl (.loop .ready none fn t0 ps asg bd gd)) (SumR (fun x=>aK (A x) gl (.loop .ready none fn t0 ps asg bd gd)) (fun y=>aK (AY y) gl (.loop .done (some .ret) fn t0 ps asg bd gd)) (.tup []) (.tup []) res))
    (hret:∀ x,res=.inl x→Q .normal t0 (aK (A x) gd .dfr) (.mark gd::D))
    (hstop:∀ y,res=.inr y→T P none .ret Q t0 (aK (AY y) gd .dfr) (.mark gd::D)) :
    ∃ S1 R,Fn P f args S1 R∧bV (aK (aK S gd .dfr) gl (.loop .ready none fn t0 ps asg bd gd)) S1 ∧
      ∀ o S',R o S'→(∀ g,(S' g).isSome=true→(S1 g).isSome=true∨aK (aK S gd .dfr) gl (.loop .ready none fn t0 ps asg bd gd) g=none) →
        rfX P Q t0 (jD (aK (aK S gd .dfr) gl (.loop .ready none fn t0 ps asg bd gd)) S1 S') gl gd D o:=by
  have a0:∀ g,S g=none→A x0 g=none:=fun g hg=>by
    cases e:A x0 g with
    | none=>rfl
    | some y=>rw[hS g y e] at hg;cases hg
  refine⟨_,_,hcall,?_,?_⟩
  · intro g x hx
    by_cases e:g=gl
    · subst e;rw[aA] at hx ⊢;exact hx
    · rw[aC e] at hx ⊢
      have hg:g≠gd:=by rintro rfl;rw[a0 g hgd] at hx;cases hx
      rw[aC hg];exact hS g x hx
  · have key:∀ (B:aD) (r:AO),B gd=none→B gl=none→bV (aK (jD (aK (aK S gd .dfr) gl (.loop .ready none fn t0 ps asg bd gd)) (aK (A x0) gl (.loop .ready none fn t0 ps asg bd gd)) (aK B gl r)) gl (.loop .exhausted none fn t0 ps asg bd gd)) (aK B gd .dfr) ∧
        bV (aK (jD (aK (aK S gd .dfr) gl (.loop .ready none fn t0 ps asg bd gd)) (aK (A x0) gl (.loop .ready none fn t0 ps asg bd gd)) (aK B gl r)) gl (.loop .exhausted (some .ret) fn t0 ps asg bd gd)) (aK B gd .dfr):=fun B r hB1 hB2=>by
      have k2:∀ z,bV (aK (jD (aK (aK S gd .dfr) gl (.loop .ready none fn t0 ps asg bd gd)) (aK (A x0) gl (.loop .ready none fn t0 ps asg bd gd)) (aK B gl r)) gl z) (aK B gd .dfr):=fun z g x hx=>by
        by_cases e:g=gd
        · subst e
          rw[aA] at hx
          rw[aC hne,qS (by rw[aC hne];exact hB1) (by rw[aC hne];exact a0 g hgd),aC hne,aA]
          exact hx
        · rw[aC e] at hx
          have e2:g≠gl:=by rintro rfl;rw[hB2] at hx;cases hx
          rw[aC e2]
          exact dN (by rw[aC e2];exact hx)
      exact⟨k2 _,k2 _⟩
    cases res with
    | inl x=>
      rintro o S' ⟨rfl,rfl⟩ -
      refine⟨_,_,_,_,_,_,_,_,_,dN (aA _ _ _),by simp,(key (A x) _ (dom x gd (a0 _ hgd)) (dom x gl (a0 _ hgl))).1,hret x rfl⟩
    | inr y=>
      rintro o S' ⟨rfl,rfl⟩ -
      refine⟨_,_,_,_,_,_,_,_,_,dN (aA _ _ _),by simp,(key (AY y) _ (domy y gd (a0 _ hgd)) (domy y gl (a0 _ hgl))).2,hstop y rfl⟩
theorem gens_spec {σ τ:Type} {bv bi i go:Nat} {ACC:σ→aD} {ACY:τ→aD} {stp:σ→ByteArray→σ ⊕ τ} (h1:i<w.classes.length) (h2:w.defs.length=w.classes.length) (h3:w.versions.length=w.classes.length)
  (Y:YC w q bv bi i go ACC ACY stp w.classes[i].cpl) (x0:σ):Fn PP 145 [.yld go,.ptr bv 0 0 0 1,.ptr bi 0 0 0 1] (ACC x0) (SumR ACC ACY (.tup []) (.tup []) (qU stp x0 w.classes[i].cpl.reverse)):=by
 refine tW aI Tryz.func145 rfl (by rfl) (by rfl) ?_
 obtain⟨kw,km,kv⟩:=Y.v x0
 have kbv:=Y.bv x0
 have kbi:=Y.bi x0
 obtain⟨st,pd,fn,t,ps,asg,bd,d,hr⟩:=Y.rc x0
 refine aF ?_;intros
 refine And.intro (show lH _ _ from dG hr rfl) (aG fun b3 h3'=>?_)
 have kw:=aE (y:=.row 0 [PV.yld go].length 0 [[PV.yld go]]) kw h3'
 have km:=aE (y:=.row 0 [PV.yld go].length 0 [[PV.yld go]]) km h3'
 have kv:=aE (y:=.row 0 [PV.yld go].length 0 [[PV.yld go]]) kv h3'
 have kbv:=aE (y:=.row 0 [PV.yld go].length 0 [[PV.yld go]]) kbv h3'
 have kbi:=aE (y:=.row 0 [PV.yld go].length 0 [[PV.yld go]]) kbi h3'
 refine aF ?_;intros
 refine aU (aT aI (by rfl) 11 (by kernel_rfl) ?_)
 refine aF ?_;intros
 refine aV (back_spec w.classes[i].cpl) (aM _) ?_
 rintro o S' ⟨bb,rfl,rfl⟩ hdom
 unfold dR
 rw[xM,yL]
 have hbb:aK (ACC x0) b3 (.row 0 [PV.yld go].length 0 [[PV.yld go]]) bb=none:=by
  rcases hdom bb (by rw[aA];rfl) with h | h
  ·cases h
  ·exact h
 refine aF ?_;intros
 refine aU (pV ?_)
 conv=>whnf
 intro fn gd gl hgd hgl hne
 have nb3:bb≠b3:=aL (aA _ _ _) hbb
 have hbb0:ACC x0 bb=none:=by rw[aC nb3] at hbb;exact hbb
 have l3:gl≠b3∧ACC x0 gl=none∧gl≠bb:=by
  obtain⟨e1,h⟩:=fR hgl
  obtain⟨e2,h⟩:=fR h
  exact⟨e2,h,e1⟩
 have d3:gd≠b3∧ACC x0 gd=none∧gd≠bb:=by
  obtain⟨e1,h⟩:=fR hgd
  obtain⟨e2,h⟩:=fR h
  exact⟨e2,h,e1⟩
 have f1:∀ x,ACC x b3=none:=fun x=>Y.dom x0 x b3 h3'
 have f2:∀ x,ACC x bb=none:=fun x=>Y.dom x0 x bb hbb0
 have f3:∀ x,ACC x gl=none:=fun x=>Y.dom x0 x gl l3.2.1
 have f4:∀ x,ACC x gd=none:=fun x=>Y.dom x0 x gd d3.2.1
 have y1:∀ x,ACY x b3=none:=fun x=>Y.domy x0 x b3 h3'
 have y2:∀ x,ACY x bb=none:=fun x=>Y.domy x0 x bb hbb0
 have y3:∀ x,ACY x gl=none:=fun x=>Y.domy x0 x gl l3.2.1
 have y4:∀ x,ACY x gd=none:=fun x=>Y.domy x0 x gd d3.2.1
 have nz:∀ {x g y},ACC x g=some y→g≠b3∧g≠bb∧g≠gl:=fun {x g y} h=>⟨fun e=>(by rw[e,f1] at h;cases h),fun e=>(by rw[e,f2] at h;cases h),fun e=>(by rw[e,f3] at h;cases h)⟩
 have keep:∀ x g y r,ACC x g=some y→aK (aK (aK (ACC x) b3 (.row 0 1 0 [[PV.yld go]])) bb (.row 0 1 0 [[LS w.classes[i].cpl]])) gl r g=some y:=fun x g y r h=>by
  obtain⟨e1,e2,e3⟩:=nz h
  rw[aC e3,aC e2,aC e1];exact h
 refine rf_fam (fun x=>aK (aK (ACC x) b3 (.row 0 1 0 [[PV.yld go]])) bb (.row 0 1 0 [[LS w.classes[i].cpl]])) (fun y=>aK (aK (ACY y) b3 (.row 0 1 0 [[PV.yld go]])) bb (.row 0 1 0 [[LS w.classes[i].cpl]])) x0 (qU stp x0 w.classes[i].cpl.reverse) (aB _) hgd hgl hne ?_ ?_ ?_ ?_ ?_
 ·intro x g hg
  obtain⟨e1,hg⟩:=fR hg
  obtain⟨e2,hg⟩:=fR hg
  rw[aC e1,aC e2];exact Y.dom x0 x g hg
 ·intro y g hg
  obtain⟨e1,hg⟩:=fR hg
  obtain⟨e2,hg⟩:=fR hg
  rw[aC e1,aC e2];exact Y.domy x0 y g hg
 ·generalize hR0:AO.loop .ready none fn _ _ _ _ gd=rec0
  generalize hRd:AO.loop .done (some .ret) fn _ _ _ _ gd=recd
  refine backs_spec (ACC:=fun x=>aK (aK (aK (ACC x) b3 (.row 0 1 0 [[PV.yld go]])) bb (.row 0 1 0 [[LS w.classes[i].cpl]])) gl rec0) (ACY:=fun y=>aK (aK (aK (ACY y) b3 (.row 0 1 0 [[PV.yld go]])) bb (.row 0 1 0 [[LS w.classes[i].cpl]])) gl recd) (stp:=stp) (l:=w.classes[i].cpl) ?_ bb ?_ x0
  rotate_left
  ·intro x
   rw[aC (Ne.symm l3.2.2),aA]
  refine⟨fun x k s hs=>?_,fun x=>⟨_,_,_,_,_,_,_,_,by rw[aA,← hR0]⟩⟩
  refine xJ (by rw[aA,← hR0]) rfl fun l=>?_
  refine aF ?_;intros
  refine⟨_,_,_,_,_,_,_,by rw[aA,← hR0],?_⟩
  rw[aN]
  generalize hrb:AO.loop .busy none fn _ _ _ _ gd=recb
  have kw:=keep x _ _ recb (Y.v x).kw
  have km:=keep x _ _ recb (Y.v x).km
  have kv:=keep x _ _ recb (Y.v x).kv
  have kbv:=keep x _ _ recb (Y.bv x)
  have kb3:aK (aK (aK (ACC x) b3 (.row 0 1 0 [[PV.yld go]])) bb (.row 0 1 0 [[LS w.classes[i].cpl]])) gl recb b3=some (.row 0 1 0 [[PV.yld go]]):=by rw[aC (Ne.symm l3.1),aC (Ne.symm nb3),aA]
  have hV:HasV w q (aK (aK (aK (ACC x) b3 (.row 0 1 0 [[PV.yld go]])) bb (.row 0 1 0 [[LS w.classes[i].cpl]])) gl recb):=⟨kw,km,kv⟩
  refine aF ?_;intros
  refine aU (aT aI (by rfl) 9 (by kernel_rfl) ?_)
  refine aF ?_;intros
  cases hat:mZ w.classes s with
  | none=>
   have hj:0<w.classes.length:=by omega
   have hkn:eKn w s=eK (w.defs[0]'(by omega)) w.classes[0] (w.versions[0]'(by omega)):=by
    unfold eKn
    rw[hat]
    simp only[Option.getD_some,Option.getD_none]
    rw[List.getElem?_eq_getElem hj,List.getElem?_eq_getElem (by omega:0<w.defs.length),List.getElem?_eq_getElem (by omega:0<w.versions.length)]
   have hy:=Y.y x s hs
   rw[hkn] at hy
   apply Exists.intro;apply And.intro
   ·conv=>whnf
    refine And.intro rfl (jN km (nC hat) ?_)
    conv=>whnf
   refine aF ?_;intros
   apply Exists.intro;apply And.intro
   ·conv=>whnf
    exact⟨_,aB _,tK 0 hj (by omega) (by omega) _ hV⟩
   refine aF ?_;intros
   refine lW hy (fun g y hy=>keep x g y recb hy) ?_
   rintro o S' hR -
   cases e:stp x s with
   | inl x'=>
    rw[e] at hR
    obtain⟨rfl,rfl⟩:=hR
    unfold dR
    rw[kP (f3 x) (f3 x'),kP (f2 x) (f2 x'),kP (f1 x) (f1 x'),cW]
    refine aF ?_;intros
    refine⟨_,_,_,_,_,_,_,_,_,by rw[aA,← hrb],?_,rfl,rfl⟩
    rw[aN,hR0]
    exact aB _
   | inr y=>
    rw[e] at hR
    obtain⟨rfl,rfl⟩:=hR
    unfold dR
    rw[kP (f3 x) (y3 y),kP (f2 x) (y2 y),kP (f1 x) (y1 y),cW]
    refine aF ?_;intros
    refine⟨_,_,_,_,_,_,_,_,_,by rw[aA,← hrb],?_,rfl,rfl⟩
    rw[aN,hRd]
    exact aB _
  | some j=>
   have hj:j<w.classes.length:=(mF hat).1
   have hkn:eKn w s=eK (w.defs[j]'(by omega)) w.classes[j] (w.versions[j]'(by omega)):=by
    unfold eKn
    rw[hat]
    simp only[Option.getD_some,Option.getD_none]
    rw[List.getElem?_eq_getElem hj,List.getElem?_eq_getElem (by omega:j<w.defs.length),List.getElem?_eq_getElem (by omega:j<w.versions.length)]
   have hy:=Y.y x s hs
   rw[hkn] at hy
   apply Exists.intro;apply And.intro
   ·conv=>whnf
    refine And.intro rfl (fV km (nA hat) ?_)
    conv=>whnf
   refine aF ?_;intros
   apply Exists.intro;apply And.intro
   ·conv=>whnf
    exact⟨_,aB _,tK j hj (by omega) (by omega) _ hV⟩
   refine aF ?_;intros
   refine lW hy (fun g y hy=>keep x g y recb hy) ?_
   rintro o S' hR -
   cases e:stp x s with
   | inl x'=>
    rw[e] at hR
    obtain⟨rfl,rfl⟩:=hR
    unfold dR
    rw[kP (f3 x) (f3 x'),kP (f2 x) (f2 x'),kP (f1 x) (f1 x'),cW]
    refine aF ?_;intros
    refine⟨_,_,_,_,_,_,_,_,_,by rw[aA,← hrb],?_,rfl,rfl⟩
    rw[aN,hR0]
    exact aB _
   | inr y=>
    rw[e] at hR
    obtain⟨rfl,rfl⟩:=hR
    unfold dR
    rw[kP (f3 x) (y3 y),kP (f2 x) (y2 y),kP (f1 x) (y1 y),cW]
    refine aF ?_;intros
    refine⟨_,_,_,_,_,_,_,_,_,by rw[aA,← hrb],?_,rfl,rfl⟩
    rw[aN,hRd]
    exact aB _
 ·intro x hx
  refine aF ?_;intros
  refine And.intro (by unfold pG;exact aA _ _ _) ?_
  refine aF ?_;intros
  refine⟨ACC x,fun g z hz=>?_,by rw[hx];exact⟨rfl,rfl⟩⟩
  have e1:g≠gd:=by rintro rfl;rw[f4] at hz;cases hz
  have e2:g≠bb:=by rintro rfl;rw[f2] at hz;cases hz
  have e3:g≠b3:=by rintro rfl;rw[f1] at hz;cases hz
  unfold iZ
  rw[if_neg e1,aC e1,aC e2,aC e3]
  exact hz
 ·intro y hy
  refine aF ?_;intros
  refine And.intro (by unfold pG;exact aA _ _ _) ?_
  refine aF ?_;intros
  refine⟨ACY y,fun g z hz=>?_,by rw[hy];exact⟨rfl,rfl⟩⟩
  have e1:g≠gd:=by rintro rfl;rw[y4] at hz;cases hz
  have e2:g≠bb:=by rintro rfl;rw[y2] at hz;cases hz
  have e3:g≠b3:=by rintro rfl;rw[y1] at hz;cases hz
  unfold iZ
  rw[if_neg e1,aC e1,aC e2,aC e3]
  exact hz
end
end Go.Proofs.YtbojdflgjpjbiaaGreat.L
