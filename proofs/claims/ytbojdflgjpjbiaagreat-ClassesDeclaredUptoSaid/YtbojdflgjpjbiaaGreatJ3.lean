/- A logic over the machine, and what the functions of the seat come to: part 3. No claim stands here; the theorems are used by the row. -/
import Derived.Test.YtbojdflgjpjbiaaGreatJ2
import Derived.OrdersIn
import Derived.ScopeJumps
import Derived.RecoverIn
set_option linter.unusedSimpArgs false
set_option linter.unnecessarySimpa false
set_option linter.unusedVariables false
namespace Go.Proofs.YtbojdflgjpjbiaaGreat.L
open Go
section
variable {P:Program} {G:List TI} {r:Option Nat}
def Qt (P:Program) (r:Option Nat) (o:Oper) (p:PV) (t:List PV) (S:aD) (D:List DA):Prop:=
 ∀ a w fr m,kZ a w fr m t S D→∀ next:Act→World→Prop,(∀ v w' fr' m',Rep w' fr' m' v p→RelS w' fr' m' S→bZ w fr m S w' fr' m' S→next (a.put o.dst v) w') →
  o.uponIn (FR r) 0 P a next (fun _ _ _=>False) ((o.semAt (FR r).round a.eval).run P w)
theorem Qt_pure (hG:jI P G) {o:Oper} {p:PV} {t:List PV} {S:aD} {D:List DA} (hq:kV o.op=true) (h:nG G o.op t S fun q=>q=p):Qt P r o p t S D:=by
 intro a w fr m hs next hn
 obtain⟨v,q,h1,h2,rfl⟩:=xO (w:=w) (fr:=fr) (m:=m) hG hs h
 rw[rN hq,h1]
 exact hn v w fr m h2 hs.rel (.refl _ _ _ _)
theorem Qt_call {o:Oper} {p:PV} {t:List PV} {S:aD} {D:List DA} {f:Operand} {args:Array Operand} {at':Array Nat} (ho:o.op=.call { callee:=.value f,args:=args,argTypes:=at' })
  (h:iP t f fun c=>vB t args.toList fun vs=>match c with
   | .fn (.func n) first cap=>∃ S1,bV S S1∧Fn P n (first++vs++cap) S1 fun o S'=>o=.ret p∧S'=S1
   | _=>False):Qt P r o p t S D:=by
 intro a w fr m hs next hn
 obtain⟨q,hq,h⟩:=bP hs h
 obtain⟨ps,hps,h⟩:=yR hs h
 split at h
 ·rename_i n first cap
  revert hq;generalize he:a.eval f=vf;intro hq
  cases hq with
  | fn _ fa fc _ _ h1 h2 h3 h4=>
   obtain⟨S1,hsub,hc,hf⟩:=h
   rw[fQ (by rw[ho];simp),call_run ho he hc]
   refine⟨(fun h=>by cases h),callsIn_wide.2 ((hf w fr m _ (hs.rel.weak hsub) (sU ⟨h1,h3⟩ hps ⟨h2,h4⟩)).mono ?_)⟩
   rintro e w' ⟨out,S',fr',m',⟨rfl,hSS⟩,h5,h6,h7⟩
   rw[hSS] at h6 h7
   obtain⟨g1,g2,_⟩:=sZ hs.rel hsub h6 h7
   have hm:jD S S1 S1=S:=by
    funext g
    simp only[jD]
    cases e1:S1 g with
    | none=>simp
    | some x=>simp[hsub g x e1]
   rw[hm] at g1 g2
   cases e with
   | returned v=>exact hn v w' fr' m' h5 g1 g2
   | panicked ch=>exact (by unfold nQ at h5;split at h5 <;> simp_all)
   | outgrown=>exact h5.elim
 ·exact h.elim
def yS:List Operand→List Nat
 | []=>[]
 | .tmp t::l=>t::yS l
 | _::l=>yS l
def guardTmp (ops:Array Oper) (o:Oper):List Nat:=
 match o.guard with
 | some (j,_)=>(match jJ ops.toList j with | some oj=>oj.dst.toList | none=>[])
 | none=>[]
def fK (ops:Array Oper) (o:Oper):List Nat:=yS o.op.operands.toList++guardTmp ops o
def dV (l:List Nat):Nat→List PV→List PV
 | _,[]=>[]
 | n,x::t=>(match l.elem n with | true=>x | false=>.any)::dV l (n+1) t
theorem maskT_len (l:List Nat):∀ (n:Nat) (t:List PV),(dV l n t).length=t.length
 | _,[]=>rfl
 | n,x::t=>by simp[dV,maskT_len l (n+1) t]
theorem uP (l:List Nat):∀ (n:Nat) (t:List PV) (i:Nat),getT (dV l n t) i=if l.elem (n+i)=true then getT t i else .any
 | _,[],i=>by simp[dV,getT]
 | n,x::t,0=>by simp only[dV,getT,Nat.add_zero];cases l.elem n <;> simp
 | n,x::t,i+1=>by
  simp only[dV,getT]
  rw[uP l (n+1) t i,show n+1+i=n+(i+1) by omega]
theorem fL:∀ {l l':List PV},l.length=l'.length→(∀ i,getT l i=getT l' i)→l=l'
 | [],[],_,_=>rfl
 | x::l,y::l',hl,h=>by
  have h0:=h 0
  simp only[getT] at h0
  rw[h0,fL (by simpa using hl) (fun i=>h (i+1))]
 | [],_::_,hl,_=>by simp at hl
 | _::_,[],hl,_=>by simp at hl
theorem rP {l:List Nat} {t t':List PV} (hl:t.length=t'.length) (h:∀ i,l.elem i=true→getT t i=getT t' i):dV l 0 t=dV l 0 t':=by
 refine fL (by simp[maskT_len,hl]) fun i=>?_
 rw[uP,uP,Nat.zero_add]
 split
 ·exact h i (by assumption)
 ·rfl
theorem tN (l:List Nat):∀ (n:Nat) (t:List PV),yH t (dV l n t)
 | _,[]=>trivial
 | n,x::t=>by
  simp only[dV]
  cases l.elem n with
  | true=>cases x <;> first | exact tN l (n+1) t | exact⟨rfl,tN l (n+1) t⟩
  | false=>exact tN l (n+1) t
theorem tQ (t:List PV) (d:Option Nat) (p:PV):(jH t d p).length=t.length:=by cases d <;> simp[jH]
theorem Qt_use {o:Oper} {p:PV} {t:List PV} {S:aD} {D:List DA} {l:List Nat} (h:Qt P r o p (dV l 0 t) S D):Qt P r o p t S D:=
 fun a w fr m hs=>h a w fr m (hs.weak (tN l 0 t) (aB S))
def StepD (P:Program) (r:Option Nat) (ops:Array Oper) (S:aD) (D:List DA) (ts:Nat→List PV) (ps:Nat→PV) (i:Nat):Prop:=
 ∃ o,ops[i]?=some o∧ts (i+1)=jH (ts i) o.dst (ps i) ∧
  match o.guard with
  | none=>Qt P r o (ps i) (dV (fK ops o) 0 (ts i)) S D
  | some (j,b)=>∃ oj d,ops[j]?=some oj∧oj.dst=some d∧((getT (ts i) d=.bool b∧Qt P r o (ps i) (dV (fK ops o) 0 (ts i)) S D)∨((getT (ts i) d=.bool (!b)∨getT (ts i) d=.tup [])∧ps i=.tup []))
def prs (ops:Array Oper):Nat→List Oper→List (List Nat)→List (List Nat)
 | _,[],acc=>acc
 | j,o::l,acc=>prs ops (j+1) l (acc++[(o.after.toList.filter fun e=>Region.binds .any e && Nat.blt e.on j).flatMap fun e=>e.on::acc.getD e.on []])
def lR (ops:Array Oper) (i j:Oper):Bool:=
 (match i.dst with | some u=>(fK ops j).elem u || j.dst == some u | none=>false) || (match j.dst with | some u=>(fK ops i).elem u | none=>false)
def xR (j:Nat) (e:Edge):Bool:=!Region.binds .any e || Nat.blt e.on j
def drawPair (k:Nat) (fs:List Nat) (ops:Array Oper) (pr:List (List Nat)) (i j:Nat):Bool:=
 match ops[i]?,ops[j]? with
 | some oi,some oj=>fs.elem i || fs.elem j || (!(lR ops oi oj) || (pr.getD j []).elem i) && (Nat.blt j k || (pr.getD j []).elem i)
 | _,_=>false
def oH (ops:Array Oper) (j:Nat):Bool:=
 match ops[j]? with
 | some oj=>oj.after.toList.all (xR j)
 | none=>false
def rT (k:Nat) (fs:List Nat) (ops:Array Oper):Bool:=
 Nat.ble k ops.size && fs.all (fun i=>Nat.blt i k) && ((List.range ops.size).all fun j=>oH ops j && (List.range j).all fun i=>drawPair k fs ops (prs ops 0 ops.toList []) i j)
def gZ (ops:Array Oper) (listed:Array Bool):Prop:=∀ j oj,ops[j]?=some oj→listed.getD j false=true→∀ e∈oj.after,Region.binds .any e=true→listed.getD e.on false=true
theorem prs_spec {ops:Array Oper} {listed:Array Bool} (hc:gZ ops listed):∀ (l:List Oper) (j:Nat) (acc:List (List Nat)),acc.length=j→l=ops.toList.drop j →
  (∀ n,n<j→listed.getD n false=true→∀ i∈acc.getD n [],listed.getD i false=true)→∀ n,listed.getD n false=true→∀ i∈(prs ops j l acc).getD n [],listed.getD i false=true
 | [],j,acc,hl,hd,h,n,hn,i,hi=>by
  by_cases hlt:n<j
  ·exact h n hlt hn i hi
  ·simp only[prs] at hi
   rw[List.getD_eq_getElem?_getD,List.getElem?_eq_none (by omega)] at hi
   simp at hi
 | o::l,j,acc,hl,hd,h,n,hn,i,hi=>by
  have ho:ops[j]?=some o:=by
   have:(ops.toList.drop j)[0]?=some o:=by rw[← hd];rfl
   simpa using this
  refine prs_spec hc l (j+1) _ (by simp[hl]) (by have:=congrArg List.tail hd;simpa using this) ?_ n hn i hi
  intro n hn' hln i hi
  by_cases hnj:n=j
  ·subst hnj
   rw[List.getD_eq_getElem?_getD,List.getElem?_append_right (by omega)] at hi
   simp only[hl,Nat.sub_self,List.getElem?_cons_zero,Option.getD_some,List.mem_flatMap,List.mem_filter,Bool.and_eq_true] at hi
   obtain⟨e,⟨he,hb,hlt⟩,hi⟩:=hi
   have h1:=hc n o ho hln e (Array.mem_toList_iff.1 he) hb
   rcases List.mem_cons.1 hi with rfl | hi
   ·exact h1
   ·exact h e.on (by have:=Nat.le_of_ble_eq_true hlt;omega) h1 i hi
  ·have hnj':n<j:=by omega
   have h2:(acc++[(o.after.toList.filter fun e=>Region.binds .any e && Nat.blt e.on j).flatMap fun e=>e.on::acc.getD e.on []]).getD n []=acc.getD n []:=by
    rw[List.getD_eq_getElem?_getD,List.getD_eq_getElem?_getD,List.getElem?_append_left (by omega)]
   rw[h2] at hi
   exact h n hnj' hln i hi
theorem tV {ops:Array Oper} {listed:Array Bool} (hc:gZ ops listed) {j i:Nat} (hj:listed.getD j false=true) (hi:((prs ops 0 ops.toList []).getD j []).elem i=true):listed.getD i false=true:=
 prs_spec hc ops.toList 0 [] rfl (by simp) (fun n hn=>absurd hn (by simp)) j hj i (by simpa using hi)
section
variable {k:Nat} {fs:List Nat} {ops:Array Oper} (hk:rT k fs ops=true)
include hk
theorem jV {i j:Nat} {oi oj:Oper} (hfi:fs.elem i=false) (hfj:fs.elem j=false) (hij:i<j) (hoi:ops[i]?=some oi) (hoj:ops[j]?=some oj) {listed:Array Bool} (hc:gZ ops listed) (hd:listed.getD j false=true) :
  (lR ops oi oj=true→listed.getD i false=true)∧(k≤j→listed.getD i false=true):=by
 have hj:j<ops.size:=(Array.getElem?_eq_some_iff.1 hoj).1
 have h0:=List.all_eq_true.1 (Bool.and_eq_true_iff.1 hk).2 j (List.mem_range.2 hj)
 have h1:=List.all_eq_true.1 (Bool.and_eq_true_iff.1 h0).2 i (List.mem_range.2 hij)
 unfold drawPair at h1
 rw[hoi,hoj] at h1
 dsimp only at h1
 rw[hfi,hfj,Bool.false_or,Bool.false_or] at h1
 obtain⟨h2,h3⟩:=Bool.and_eq_true_iff.1 h1
 refine⟨fun hcl=>?_,fun hkj=>?_⟩
 ·rw[hcl,Bool.not_true,Bool.false_or] at h2
  exact tV hc hd h2
 ·rcases Bool.or_eq_true_iff.1 h3 with h2 | h2
  ·have:=Nat.le_of_ble_eq_true h2;omega
  ·exact tV hc hd h2
theorem uH:k≤ops.size:=Nat.le_of_ble_eq_true (Bool.and_eq_true_iff.1 (Bool.and_eq_true_iff.1 hk).1).1
theorem yY {i:Nat} (hi:k≤i):fs.elem i=false:=by
 cases e:fs.elem i with
 | false=>rfl
 | true=>
  have:=List.all_eq_true.1 (Bool.and_eq_true_iff.1 (Bool.and_eq_true_iff.1 hk).1).2 i (by simpa using e)
  have:=Nat.le_of_ble_eq_true this
  omega
theorem drawOk_lt {j:Nat} {oj:Oper} (hoj:ops[j]?=some oj) {e:Edge} (he:e∈oj.after) (hb:Region.binds .any e=true):e.on<j:=by
 have hj:j<ops.size:=(Array.getElem?_eq_some_iff.1 hoj).1
 have h0:=List.all_eq_true.1 (Bool.and_eq_true_iff.1 hk).2 j (List.mem_range.2 hj)
 have h1:=(Bool.and_eq_true_iff.1 h0).1
 unfold oH at h1
 rw[hoj] at h1
 have h2:=List.all_eq_true.1 h1 e (Array.mem_toList_iff.2 he)
 unfold xR at h2
 rw[hb,Bool.not_true,Bool.false_or] at h2
 exact Nat.le_of_ble_eq_true h2
end
def bI (ops:Array Oper) (ps:Nat→PV) (f:Nat→Bool) (t:List PV):Nat→List PV
 | 0=>t
 | k+1=>if f k then jH (bI ops ps f t k) ((ops[k]?).bind (·.dst)) (ps k) else bI ops ps f t k
theorem bG {ops:Array Oper} {ps:Nat→PV} {f:Nat→Bool} {t:List PV}:∀ k,(bI ops ps f t k).length=t.length
 | 0=>rfl
 | k+1=>by simp only[bI];split <;> simp[tQ,bG k]
theorem oZ {t:List PV} {d:Option Nat} {p:PV} {u:Nat} (h:d≠some u):getT (jH t d p) u=getT t u:=by
 cases d with
 | none=>rfl
 | some d=>
  simp only[jH,fU]
  rw[if_neg]
  rintro⟨rfl,_⟩;exact h rfl
theorem tP {t t':List PV} {d:Option Nat} {p:PV} {u:Nat} (hl:t.length=t'.length) (h:getT t u=getT t' u):getT (jH t d p) u=getT (jH t' d p) u:=by
 cases d with
 | none=>exact h
 | some d=>simp only[jH,fU,hl,h]
theorem iF {ops:Array Oper} {ps:Nat→PV} {f f':Nat→Bool} {t:List PV} {u:Nat}:∀ k,(∀ j,j<k→(ops[j]?).bind (·.dst)=some u→f j=f' j)→getT (bI ops ps f t k) u=getT (bI ops ps f' t k) u
 | 0,_=>rfl
 | k+1,h=>by
  have ih:=iF k (fun j hj=>h j (by omega)) (f:=f) (f':=f') (ps:=ps) (t:=t)
  simp only[bI]
  by_cases hd:(ops[k]?).bind (·.dst)=some u
  ·have:=h k (by omega) hd
   rw[this]
   split
   ·exact tP (by rw[bG,bG]) ih
   ·exact ih
  ·have e1:∀ g:Nat→Bool,getT (if g k then jH (bI ops ps g t k) ((ops[k]?).bind (·.dst)) (ps k) else bI ops ps g t k) u=getT (bI ops ps g t k) u:=by
    intro g;split
    ·exact oZ hd
    ·rfl
   rw[e1 f,e1 f',ih]
theorem pM {ops:Array Oper} {ps:Nat→PV} {t:List PV} {q:Nat→Bool} {i:Nat}:∀ k,i≤k→bI ops ps (fun j=>decide (j<i) && q j) t k=bI ops ps q t i
  | 0,h=>by
     have:i=0:=by omega
     subst this;rfl
  | k+1,h=>by
    by_cases e:i=k+1
    · subst e
      have:∀ n,n≤k+1→bI ops ps (fun j=>decide (j<k+1) && q j) t n=bI ops ps q t n:=by
        intro n
        induction n with
        | zero=>intro _;rfl
        | succ n ih=>
          intro hn
          have e:(decide (n<k+1) && q n)=q n:=by rw[decide_eq_true (by omega)];simp
          simp only[bI,e,ih (by omega)]
      exact this _ (Nat.le_refl _)
    · simp only[bI]
      rw[if_neg (by simp;omega)]
      exact pM k (by omega)
theorem iR:∀ (l:List PV) (u:Nat),¬ u<l.length→getT l u=.any
 | [],_,_=>rfl
 | _::_,0,h=>absurd (by simp) h
 | _::l,u+1,h=>iR l u (by simpa using h)
theorem oY {ops:Array Oper} {ps:Nat→PV} {f:Nat→Bool} {t:List PV} {i u:Nat} (hf:f i=true) (hd:(ops[i]?).bind (·.dst)=some u):∀ k,i<k→(∀ j,i<j→j<k→(ops[j]?).bind (·.dst)=some u→f j=false) →
  getT (bI ops ps f t k) u=if u<t.length then ps i else getT t u
 | 0,h,_=>absurd h (by simp)
 | k+1,h,hj=>by
  simp only[bI]
  by_cases e:i=k
  ·subst e
   rw[if_pos hf,hd]
   simp only[jH,fU,bG,true_and]
   split
   ·rfl
   ·rename_i hu
    rw[iR _ _ (by rw[bG];exact hu),iR _ _ hu]
  ·have ih:=oY hf hd k (by omega) (fun j h1 h2=>hj j h1 (by omega)) (t:=t) (ps:=ps)
   split
   ·rename_i hfk
    have hdk:(ops[k]?).bind (·.dst)≠some u:=fun h'=>by have:=hj k (by omega) (by omega) h';rw[hfk] at this;cases this
    rw[oZ hdk];exact ih
   ·exact ih
theorem bD {listed:Array Bool} {i:Nat} (h:i<listed.size) {d:Bool}:(listed.setIfInBounds i true).getD i d=true:=by
 simp[Array.getD_eq_getD_getElem?,Array.getElem?_setIfInBounds,h]
def fI (n:Nat) (listed:Array Bool):Nat:=((List.range n).filter fun i=>!listed.getD i true).length
theorem mN {n i:Nat} {listed:Array Bool} (hn:listed.size=n) (hi:i<n) (hu:listed.getD i true=false):fI n (listed.setIfInBounds i true)+1≤fI n listed:=by
 unfold fI
 have key:∀ (l:List Nat),l.Nodup→i∈l→((l.filter fun j=>!(listed.setIfInBounds i true).getD j true).length+1≤(l.filter fun j=>!listed.getD j true).length):=by
  intro l
  induction l with
  | nil=>intro _ h;simp at h
  | cons x l ih=>
   intro hnd hm
   rw[List.nodup_cons] at hnd
   by_cases hx:x=i
   ·subst hx
    have h1:(listed.setIfInBounds x true).getD x true=true:=bD (by omega)
    have h2:(l.filter fun j=>!(listed.setIfInBounds x true).getD j true)=(l.filter fun j=>!listed.getD j true):=by
     apply List.filter_congr
     intro j hj
     rw[getD_set_ne true (by rintro rfl;exact hnd.1 hj)]
    simp only[List.filter_cons,h1,hu,h2,Bool.not_true,Bool.not_false,Bool.false_eq_true,if_true,if_false,List.length_cons]
    exact Nat.le_refl _
   ·have h1:(listed.setIfInBounds i true).getD x true=listed.getD x true:=getD_set_ne true (Ne.symm hx)
    have h2:=ih hnd.2 (by simpa[Ne.symm hx] using hm)
    simp only[List.filter_cons,h1]
    split
    ·simp only[List.length_cons];omega
    ·exact h2
 exact key _ List.nodup_range (List.mem_range.2 hi)
theorem oO {n i:Nat} {listed:Array Bool} (hi:i<n) (hu:listed.getD i true=false):0<fI n listed:=
 List.length_pos_of_mem (List.mem_filter.2 ⟨List.mem_range.2 hi,by rw[hu];rfl⟩)
theorem cY {listed:Array Bool} {i:Nat} (hi:i<listed.size) (d d':Bool):listed.getD i d=listed.getD i d':=by
 simp[Array.getD_eq_getD_getElem?,hi]
theorem gZ.set {ops:Array Oper} {listed:Array Bool} {i:Nat} (hc:gZ ops listed) (hi:i∈Region.ready .any ops listed):gZ ops (listed.setIfInBounds i true):=by
 obtain⟨hu,o,ho,hall⟩:=mem_ready.1 hi
 intro j oj hoj hj e he hb
 refine getD_set_true ?_
 by_cases hij:j=i
 ·subst hij
  rw[ho] at hoj;cases hoj
  exact hall e he hb
 ·rw[getD_set_ne false (Ne.symm hij)] at hj
  exact hc j oj hoj hj e he hb
section
variable {k:Nat} {fs:List Nat} {ops:Array Oper} (hk:rT k fs ops=true)
include hk
theorem vW {listed:Array Bool} (hs:listed.size=ops.size):∀ i,i<ops.size→listed.getD i false=false→∃ j,j≤i∧j∈Region.ready .any ops listed:=by
 intro i
 induction i using Nat.strongRecOn with
 | _ i ih=>
  intro hi hu
  have ho:ops[i]?=some ops[i]:=by simp[hi]
  by_cases h:∀ e∈ops[i].after,Region.binds .any e=true→listed.getD e.on false=true
  ·exact⟨i,Nat.le_refl _,mem_ready.2 ⟨(cY (by omega) _ _).trans hu,_,ho,h⟩⟩
  ·obtain⟨e,h⟩:=Classical.not_forall.1 h
   obtain⟨he,h⟩:=Classical.not_imp.1 h
   obtain⟨hb,hn⟩:=Classical.not_imp.1 h
   have hlt:=drawOk_lt hk ho he hb
   obtain⟨j,h1,h2⟩:=ih e.on hlt (by omega) (by simpa using hn)
   exact⟨j,by omega,h2⟩
theorem any_tail {F:Fence} {n:Nat} {R:Exit→Act→World→Prop}:∀ (fuel j:Nat) (listed:Array Bool) (a:Act) (w:World),listed.size=ops.size→gZ ops listed→(∀ i,i<ops.size→listed.getD i false=decide (i<j))→k≤j→j≤ops.size →
  fI ops.size listed≤fuel→wpOpsIn F n P ops R (List.range' j (ops.size - j)) a w→wpAnyIn F n P .any ops R fuel listed a w:=by
 intro fuel
 induction fuel with
 | zero=>
  intro j listed a w hs hc hd hkj hj hu h
  by_cases e:j=ops.size
  ·subst e
   refine wpAnyIn_done ?_ (by simpa[wpOpsIn] using h) 0
   refine List.eq_nil_iff_forall_not_mem.2 fun i hi=>?_
   obtain⟨h1,o,ho,_⟩:=mem_ready.1 hi
   have hlt:i<ops.size:=(Array.getElem?_eq_some_iff.1 ho).1
   have:=hd i hlt
   rw[cY (by omega) false true,h1] at this
   simp[hlt] at this
  ·have:=oO (n:=ops.size) (i:=j) (listed:=listed) (by omega) (by rw[cY (by omega) true false,hd j (by omega)];simp)
   omega
 | succ fuel ih=>
  intro j listed a w hs hc hd hkj hj hu h
  by_cases e:j=ops.size
  ·subst e
   refine wpAnyIn_done ?_ (by simpa[wpOpsIn] using h) _
   refine List.eq_nil_iff_forall_not_mem.2 fun i hi=>?_
   obtain⟨h1,o,ho,_⟩:=mem_ready.1 hi
   have hlt:i<ops.size:=(Array.getElem?_eq_some_iff.1 ho).1
   have:=hd i hlt
   rw[cY (by omega) false true,h1] at this
   simp[hlt] at this
  ·have hlt:j<ops.size:=by omega
   have hju:listed.getD j false=false:=by rw[hd j hlt];simp
   obtain⟨j',hj',hr'⟩:=vW hk hs j hlt hju
   refine⟨fun h0=>absurd hr' (by rw[h0];simp),fun i hi=>?_⟩
   obtain⟨h1,o,ho,hall⟩:=mem_ready.1 hi
   have hil:i<ops.size:=(Array.getElem?_eq_some_iff.1 ho).1
   have hge:j≤i:=by
    have:=hd i hil
    rw[cY (by omega) false true,h1] at this
    simpa using this
   have hc':=hc.set hi
   have hij:i=j:=by
    by_cases hne:i=j
    ·exact hne
    ·have h2:=(jV hk (i:=j) (j:=i) (oi:=ops[j]) (yY hk (by omega)) (yY hk (by omega)) (by omega) (by simp[hlt]) ho hc' (bD (by omega))).2 (by omega)
     rw[getD_set_ne false hne,hju] at h2;cases h2
   subst hij
   rw[show ops.size - i=(ops.size - (i+1))+1 by omega,List.range'_succ,wpOpsIn_cons] at h
   refine wpOpIn_mono (fun a' w' h'=>ih (i+1) _ a' w' (by simpa using hs) hc' (fun u hu'=>?_) (by omega) (by omega) ?_ h') h
   ·by_cases e2:i=u
    ·subst e2;rw[bD (by omega)];simp
    ·rw[getD_set_ne false e2,hd u hu'];simp;omega
   ·have:=mN hs hil h1;omega
theorem any_head {ps:Nat→PV} {ts:Nat→List PV} {t:List PV} {S:aD} {D:List DA} (ht:∀ i,i≤k→ts i=bI ops ps (fun j=>!fs.elem j) t i) (hst:∀ i,i<k→fs.elem i=false→StepD P r ops S D ts ps i)
  {w0:World} {fr0:Nat→Prop} {m0:aQ} {R:Exit→Act→World→Prop}
  (hR:∀ a w fr m,kZ a w fr m (ts k) S D→bZ w0 fr0 m0 S w fr m S→wpOpsIn (FR r) 0 P ops R (List.range' k (ops.size - k)) a w) :
  ∀ (fuel:Nat) (listed:Array Bool) (a:Act) (w:World) (fr:Nat→Prop) (m:aQ),listed.size=ops.size→gZ ops listed→(∀ i,k≤i→listed.getD i false=false)→(∀ i,fs.elem i=true→listed.getD i false=true) →
   fI ops.size listed≤fuel→kZ a w fr m (bI ops ps (fun j=>listed.getD j false && !fs.elem j) t k) S D→bZ w0 fr0 m0 S w fr m S→wpAnyIn (FR r) 0 P .any ops R fuel listed a w:=by
 intro fuel
 have fin:∀ (fuel:Nat) (listed:Array Bool) (a:Act) (w:World) (fr:Nat→Prop) (m:aQ),listed.size=ops.size→gZ ops listed→(∀ i,k≤i→listed.getD i false=false) →
   fI ops.size listed≤fuel→kZ a w fr m (bI ops ps (fun j=>listed.getD j false && !fs.elem j) t k) S D→bZ w0 fr0 m0 S w fr m S→(∀ i,i<k→listed.getD i false=true)→wpAnyIn (FR r) 0 P .any ops R fuel listed a w:=by
  intro fuel listed a w fr m hs hc htl hu hstr hstep hall
  have hkl:=uH hk
  refine any_tail hk fuel k listed a w hs hc (fun i hi=>?_) (Nat.le_refl _) hkl hu (hR a w fr m ?_ hstep)
  ·by_cases e:i<k
   ·rw[hall i e];simp[e]
   ·rw[htl i (by omega)];simp[e]
  ·rw[ht k (Nat.le_refl _)]
   have:bI ops ps (fun j=>listed.getD j false && !fs.elem j) t k=bI ops ps (fun j=>!fs.elem j) t k:=
    fL (by rw[bG,bG]) fun u=>iF k fun j hj _=>by rw[hall j hj,Bool.true_and]
   rw[← this];exact hstr
 have hkl:=uH hk
 induction fuel with
 | zero=>
  intro listed a w fr m hs hc htl hfl hu hstr hstep
  refine fin 0 listed a w fr m hs hc htl hu hstr hstep fun i hi=>?_
  by_cases e:listed.getD i false=true
  ·exact e
  ·have:=oO (n:=ops.size) (i:=i) (listed:=listed) (by omega) (by rw[cY (by omega) true false];simpa using e)
   omega
 | succ fuel ih=>
  intro listed a w fr m hs hc htl hfl hu hstr hstep
  by_cases hall:∀ i,i<k→listed.getD i false=true
  ·exact fin _ listed a w fr m hs hc htl hu hstr hstep hall
  have hnf:∀ i,listed.getD i false=false→fs.elem i=false:=fun i hi=>by
   cases e:fs.elem i with
   | false=>rfl
   | true=>rw[hfl i e] at hi;cases hi
  obtain⟨i0,hall'⟩:=Classical.not_forall.1 hall
  obtain⟨hi0,hu0⟩:=Classical.not_imp.1 hall'
  have hf0:=hnf i0 (by simpa using hu0)
  obtain⟨j',hj',hr'⟩:=vW hk hs i0 (by omega) (by simpa using hu0)
  refine⟨fun h0=>absurd hr' (by rw[h0];simp),fun i hi=>?_⟩
  obtain⟨h1,o,ho,hafter⟩:=mem_ready.1 hi
  have hil:i<ops.size:=(Array.getElem?_eq_some_iff.1 ho).1
  have hc':=hc.set hi
  have hui:listed.getD i false=false:=(cY (by omega) _ _).trans h1
  have hfi:=hnf i hui
  have hik:i<k:=by
   by_cases e:i<k
   ·exact e
   ·have h2:=(jV hk (i:=i0) (j:=i) (oi:=ops[i0]'(by omega)) hf0 hfi (by omega) (Array.getElem?_eq_getElem _) ho hc' (bD (by omega))).2 (by omega)
    rw[getD_set_ne false (by omega)] at h2
    exact absurd h2 hu0
  obtain⟨o',ho',hts,hg⟩:=hst i hik hfi
  rw[ho] at ho';cases ho'

  have hbefore:∀ j oj,fs.elem j=false→ops[j]?=some oj→j<i→lR ops oj o=true→listed.getD j false=true:=fun j oj hfj hoj hlt hcl=>by
   have h2:=(jV hk hfj hfi hlt hoj ho hc' (bD (by omega))).1 hcl
   rwa [getD_set_ne false (by omega)] at h2
  have hbehind:∀ j oj,fs.elem j=false→ops[j]?=some oj→i<j→lR ops o oj=true→listed.getD j false=false:=fun j oj hfj hoj hlt hcl=>by
   cases e:listed.getD j false with
   | false=>rfl
   | true=>
    have h2:=(jV hk hfi hfj hlt ho hoj hc e).1 hcl
    rw[hui] at h2;cases h2
  have hdeps:∀ u,(fK ops o).elem u=true→getT (bI ops ps (fun j=>listed.getD j false && !fs.elem j) t k) u=getT (ts i) u:=fun u hu'=>by
   rw[ht i (by omega),← pM (q:=fun j=>!fs.elem j) (i:=i) k (by omega)]
   refine iF k fun j hj hd=>?_
   cases hoj:ops[j]? with
   | none=>rw[hoj] at hd;simp at hd
   | some oj=>
    rw[hoj] at hd
    simp only[Option.bind_some] at hd
    cases hfj:fs.elem j with
    | true=>simp
    | false=>
     simp only[Bool.not_false,Bool.and_true]
     by_cases e:j<i
     ·rw[hbefore j oj hfj hoj e (by simp only[lR,hd,hu',Bool.true_or])];simp[e]
     ·by_cases e2:j=i
      ·subst e2;rw[hui];simp
      ·rw[hbehind j oj hfj hoj (by omega) (by simp only[lR,hd,hu',Bool.or_true])];simp[e]
  have hlen:(bI ops ps (fun j=>listed.getD j false && !fs.elem j) t k).length=(ts i).length:=by rw[bG,ht i (by omega),bG]
  have hmask:dV (fK ops o) 0 (ts i)=dV (fK ops o) 0 (bI ops ps (fun j=>listed.getD j false && !fs.elem j) t k):=rP hlen.symm fun u hu'=>(hdeps u hu').symm
  have hnew:jH (bI ops ps (fun j=>listed.getD j false && !fs.elem j) t k) o.dst (ps i)=bI ops ps (fun j=>(listed.setIfInBounds i true).getD j false && !fs.elem j) t k:=by
   refine fL (by rw[tQ,bG,bG]) fun u=>?_
   by_cases hd:o.dst=some u
   ·rw[oY (i:=i) (by rw[bD (by omega),hfi];rfl) (by rw[ho];exact hd) k hik]
    ·rw[hd]
     simp only[jH,fU,bG,true_and]
     split
     ·rfl
     ·rename_i hlt
      rw[iR _ _ (by rw[bG];exact hlt),iR _ _ hlt]
    ·intro j hij hjk hdj
     rw[getD_set_ne false (by omega)]
     cases hoj:ops[j]? with
     | none=>rw[hoj] at hdj;simp at hdj
     | some oj=>
      rw[hoj] at hdj
      simp only[Option.bind_some] at hdj
      cases hfj:fs.elem j with
      | true=>simp
      | false=>rw[hbehind j oj hfj hoj hij (by simp[lR,hd,hdj])];rfl
   ·rw[oZ hd]
    refine iF k fun j hj hdj=>?_
    have hne:i≠j:=by rintro rfl;rw[ho] at hdj;exact hd hdj
    rw[getD_set_ne false hne]
  have hundo:fI ops.size (listed.setIfInBounds i true)≤fuel:=by
   have:=mN hs hil h1;omega
  have htl':∀ j,k≤j→(listed.setIfInBounds i true).getD j false=false:=fun j hj=>by rw[getD_set_ne false (by omega)];exact htl j hj
  have hfl':∀ j,fs.elem j=true→(listed.setIfInBounds i true).getD j false=true:=fun j hj=>getD_set_true (hfl j hj)
  have hgo:∀ {a' w' fr' m'},kZ a' w' fr' m' (jH (bI ops ps (fun j=>listed.getD j false && !fs.elem j) t k) o.dst (ps i)) S D→bZ w0 fr0 m0 S w' fr' m' S→wpAnyIn (FR r) 0 P .any ops R fuel (listed.setIfInBounds i true) a' w':=
   fun h hs'=>ih _ _ _ _ _ (by simpa using hs) hc' htl' hfl' hundo (hnew ▸ h) hs'
  have hrun:Qt P r o (ps i) (dV (fK ops o) 0 (ts i)) S D→Oper.wpIn (FR r) 0 P o a w (wpAnyIn (FR r) 0 P .any ops R fuel (listed.setIfInBounds i true)) R:=fun hq=>by
   rw[hmask] at hq
   refine⟨fun _ _=>trivial,fP (Qt_use hq a w fr m hstr (wpAnyIn (FR r) 0 P .any ops R fuel (listed.setIfInBounds i true)) fun v w' fr' m' hv hrel hst'=>?_) (fun _ _ h=>h) (fun _ _ _ h=>h.elim)⟩
   exact hgo ((hstr.step hst' hrel).put o.dst hv) (hstep.trans hst')
  unfold wpOpIn
  rw[ho]
  dsimp only
  cases hgd:o.guard with
  | none=>
   rw[hgd] at hg
   simp only[Region.wanted,hgd,if_true]
   exact hrun hg
  | some jb=>
   obtain⟨j,b⟩:=jb
   rw[hgd] at hg
   obtain⟨oj,d,hoj,hdj,hg⟩:=hg
   have h4:=hstr.tmp d
   rw[hdeps d (by simp[fK,guardTmp,hgd,fW,hoj,hdj])] at h4
   rcases hg with ⟨hv,h2⟩ | ⟨hv,h3⟩
   ·rw[hv] at h4
    have hy:=lO hoj hdj h4
    simp only[Region.wanted,hgd,hy,BEq.rfl,if_true]
    exact hrun h2
   ·have hne:(yielded ops a.tmps j == some b)=false:=by
     rcases hv with hv | hv
     ·rw[hv] at h4;rw[lO hoj hdj h4];cases b <;> rfl
     ·rw[hv] at h4;rw[qC hoj hdj h4];rfl
    simp only[Region.wanted,hgd,hne,Bool.false_eq_true,if_false]
    refine⟨fun _ _=>trivial,hgo ?_ hstep⟩
    rw[h3]
    exact hstr.put o.dst uX
end
def TA (P:Program) (r:Option Nat) (ops:Array Oper) (fuel:Nat) (listed:Array Bool) (Q:bQ) (t:List PV) (S:aD) (D:List DA):Prop:=
 ∀ a w fr m,kZ a w fr m t S D→wpAnyIn (FR r) 0 P .any ops (dF w fr m S Q) fuel listed a w
theorem T_any {id:Nat} {ops:Array Oper} {Q:bQ} {t:List PV} {S:aD} {D:List DA} (hm:P.follows .mixedOrders=true) (h:TA P r ops ops.size (Array.replicate ops.size false) Q t S D):T P r (.region id ops true) Q t S D:=by
 intro a w fr m hs
 refine wpIn_region_any hm ?_
 have hk0:iT w fr m { w with drawn:=w.drawn+1 } fr m:=⟨fun _ h=>h,fun _ _=>rfl,fun _ _ h=>h,Nle.refl m⟩
 have hst0:bZ w fr m S { w with drawn:=w.drawn+1 } fr m S:=⟨Nat.le_refl _,fun _ h=>h,fun _ h=>.inl h,fun _ h=>.inl h,fun _ h=>.inl h,fun _ _ _=>rfl,fun _ _ h=>h,Nle.refl m,fun _ _ _=>rfl,rfl,rfl⟩
 have hrel:RelS { w with drawn:=w.drawn+1 } fr m S:=
  { hs.rel with
   obj:=fun g x hx=>by
    obtain⟨ob,h1,h2⟩:=hs.rel.obj g x hx
    refine⟨ob,h1,?_⟩
    cases ob with
    | none=>exact h2
    | some b=>obtain⟨o,h3,h4⟩:=h2;exact⟨o,h3,h4.keep hk0⟩ }
 have h1:=h a _ fr m (hs.step hst0 hrel)
 have key:∀ (fuel:Nat) (listed:Array Bool) (a:Act) (w':World) {Q Q':Exit→Act→World→Prop},(∀ e a w,Q e a w→Q' e a w)→wpAnyIn (FR r) 0 P .any ops Q fuel listed a w'→wpAnyIn (FR r) 0 P .any ops Q' fuel listed a w':=by
  intro fuel
  induction fuel with
  | zero=>exact fun _ _ _ _ _ hq h=>⟨h.1,hq _ _ _ h.2⟩
  | succ fuel ih=>
   intro listed a w' Q Q' hq h
   refine⟨fun h0=>hq _ _ _ (h.1 h0),fun i hi=>?_⟩
   have h2:=h.2 i hi
   unfold wpOpIn at h2 ⊢
   split
   ·rename_i e;rw[e] at h2;exact ih _ _ _ hq h2
   ·rename_i o e
    rw[e] at h2
    dsimp only at h2
    split
    ·rename_i hw
     rw[if_pos hw] at h2
     exact⟨h2.1,fP h2.2 (fun _ _ h=>ih _ _ _ hq h) hq⟩
    ·rename_i hw
     rw[if_neg hw] at h2
     exact⟨h2.1,ih _ _ _ hq h2.2⟩
 exact key _ _ _ _ (fun _ _ _ h=>dF.trans hst0 h) h1
theorem TA_draw {k:Nat} {fs:List Nat} {ops:Array Oper} (hk:rT k fs ops=true) {Q:bQ} {ps:Nat→PV} {ts:Nat→List PV} {t:List PV} {S:aD} {D:List DA} {fuel:Nat} {listed:Array Bool} (hs:listed.size=ops.size) (hc:gZ ops listed)
  (hl:∀ i,listed.getD i false=fs.elem i) (hu:fI ops.size listed≤fuel) (h0:ts 0=t) (hst:∀ i,i<k→fs.elem i=false→StepD P r ops S D ts ps i) (hsk:∀ i,i<k→fs.elem i=true→ts (i+1)=ts i)
  (h:TL P r ops k Q (ts k) S D):TA P r ops fuel listed Q t S D:=by
 intro a w fr m hs'
 have hkl:=uH hk
 have ht:∀ i,i≤k→ts i=bI ops ps (fun j=>!fs.elem j) t i:=by
  intro i
  induction i with
  | zero=>intro _;exact h0
  | succ i ih=>
   intro hi
   cases hf:fs.elem i with
   | true=>
    rw[hsk i (by omega) hf,ih (by omega),bI,if_neg (by rw[hf];simp)]
   | false=>
    obtain⟨o,ho,hts,_⟩:=hst i (by omega) hf
    rw[hts,ih (by omega),bI,if_pos (by rw[hf];rfl)]
    simp[ho]
 refine any_head hk (P:=P) (r:=r) (ps:=ps) (ts:=ts) (t:=t) (S:=S) (D:=D) ht hst (w0:=w) (fr0:=fr) (m0:=m) (R:=dF w fr m S Q) ?_ fuel listed a w fr m hs hc ?_ ?_ hu ?_ (.refl _ _ _ _)
 ·intro a' w' fr' m' hs' hst'
  exact gO (fun _ _ _ h=>dF.trans hst' h) (h a' w' fr' m' hs')
 ·intro i hi;rw[hl i];exact yY hk hi
 ·intro i hi;rw[hl i];exact hi
 ·have:bI ops ps (fun j=>listed.getD j false && !fs.elem j) t k=t:=by
   have:∀ n,bI ops ps (fun j=>listed.getD j false && !fs.elem j) t n=t:=by
    intro n
    induction n with
    | zero=>rfl
    | succ n ih=>
     rw[bI,if_neg (by rw[hl];cases fs.elem n <;> simp)];exact ih
   exact this k
  rw[this]
  exact hs'
theorem TA_take {ops:Array Oper} {i:Nat} {o:Oper} {x:Operand} {Q:bQ} {t:List PV} {p:PV} {S:aD} {D:List DA} {fuel:Nat} {listed:Array Bool} (hi:ops[i]?=some o) (ho:o.op=.move x∨o.op=.assign x) (hg:o.guard=none)
  (hs:Region.noSelect ops=true) (hf:Region.free .any ops listed i=true) (hr:(Region.ready .any ops listed).contains i=true) (hQ:∀ p t t' S D,Q (.panic p) t S D→Q (.panic p) t' S D)
  (hx:iP t x fun q=>q=p) (h:TA P none ops fuel (listed.setIfInBounds i true) Q (jH t o.dst p) S D):TA P none ops (fuel+1) listed Q t S D:=by
 intro a w fr m hst
 obtain⟨q,hq,rfl⟩:=bP hst hx
 refine wpAnyIn_take (oi:=o) (v:=a.eval x) rfl hi hs hf hr ?_ ?_ (h _ w fr m (hst.put o.dst hq))
 ·rintro c a' w' ⟨y,t',S',D',fr',m',h1,h2,h3,h4⟩
  obtain⟨p',rfl⟩:∃ p',y=.panic p':=by
   cases y with
   | panic p'=>exact⟨p',rfl⟩
   | normal=>exact absurd h2.not_normal (by simp)
   | exit i=>exact absurd h2.not_exit (by simp)
   | goto i=>exact (by simp[XR] at h2:False).elim
   | ret=>exact (by simp[XR] at h2:False).elim
  refine⟨_,List.replicate a'.tmps.size .any,S',D',fr',m',hQ _ _ _ _ _ h1,h2,⟨h3.rel,by simp,fun i=>?_,?_⟩,h4⟩
  ·have:∀ (n i:Nat),getT (List.replicate n PV.any) i=.any:=by
    intro n
    induction n with
    | zero=>intro i;rfl
    | succ n ih=>intro i;cases i with
     | zero=>rfl
     | succ i=>exact ih i
   rw[this];exact .any _
  ·have:=h3.dfr
   cases hd:o.dst with
   | none=>rw[hd] at this;exact this
   | some d=>rw[hd] at this;exact this
 ·refine⟨.inl ⟨by simp[Region.wanted,hg],fun w'=>?_⟩,fun w'=>?_⟩
  ·rcases ho with ho | ho <;> simp[execOp,ho]
  ·rcases ho with ho | ho <;> simp[Oper.about,ho]
end
section
variable {P:Program} {G:List TI} {r:Option Nat}
def qJ (t:List PV) (S:aD) (t':List PV) (S':aD):Prop:=
 ∀ a w fr m D,kZ a w fr m t S D→∃ fr' m',kZ a w fr' m' t' S' D∧bZ w fr m S w fr' m' S'
theorem sS {c:Code} {Q:bQ} {t t':List PV} {S S':aD} {D:List DA} (hv:qJ t S t' S') (h:T P r c Q t' S' D):T P r c Q t S D:=by
 intro a w fr m hs
 obtain⟨fr',m',h1,h2⟩:=hv a w fr m D hs
 exact wpIn_mono (h a w fr' m' h1) fun _ _ _ h=>dF.trans h2 h
theorem TO_view {ops:Array Oper} {idx:List Nat} {Q:bQ} {t t':List PV} {S S':aD} {D:List DA} (hv:qJ t S t' S') (h:TO P r ops idx Q t' S' D):TO P r ops idx Q t S D:=by
 intro a w fr m hs
 obtain⟨fr',m',h1,h2⟩:=hv a w fr m D hs
 exact gO (fun _ _ _ h=>dF.trans h2 h) (h a w fr' m' h1)
theorem TL_view {ops:Array Oper} {n:Nat} {Q:bQ} {t t':List PV} {S S':aD} {D:List DA} (hv:qJ t S t' S') (h:TL P r ops n Q t' S' D):TL P r ops n Q t S D:=TO_view hv h
theorem qJ.weak {t t':List PV} {S S':aD} (ht:yH t t') (hS:bV S S'):qJ t S t' S':=
 fun a w fr m D hs=>⟨fr,m,hs.weak ht hS,bZ.weak w fr m hS⟩
theorem qJ.trans {t t' t'':List PV} {S S' S'':aD} (h:qJ t S t' S') (k:qJ t' S' t'' S''):qJ t S t'' S'':=by
 intro a w fr m D hs
 obtain⟨fr',m',h1,h2⟩:=h a w fr m D hs
 obtain⟨fr'',m'',k1,k2⟩:=k a w fr' m' D h1
 exact⟨fr'',m'',k1,h2.trans k2⟩
def iZ (S:aD) (g:Nat):aD:=fun h=>if h=g then none else S h
inductive FzV (g ver sz e:Nat) (xs:List (List PV)):PV→PV→Prop
 | same (p:PV):FzV g ver sz e xs p p
 | row (off len:Nat) (h:off+len≤xs.length):FzV g ver sz e xs (.row g ver off len sz) (.list e ((xs.drop off).take len))
 | nils (e':Nat):FzV g ver sz e xs .nils (.list e' [])
 | agg (ps qs:List PV) (hl:ps.length=qs.length) (h:∀ (i:Nat) (h1:i<ps.length) (h2:i<qs.length),FzV g ver sz e xs ps[i] qs[i]):FzV g ver sz e xs (.agg ps) (.agg qs)
 | tup (ps qs:List PV) (hl:ps.length=qs.length) (h:∀ (i:Nat) (h1:i<ps.length) (h2:i<qs.length),FzV g ver sz e xs ps[i] qs[i]):FzV g ver sz e xs (.tup ps) (.tup qs)
 | iface (t:Nat) (p q:PV) (h:FzV g ver sz e xs p q):FzV g ver sz e xs (.iface t p) (.iface t q)
theorem eQ {g ver sz e n:Nat} {xs:List (List PV)} (hn:n=xs.length):FzV g ver sz e xs (.row g ver 0 n sz) (.list e xs):=by
 have:=FzV.row (g:=g) (ver:=ver) (sz:=sz) (e:=e) (xs:=xs) 0 n (by omega)
 rw[hn] at this
 simpa[hn] using this
theorem row_list {w:World} {fr:Nat→Prop} {m:aQ} {S:aD} {g ver sz e off len:Nat} {xs:List (List PV)} (rel:RelS w fr m S) (hg:S g=some (.row ver sz e xs))
  {fr':Nat→Prop} (hup:∀ b,fr b→fr' b) (hfr:∀ b v,m g=some (v,some b)→fr' b) {v:Value} (hv:Rep w fr m v (.row g ver off len sz)) (hl:off+len≤xs.length):Rep w fr' m v (.list e ((xs.drop off).take len)):=by
 obtain⟨ob,h1,h2⟩:=rel.obj g _ hg
 have hk:iT w fr m w fr' m:=⟨hup,fun _ _=>rfl,fun _ _ h=>h,Nle.refl m⟩
 cases hv with
 | row _ _ _ _ _ _ h=>
  obtain⟨v',b',e1,e2,e3⟩:=h
  rw[h1] at e1;cases e1
  have h4:=e3 rfl
  cases ob with
  | none=>obtain⟨rfl,rfl,rfl⟩:=h4;rw[List.take_zero];exact .list0 _ _ _
  | some b=>
   obtain⟨cap,N,rfl,hlc,hN,hoc⟩:=h4
   obtain⟨o,ho,hle,arr,el,rfl,k1,k2,k3⟩:=h2
   have hll:((xs.drop off).take len).length=len:=by simp;omega
   have hget:∀ i (hi:i<((xs.drop off).take len).length),((xs.drop off).take len)[i]=xs[off+i]'(by simp at hi;omega):=fun i hi=>by simp
   have hfull:Rep w fr' m (.slice (some ⟨b,off*sz,none⟩) ((xs.drop off).take len).length cap) (.list e ((xs.drop off).take len)):=by
    refine .list b (off*sz) cap e sz _ (fun i j=>(arr[(off+i)*sz+j]?).getD undef) (hfr b _ h1) (by rw[hll];exact hlc) (by rw[hll];exact Nat.le_trans (Nat.mul_le_mul_right _ (by omega)) hle) (fun i hi=>by rw[hget i hi];exact k1 _ _) (fun i j hi hj=>?_) (fun i j hi hj=>?_)
    ·rw[hll] at hi
     have hx:off+i<xs.length:=by omega
     obtain⟨v,hv,_⟩:=k3 (off+i) j hx (by rw[k1 _ hx];exact hj)
     have e4:off*sz+(i*sz+j)=(off+i)*sz+j:=by rw[Nat.add_mul];omega
     rw[e4,hv]
     simp[World.cell?,ho,hv]
    ·have hi':i<len:=by rw[hll] at hi;exact hi
     have hx:off+i<xs.length:=by omega
     have hj':j<(xs[off+i]).length:=by rw[hget i hi] at hj;exact hj
     obtain⟨v,hv,hr⟩:=k3 (off+i) j hx hj'
     have:((xs.drop off).take len)[i][j]=xs[off+i][j]:=by simp[hget i hi]
     rw[this,hv]
     exact hr.keep hk
   rw[hll] at hfull;exact hfull
theorem FzV.rep {w:World} {fr:Nat→Prop} {m:aQ} {S:aD} {g ver sz e:Nat} {xs:List (List PV)} (rel:RelS w fr m S) (hg:S g=some (.row ver sz e xs)) {fr':Nat→Prop} (hup:∀ b,fr b→fr' b) (hfr:∀ b v,m g=some (v,some b)→fr' b)
  {p q:PV} (h:FzV g ver sz e xs p q):∀ {v:Value},Rep w fr m v p→Rep w fr' m v q:=by
 have hk:iT w fr m w fr' m:=⟨hup,fun _ _=>rfl,fun _ _ h=>h,Nle.refl m⟩
 induction h with
 | same p=>exact fun hv=>hv.keep hk
 | row off len hl=>exact fun hv=>row_list rel hg hup hfr hv hl
 | nils e'=>intro v hv;cases hv;exact .list0 _ _ _
 | agg ps qs hl _ ih=>
  intro v hv
  cases hv with
  | agg cs _ hc hr=>exact .agg cs qs (hc.trans hl) fun i h1 h2=>ih i (by omega) h2 (hr i h1 (by omega))
 | tup ps qs hl _ ih=>
  intro v hv
  cases hv with
  | tup cs _ hc hr=>exact .tup cs qs (hc.trans hl) fun i h1 h2=>ih i (by omega) h2 (hr i h1 (by omega))
 | iface t p q _ ih=>
  intro v hv
  cases hv with
  | iface _ v _ h=>exact .iface t v q (ih h)
theorem sM {t t':List PV} {S:aD} {g ver sz e:Nat} {xs:List (List PV)} (hg:S g=some (.row ver sz e xs)) (hl:t.length=t'.length) (ht:∀ i,FzV g ver sz e xs (getT t i) (getT t' i)):qJ t S t' (iZ S g):=by
 intro a w fr m D hs
 have rel:=hs.rel
 let fr':Nat→Prop:=fun b=>fr b∨∃ v,m g=some (v,some b)
 have hup:∀ b,fr b→fr' b:=fun b h=>.inl h
 have hfr:∀ b v,m g=some (v,some b)→fr' b:=fun b v h=>.inr ⟨v,h⟩
 have hk:iT w fr m w fr' m:=⟨hup,fun _ _=>rfl,fun _ _ h=>h,Nle.refl m⟩
 have hdel:∀ {h x},iZ S g h=some x→h≠g∧S h=some x:=fun {h x} hx=>by
  unfold iZ at hx;split at hx
  ·cases hx
  ·exact⟨by assumption,hx⟩
 have hown:∀ b,Own m (iZ S g) b→Own m S b:=fun b ⟨h,x,v,h1,h2⟩=>⟨h,x,v,(hdel h1).2,h2⟩
 have hst:bZ w fr m S w fr' m (iZ S g):=
  ⟨Nat.le_refl _,hup,fun b hb=>by
   rcases hb with hb | ⟨v,hb⟩
   ·exact .inl hb
   ·exact .inr (.inl ⟨g,_,v,hg,hb⟩),fun b hb=>.inl (hown b hb),fun h hh=>by
    obtain⟨x,hx⟩:=Option.isSome_iff_exists.1 hh
    exact .inl (by rw[(hdel hx).2];rfl),fun _ _ _=>rfl,fun _ _ h=>h,Nle.refl m,fun _ _ _=>rfl,rfl,rfl⟩
 refine⟨fr',m,⟨⟨fun h x hx=>?_,fun b hb ho=>?_,fun h h' x x' v v' b e1 e2=>rel.inj h h' x x' v v' b (hdel e1).2 (hdel e2).2,fun b hb=>?_,rel.bnd⟩,hs.len.trans hl,fun i=>(ht i).rep rel hg hup hfr (hs.tmp i),hs.dfr.keep hk⟩,hst⟩
 ·obtain⟨ob,h1,h2⟩:=rel.obj h x (hdel hx).2
  refine⟨ob,h1,?_⟩
  cases ob with
  | none=>exact h2
  | some b=>obtain⟨o,h3,h4⟩:=h2;exact⟨o,h3,h4.keep hk⟩
 ·rcases hb with hb | ⟨v,hb⟩
  ·exact rel.apart b hb (hown b ho)
  ·obtain⟨h,x,v',h1,h2⟩:=ho
   exact (hdel h1).1 (rel.inj h g x _ v' v b (hdel h1).2 hg h2 hb)
 ·rcases hb with hb | ⟨v,hb⟩
  ·exact rel.frz b hb
  ·exact rel.lt ⟨g,_,v,hg,hb⟩
theorem yC {t:List PV} {S:aD} {d:Nat} {q:PV} {g ver sz e:Nat} {xs:List (List PV)} (hg:S g=some (.row ver sz e xs)) (h:FzV g ver sz e xs (getT t d) q):qJ t S (t.set d q) (iZ S g):=
 sM hg (by simp) fun i=>by
  rw[fU]
  split
  ·rename_i e;rw[e.1];exact h
  ·exact .same _
theorem View_nils {t:List PV} {S:aD} {d e:Nat} (h:getT t d=.nils):qJ t S (t.set d (.list e [])) S:=by
 intro a w fr m D hs
 refine⟨fr,m,⟨hs.rel,by simpa using hs.len,fun i=>?_,hs.dfr⟩,.refl _ _ _ _⟩
 rw[fU]
 split
 ·rename_i e'
  have:=hs.tmp i
  rw[e'.1] at this ⊢
  rw[h] at this
  revert this
  generalize a.tmps.getD d undef=v
  intro hv;cases hv;exact .list0 _ _ _
 ·exact hs.tmp i
theorem fO {f:Nat} {args:List PV} {S:aD} {R R':iY→aD→Prop} (h:Fn P f args S R) (hr:∀ o S',R o S'→R' o S'):Fn P f args S R':=
 ⟨h.1,fun w fr m vs h1 h2=>(h.2 w fr m vs h1 h2).mono fun _ _ ⟨o,S',fr',m',k1,k2⟩=>⟨o,S',fr',m',hr _ _ k1,k2⟩⟩
theorem bN {f:Nat} {args:List PV} {S S1:aD} {p:PV} {kr kp:PV→aD→Prop} (h:Fn P f args S1 fun o S'=>o=.ret p∧S'=S1) (hs:bV S S1) (hk:kr p S):kJ P f args S kr kp:=by
 unfold kJ
 refine⟨S1,_,h,hs,?_⟩
 rintro o S' ⟨rfl,rfl⟩ _
 have hm:jD S S' S'=S:=by
  funext g
  simp only[jD]
  cases e1:S' g with
  | none=>simp
  | some x=>simp[hs g x e1]
 rw[hm];exact hk
def dR (S S1:aD) (kr kp:PV→aD→Prop) (o:iY) (S':aD):Prop:=match o with
 | .ret p=>kr p (jD S S1 S')
 | .pan p=>kp p (jD S S1 S')
theorem aV {f:Nat} {args:List PV} {S S1:aD} {R:iY→aD→Prop} {kr kp:PV→aD→Prop} (h:Fn P f args S1 R) (hs:bV S S1)
  (hk:∀ o S',R o S'→(∀ g,(S' g).isSome=true→(S1 g).isSome=true∨S g=none)→dR S S1 kr kp o S'):kJ P f args S kr kp:=by
 unfold kJ
 exact⟨S1,R,h,hs,fun o S' h1 h2=>by have:=hk o S' h1 h2;cases o <;> exact this⟩
def scopeX (Q:bQ):bQ
 | .goto _=>fun _ _ _=>False
 | x=>Q x
theorem rV {c:Code} {Q:bQ} {t:List PV} {S:aD} {D:List DA} (h:T P none c (scopeX Q) t S D):T P none (.scope c) Q t S D:=by
 intro a w fr m hs
 refine wpIn_wide.2 (wp_scope_straight (wp_mono (wpIn_wide.1 (h a w fr m hs)) ?_))
 rintro e a' w' ⟨x,t',S',D',fr',m',h1,h2,h3,h4⟩
 cases x with
 | goto l=>exact h1.elim
 | normal=>have:=h2.not_normal;subst this;exact⟨_,_,_,_,_,_,h1,h2,h3,h4⟩
 | exit i=>have:=h2.not_exit;subst this;exact⟨_,_,_,_,_,_,h1,h2,h3,h4⟩
 | ret=>
  cases e with
  | goto l=>simp[XR] at h2
  | _=>exact⟨_,_,_,_,_,_,h1,h2,h3,h4⟩
 | panic p=>
  cases e with
  | goto l=>simp[XR] at h2
  | _=>exact⟨_,_,_,_,_,_,h1,h2,h3,h4⟩
def gF:Nat→List (Nat × PV)→List PV
 | n,[]=>lS [] n
 | n,(d,v)::l=>(gF n l).set d v
def E:aD:=fun _=>none
theorem aM (S:aD):bV S E:=fun _ _ h=>by cases h
def QtW (G:List TI) (P:Program) (o:Oper) (p:PV) (t:List PV) (S:aD):Prop:=
 match kV o.op with
 | true=>nG G o.op t S fun q=>q=p
 | false=>match o.op with
  | .call { callee:=.value f,args,.. }=>iP t f fun c=>vB t args.toList fun vs=>match c with
   | .fn (.func n) first cap=>sX first vs fun l1=>sX l1 cap fun l2=>∃ S1,bV S S1∧Fn P n l2 S1 fun o S'=>o=.ret p∧S'=S1
   | _=>False
  | _=>False
theorem QtW_ok (hG:jI P G) {o:Oper} {p:PV} {t:List PV} {S:aD} {D:List DA} (h:QtW G P o p t S):Qt P r o p t S D:=by
 unfold QtW at h
 split at h
 ·exact Qt_pure hG (by assumption) h
 ·split at h
  ·rename_i f args at' he
   simp only[iS] at h
   exact Qt_call he h
  ·exact h.elim
def natsK:List Nat→(List Nat→Prop)→Prop
 | [],k=>k []
 | x::l,k=>natsK l fun l'=>k (x::l')
theorem oX:∀ (l:List Nat) (k:List Nat→Prop),natsK l k=k l
 | [],_=>rfl
 | x::l,k=>by simp only[natsK,oX l]
def zP (l:List Nat):Nat→List PV→(List PV→Prop)→Prop
 | _,[],k=>k []
 | n,x::t,k=>match l.elem n with
  | true=>zP l (n+1) t fun t'=>k (x::t')
  | false=>zP l (n+1) t fun t'=>k (.any::t')
theorem oP (l:List Nat):∀ (n:Nat) (t:List PV) (k:List PV→Prop),zP l n t k=k (dV l n t)
 | _,[],_=>rfl
 | n,x::t,k=>by
  simp only[zP,dV]
  cases l.elem n <;> simp only[oP l (n+1) t]
def QtK (G:List TI) (P:Program) (ops:Array Oper) (o:Oper) (p:PV) (t:List PV) (S:aD):Prop:=natsK (fK ops o) fun l=>zP l 0 t fun t'=>QtW G P o p t' S
def sP (G:List TI) (P:Program) (r:Option Nat) (ops:Array Oper) (Q:bQ) (S:aD) (D:List DA) (fs:List Nat):Nat→Nat→List PV→Prop
 | 0,i,t=>TL P r ops i Q t S D
 | n+1,i,t=>match fs.elem i with
  | true=>sP G P r ops Q S D fs n (i+1) t
  | false=>match jJ ops.toList i with
  | none=>False
  | some o=>match o.guard with
   | none=>∃ p,QtK G P ops o p t S∧gX t o.dst p fun t'=>sP G P r ops Q S D fs n (i+1) t'
   | some (j,b)=>match jJ ops.toList j with
    | some oj=>match oj.dst with
     | some d=>getK t d fun v=>match v with
      | .bool g=>(g=b→zS t d (.bool b) fun t=>∃ p,QtK G P ops o p t S∧gX t o.dst p fun t'=>sP G P r ops Q S D fs n (i+1) t') ∧
       (g=!b→zS t d (.bool (!b)) fun t=>gX t o.dst (.tup []) fun t'=>sP G P r ops Q S D fs n (i+1) t')
      | .tup []=>gX t o.dst (.tup []) fun t'=>sP G P r ops Q S D fs n (i+1) t'
      | _=>False
     | none=>False
    | none=>False
theorem QtK_ok (hG:jI P G) {ops:Array Oper} {o:Oper} {p:PV} {t:List PV} {S:aD} {D:List DA} (h:QtK G P ops o p t S):Qt P r o p (dV (fK ops o) 0 t) S D:=by
 unfold QtK at h
 rw[oX,oP] at h
 exact QtW_ok hG h
theorem DrawW_ok (hG:jI P G) {ops:Array Oper} {Q:bQ} {S:aD} {D:List DA} {fs:List Nat}:∀ {n i:Nat} {t:List PV},sP G P r ops Q S D fs n i t →
    ∃ (ps:Nat→PV) (ts:Nat→List PV),ts i=t∧(∀ j,i≤j→j<i+n→fs.elem j=false→StepD P r ops S D ts ps j)∧(∀ j,i≤j→j<i+n→fs.elem j=true→ts (j+1)=ts j)∧TL P r ops (i+n) Q (ts (i+n)) S D
  | 0,i,t,h=>⟨fun _=>.any,fun _=>t,rfl,fun j h1 h2=>by omega,fun j h1 h2=>by omega,h⟩
  | n+1,i,t,h=>by
    simp only[sP] at h
    cases hfi:fs.elem i with
    | true=>
      rw[hfi] at h
      obtain⟨ps,ts,h1,h2,h2',h3⟩:=DrawW_ok hG h
      refine⟨ps,fun j=>if j=i then t else ts j,by simp,fun j hij hj hf=>?_,fun j hij hj hf=>?_,?_⟩
      · have e:j≠i:=by rintro rfl;rw[hfi] at hf;cases hf
        obtain⟨o',k1,k2,k3⟩:=h2 j (by omega) (by omega) hf
        refine⟨o',k1,?_,?_⟩
        · dsimp only;rw[if_neg (by omega),if_neg e];exact k2
        · dsimp only;rw[if_neg e];exact k3
      · by_cases e:j=i
        · subst e;dsimp only;rw[if_neg (by omega),if_pos rfl,h1]
        · dsimp only;rw[if_neg (by omega),if_neg e];exact h2' j (by omega) (by omega) hf
      · dsimp only;rw[if_neg (by omega),show i+(n+1)=i+1+n by omega];exact h3
    | false=>
    rw[hfi] at h
    dsimp only at h
    cases ho:jJ ops.toList i with
    | none=>rw[ho] at h;exact h.elim
    | some o=>
      rw[ho] at h
      dsimp only at h
      have hoi:ops[i]?=some o:=by rw[fW] at ho;simpa using ho

      have fin:∀ p,sP G P r ops Q S D fs n (i+1) (jH t o.dst p) →
          (match o.guard with
          | none=>Qt P r o p (dV (fK ops o) 0 t) S D
          | some (j,b)=>∃ oj d,ops[j]?=some oj∧oj.dst=some d∧((getT t d=.bool b∧Qt P r o p (dV (fK ops o) 0 t) S D)∨((getT t d=.bool (!b)∨getT t d=.tup [])∧p=.tup []))) →
          ∃ (ps:Nat→PV) (ts:Nat→List PV),ts i=t∧(∀ j,i≤j→j<i+(n+1)→fs.elem j=false→StepD P r ops S D ts ps j)∧(∀ j,i≤j→j<i+(n+1)→fs.elem j=true→ts (j+1)=ts j)∧TL P r ops (i+(n+1)) Q (ts (i+(n+1))) S D:=by
        intro p hd hg
        obtain⟨ps,ts,h1,h2,h2',h3⟩:=DrawW_ok hG hd
        refine⟨fun j=>if j=i then p else ps j,fun j=>if j=i then t else ts j,by simp,fun j hij hj hf=>?_,fun j hij hj hf=>?_,?_⟩
        · by_cases e:j=i
          · subst e
            refine⟨o,hoi,?_,?_⟩
            · simp only[if_true]
              rw[if_neg (by omega),h1]
            · simp only[if_true]
              exact hg
          · obtain⟨o',k1,k2,k3⟩:=h2 j (by omega) (by omega) hf
            refine⟨o',k1,?_,?_⟩
            · dsimp only;rw[if_neg (by omega),if_neg e,if_neg e];exact k2
            · dsimp only;rw[if_neg e,if_neg e];exact k3
        · have e:j≠i:=by rintro rfl;rw[hfi] at hf;cases hf
          dsimp only;rw[if_neg (by omega),if_neg e];exact h2' j (by omega) (by omega) hf
        · dsimp only;rw[if_neg (by omega),show i+(n+1)=i+1+n by omega];exact h3
      cases hgd:o.guard with
      | none=>
        rw[hgd] at h fin
        obtain⟨p,h1,h2⟩:=h
        rw[cD] at h2
        exact fin p h2 (QtK_ok hG h1)
      | some jb=>
        obtain⟨j,b⟩:=jb
        rw[hgd] at h fin
        dsimp only at h
        cases hj:jJ ops.toList j with
        | none=>rw[hj] at h;exact h.elim
        | some oj=>
          rw[hj] at h
          dsimp only at h
          cases hd:oj.dst with
          | none=>rw[hd] at h;exact h.elim
          | some d=>
            rw[hd] at h
            dsimp only at h
            rw[mU] at h
            have hoj:ops[j]?=some oj:=by rw[fW] at hj;simpa using hj
            split at h
            · rename_i g hv
              by_cases e:g=b
              · have h3:=h.1 e
                rw[lG,xF (by rw[hv,e])] at h3
                obtain⟨p,h1,h2⟩:=h3
                rw[cD] at h2
                exact fin p h2 ⟨oj,d,hoj,hd,.inl ⟨by rw[hv,e],QtK_ok hG h1⟩⟩
              · have e':g=!b:=by cases g <;> cases b <;> simp_all
                have h2:=h.2 e'
                rw[lG,xF (by rw[hv,e']),cD] at h2
                exact fin _ h2 ⟨oj,d,hoj,hd,.inr ⟨.inl (by rw[hv,e']),rfl⟩⟩
            · rename_i hv
              rw[cD] at h
              exact fin _ h ⟨oj,d,hoj,hd,.inr ⟨.inr hv,rfl⟩⟩
            · exact h.elim
theorem dE {n i:Nat}:(Array.replicate n false).getD i false=false:=by
 simp only[Array.getD_eq_getD_getElem?,Array.getElem?_replicate];split <;> rfl
theorem TA_drawW (hG:jI P G) {ops:Array Oper} {Q:bQ} {t:List PV} {S:aD} {D:List DA} {k:Nat} {fs:List Nat} (hk:rT k fs ops=true) {fuel:Nat} {listed:Array Bool} (hs:listed.size=ops.size) (hc:gZ ops listed)
  (hl:∀ i,listed.getD i false=fs.elem i) (hu:fI ops.size listed≤fuel) (h:sP G P r ops Q S D fs k 0 t):TA P r ops fuel listed Q t S D:=by
 obtain⟨ps,ts,h1,h2,h2',h3⟩:=DrawW_ok hG h
 rw[Nat.zero_add] at h3
 exact TA_draw hk hs hc hl hu h1 (fun i hi=>h2 i (Nat.zero_le _) (by omega)) (fun i hi=>h2' i (Nat.zero_le _) (by omega)) h3
theorem oI {n:Nat} {listed:Array Bool}:fI n listed≤n:=by
 unfold fI
 exact Nat.le_trans (List.length_filter_le _ _) (by simp)
theorem aT (hG:jI P G) (hm:P.follows .mixedOrders=true) {id:Nat} {ops:Array Oper} {Q:bQ} {t:List PV} {S:aD} {D:List DA} (k:Nat) (hk:rT k [] ops=true) (h:sP G P r ops Q S D [] k 0 t):T P r (.region id ops true) Q t S D:=
 T_any hm (TA_drawW hG hk (by simp) (fun j oj _ hj=>by rw[dE] at hj;cases hj) (fun i=>by rw[dE];rfl) oI h)
def takeOk (ops:Array Oper):Array Bool→List Nat→Bool
 | _,[]=>true
 | listed,i::l=>(match jJ ops.toList i with | some o=>(match o.op with | .move _ | .assign _=>true | _=>false) && o.guard.isNone | none=>false) && (Region.noSelect ops && Region.free .any ops listed i && (Region.ready .any ops listed).contains i) && takeOk ops (listed.setIfInBounds i true) l
def TakeW (ops:Array Oper) (K:List PV→Prop):List Nat→List PV→Prop
 | [],t=>K t
 | i::l,t=>match jJ ops.toList i with
  | some o=>(match o.op with
   | .move x=>iP t x fun p=>gX t o.dst p fun t'=>TakeW ops K l t'
   | .assign x=>iP t x fun p=>gX t o.dst p fun t'=>TakeW ops K l t'
   | _=>False)
  | none=>False
theorem tD {v:Value} {K:PV→Prop} (h:kL v K):∃ p,(∀ K':PV→Prop,K' p→kL v K')∧K p:=by
 unfold kL at h
 split at h
 ·split at h
  ·rename_i e
   exact⟨_,fun K' hk=>by unfold kL;simp only[e];exact hk,h⟩
  ·exact h.elim
 ·exact⟨_,fun _ h=>h,h⟩
 ·split at h
  ·rename_i e
   exact⟨_,fun K' hk=>by unfold kL;simp only[e];exact hk,h⟩
  ·exact h.elim
 ·exact⟨_,fun _ h=>h,h⟩
 ·exact⟨_,fun _ h=>h,h⟩
 ·exact⟨_,fun _ h=>h,h⟩
 ·exact⟨_,fun _ h=>h,h⟩
 ·exact⟨_,fun _ h=>h,h⟩
 ·rename_i n1 n2 n3 n4 n5 n6 n7 n8
  refine⟨.any,fun K' hk=>?_,h⟩
  unfold kL
  split
  ·exact absurd rfl (n1 _ _)
  ·exact absurd rfl (n2 _)
  ·exact absurd rfl (n3 _)
  ·exact absurd rfl n4
  ·exact absurd rfl n5
  ·exact absurd rfl n6
  ·exact absurd rfl n7
  ·exact absurd rfl n8
  ·exact hk
theorem tF:∀ {l:List Value} {K:List PV→Prop},pQ l K→∃ ps,(∀ K':List PV→Prop,K' ps→pQ l K')∧K ps
 | [],K,h=>⟨[],fun _ h=>h,h⟩
 | v::l,K,h=>by
  obtain⟨p,h1,h⟩:=tD h
  obtain⟨ps,h2,h⟩:=tF (l:=l) h
  exact⟨p::ps,fun K' hk=>h1 _ (h2 _ hk),h⟩
theorem constK_det {v:Value} {K:PV→Prop} (h:sO v K):∃ p,sO v (fun q=>q=p)∧K p:=by
 by_cases hv:∃ cs,v=.agg cs
 ·obtain⟨cs,rfl⟩:=hv
  obtain⟨ps,h1,h⟩:=tF (show pQ cs.toList _ from h)
  exact⟨.agg ps,h1 _ rfl,h⟩
 ·have e:∀ K',sO v K'=kL v K':=fun K'=>by
   cases v <;> first | rfl | exact absurd ⟨_,rfl⟩ hv
  rw[e] at h
  obtain⟨p,h1,h⟩:=tD h
  exact⟨p,by rw[e];exact h1 _ rfl,h⟩
theorem evK_det {t:List PV} {x:Operand} {K:PV→Prop} (h:iP t x K):∃ p,iP t x (fun q=>q=p)∧K p:=by
 cases x with
 | tmp n=>simp only[iP,mU] at h ⊢;exact⟨_,rfl,h⟩
 | const v=>exact constK_det h
 | func f=>exact⟨_,rfl,h⟩
 | global g=>exact⟨_,rfl,h⟩
theorem Take_ok {ops:Array Oper} {Q:bQ} {S:aD} {D:List DA} {K:List PV→Prop} (hQ:∀ p t t' S D,Q (.panic p) t S D→Q (.panic p) t' S D):∀ {fs:List Nat} {t:List PV} {listed:Array Bool} {fuel:Nat} {g:List Nat},takeOk ops listed fs=true→listed.size=ops.size→gZ ops listed →
  (∀ i,listed.getD i false=g.elem i)→fI ops.size listed≤fuel→TakeW ops K fs t →
  (∀ (t:List PV) (listed:Array Bool) (fuel:Nat),listed.size=ops.size→gZ ops listed→(∀ i,listed.getD i false=(g.elem i || fs.elem i))→fI ops.size listed≤fuel→K t→TA P none ops fuel listed Q t S D)→TA P none ops fuel listed Q t S D
 | [],t,listed,fuel,g,_,hs,hc,hl,hu,hk,h=>h t listed fuel hs hc (fun i=>by rw[hl i];simp) hu hk
 | i::l,t,listed,fuel,g,ht,hs,hc,hl,hu,hk,h=>by
  simp only[takeOk,Bool.and_eq_true] at ht
  obtain⟨⟨hmv,⟨hsel,hfree⟩,hready⟩,hrest⟩:=ht
  cases ho:jJ ops.toList i with
  | none=>rw[ho] at hmv;cases hmv
  | some o=>
   have hoi:ops[i]?=some o:=by rw[fW] at ho;simpa using ho
   rw[ho] at hmv
   simp only[TakeW,ho] at hk
   dsimp only at hmv
   obtain⟨hmv,hgd⟩:=Bool.and_eq_true_iff.1 hmv
   have hg:o.guard=none:=by simpa using hgd
   have hir:i∈Region.ready .any ops listed:=by simpa using hready
   have hiu:listed.getD i true=false:=(mem_ready.1 hir).1
   have hil:i<ops.size:=(Array.getElem?_eq_some_iff.1 hoi).1
   have hus:=mN hs hil hiu
   have key:∀ x,(o.op=.move x∨o.op=.assign x)→iP t x (fun p=>gX t o.dst p fun t'=>TakeW ops K l t')→TA P none ops fuel listed Q t S D:=by
    intro x hx hk
    obtain⟨p,hp,hk⟩:=evK_det hk
    rw[cD] at hk
    cases fuel with
    | zero=>omega
    | succ fuel=>
     refine TA_take hoi hx hg hsel hfree hready hQ hp ?_
     refine Take_ok hQ (g:=i::g) hrest (by simpa using hs) (hc.set hir) (fun j=>?_) (by omega) hk fun t' listed' fuel' h1 h2 h3 h4 h5=>h t' listed' fuel' h1 h2 (fun j=>?_) h4 h5
     ·by_cases e:i=j
      ·subst e;rw[bD (by omega)];simp
      ·rw[getD_set_ne false e,hl j];simp[Ne.symm e]
     ·rw[h3 j];simp only[List.elem_cons];cases (j == i) <;> cases g.elem j <;> simp
   split at hk
   ·rename_i x e;exact key x (.inl e) hk
   ·rename_i x e;exact key x (.inr e) hk
   ·exact hk.elim
theorem T_drawF (hG:jI P G) (hm:P.follows .mixedOrders=true) {id:Nat} {ops:Array Oper} {Q:bQ} {t:List PV} {S:aD} {D:List DA} (k:Nat) (fs:List Nat) (hf:takeOk ops (Array.replicate ops.size false) fs=true) (hk:rT k fs ops=true)
  (hQ:∀ p t t' S D,Q (.panic p) t S D→Q (.panic p) t' S D) (h:TakeW ops (fun t=>sP G P none ops Q S D fs k 0 t) fs t):T P none (.region id ops true) Q t S D:=
 T_any hm (Take_ok hQ (g:=[]) hf (by simp) (fun j oj _ hj=>by rw[dE] at hj;cases hj) (fun i=>by rw[dE];rfl) oI h
  fun t listed fuel h1 h2 h3 h4 h5=>TA_drawW hG hk h1 h2 (fun i=>by rw[h3 i];simp) h4 h5)
end
section
variable {P:Program} {G:List TI} {r:Option Nat}
theorem setN_eq {m:aQ} {g:Nat} {x:Nat × Option Nat} (h:m g=some x):eY m g x=m:=by
 funext k
 unfold eY
 split
 ·rename_i e;rw[e];exact h.symm
 ·rfl
theorem put_ok {w:World} {fr:Nat→Prop} {m:aQ} {S:aD} (r:RelS w fr m S) {g l:Nat} {x x':AO} {o o':Obj} (hm:m g=some (0,some l)) (hS:S g=some x) (ho:w.heap[l]?=some o) (hsh:w.shape? l=none) (hv:x'.ver=0)
  (hobj:iT w fr m (w.putObj l o') fr m→ObjR (w.putObj l o') fr m o' x'):RelS (w.putObj l o') fr m (aK S g x')∧bZ w fr m S (w.putObj l o') fr m (aK S g x'):=by
 have hl:l<w.heap.size:=(Array.getElem?_eq_some_iff.1 ho).1
 have e:eY m g (x'.ver,some l)=m:=by rw[hv];exact setN_eq hm
 have hold:∀ b,b<w.heap.size→(∀ v,m g≠some (v,some b))→(w.putObj l o').heap[b]?=w.heap[b]?:=fun b _ hb=>World.putObj_heap_other (by rintro rfl;exact hb 0 hm)
 have hshape:∀ b N,(w.shape? b).map (·.2)=some N→((w.putObj l o').shape? b).map (·.2)=some N:=fun b N hN=>by
  by_cases e:b=l
  ·subst e;rw[hsh] at hN;cases hN
  ·unfold World.shape? at hN ⊢;rw[World.putObj_heap_other e];exact hN
 have hk:iT w fr m (w.putObj l o') fr m:=⟨fun _ h=>h,fun b hb=>hold b (r.frz b hb) fun v e=>r.apart b hb ⟨g,x,v,hS,e⟩,hshape,Nle.refl m⟩
 have:=nU (x':=x') (ob':=some l) (w':=w.putObj l o') (g:=g) r (by simp) hold hshape
  (fun v ob e=>by rw[hm] at e;cases e;exact⟨by rw[hS];rfl,Nat.zero_le _,fun _=>rfl⟩) (fun b e=>by cases e;exact .inl ⟨0,hm⟩)
  ⟨o',World.putObj_heap_same hl,by rw[e];exact hobj hk⟩
 rw[e] at this
 exact this
def zipT:List PV→List Nat→List PV→List PV
 | t,p::ps,v::vs=>zipT (t.set p v) ps vs
 | t,_,_=>t
theorem set_RepA {w:World} {fr:Nat→Prop} {m:aQ} {tmps:Array Value} {t:List PV} (h:gD w fr m tmps t) {d:Nat} {v:Value} {p:PV} (hv:Rep w fr m v p):gD w fr m (tmps.setIfInBounds d v) (t.set d p):=by
 refine⟨by simp[h.1],fun i h1 h2=>?_⟩
 simp only[Array.size_setIfInBounds,List.length_set] at h1 h2
 rw[Array.getElem_setIfInBounds,List.getElem_set]
 split
 ·exact hv
 ·exact h.2 i h1 h2
theorem zip_RepA {w:World} {fr:Nat→Prop} {m:aQ}:∀ {ps:List Nat} {args:List Value} {vs:List PV} {tmps:Array Value} {t:List PV},gD w fr m tmps t→args.length=vs.length→(∀ (i:Nat) (h1:i<args.length) (h2:i<vs.length),Rep w fr m args[i] vs[i]) →
  gD w fr m ((ps.zip args).foldl (fun tmps (t,a)=>tmps.setIfInBounds t a) tmps) (zipT t ps vs)
 | [],_,_,_,_,h,_,_=>by simpa[zipT] using h
 | p::ps,[],[],_,_,h,_,_=>by simpa[zipT] using h
 | p::ps,a::args,v::vs,tmps,t,h,hl,hr=>by
  simp only[List.zip_cons_cons,List.foldl_cons,zipT]
  exact zip_RepA (set_RepA h (hr 0 (by simp) (by simp))) (by simpa using hl) fun i h1 h2=>hr (i+1) (by simpa using h1) (by simpa using h2)
 | _::_,[],_::_,_,_,_,hl,_=>by simp at hl
 | _::_,_::_,[],_,_,_,hl,_=>by simp at hl
theorem gD.tmp {w:World} {fr:Nat→Prop} {m:aQ} {tmps:Array Value} {t:List PV} (h:gD w fr m tmps t) (i:Nat):Rep w fr m (tmps.getD i undef) (getT t i):=by
 by_cases hi:i<t.length
 ·have h1:i<tmps.size:=by rw[h.1];exact hi
  have e:getT t i=t[i]:=by
   clear h h1
   induction t generalizing i with
   | nil=>simp at hi
   | cons x l ih=>
    cases i with
    | zero=>rfl
    | succ i=>simpa[getT] using ih i (by simpa using hi)
  rw[e]
  have:=h.2 i h1 hi
  simpa[Array.getD,h1] using this
 ·rw[iR _ _ hi];exact .any _
theorem getT_elem:∀ {t:List PV} {i:Nat} (hi:i<t.length),getT t i=t[i]
 | _::_,0,_=>rfl
 | _::l,i+1,hi=>by simpa[getT] using getT_elem (t:=l) (i:=i) (by simpa using hi)
theorem kZ.RepA {a:Act} {w:World} {fr:Nat→Prop} {m:aQ} {t:List PV} {S:aD} {D:List DA} (h:kZ a w fr m t S D):gD w fr m a.tmps t:=
 ⟨h.len,fun i h1 h2=>by
  have:=h.tmp i
  rw[getT_elem h2] at this
  simpa[Array.getD,h1] using this⟩
theorem XR.panic {w:World} {fr:Nat→Prop} {m:aQ} {ch:List PanicEntry} {x:AX} (h:XR w fr m (.panic ch) x):∃ p,x=.panic p:=by
 cases x with
 | panic p=>exact⟨p,rfl⟩
 | normal=>exact absurd h.not_normal (by simp)
 | exit i=>exact absurd h.not_exit (by simp)
 | goto i=>exact (by simp[XR] at h:False).elim
 | ret=>exact (by simp[XR] at h:False).elim
theorem XR.ret {w:World} {fr:Nat→Prop} {m:aQ} {x:AX} (h:XR w fr m .ret x):x=.ret:=by
 cases x <;> simp_all [XR]
theorem XR.goto {w:World} {fr:Nat→Prop} {m:aQ} {i:Nat} {x:AX} (h:XR w fr m (.goto i) x):x=.goto i:=by
 cases x <;> simp_all [XR]
theorem XR.outgrown {w:World} {fr:Nat→Prop} {m:aQ} {x:AX} (h:XR w fr m .outgrown x):False:=by
 cases x <;> exact (by simpa[XR] using h:False).elim
def roundX (g:Nat) (R:iY→aD→Prop):bQ:=fun x _ S _=>match x with
 | .normal=>∃ st pd fn tt ps asg bd d S',S g=some (.loop st pd fn tt ps asg bd d)∧bV (aK S g (.loop .ready none fn tt ps asg bd d)) S'∧R (.ret (.bool true)) S'
 | .ret=>∃ st pd fn tt ps asg bd d S',S g=some (.loop st pd fn tt ps asg bd d)∧bV (aK S g (.loop .done (some .ret) fn tt ps asg bd d)) S'∧R (.ret (.bool false)) S'
 | .exit i=>∃ st pd fn tt ps asg bd d S',S g=some (.loop st pd fn tt ps asg bd d)∧bV (aK S g (.loop .done (some (.exit i)) fn tt ps asg bd d)) S'∧R (.ret (.bool false)) S'
 | .goto i=>∃ st pd fn tt ps asg bd d S',S g=some (.loop st pd fn tt ps asg bd d)∧bV (aK S g (.loop .done (some (.goto i)) fn tt ps asg bd d)) S'∧R (.ret (.bool false)) S'
 | .panic _=>False
def yN (P:Program) (l g:Nat) (bd:Code) (R:iY→aD→Prop):bQ:=fun x t S D=>match x with
 | .normal=>∃ pd fn tt ps asg bd' d,S g=some (.loop .ready pd fn tt ps asg bd' d)∧T P (some l) bd (roundX g R) t (aK S g (.loop .busy pd fn tt ps asg bd' d)) D
 | _=>False
theorem wG {w:World} {l:Nat} {x:Loop} (h:w.heap[l]?=some (.loop x)):w.shape? l=none:=by
 unfold World.shape?;rw[h]
theorem loop_at {w:World} {fr:Nat→Prop} {m:aQ} {S:aD} (rel:RelS w fr m S) {g l:Nat} {st:LoopState} {pd:Option Code} {fn:FuncId} {t:List PV} {ps:Array Tmp} {asg bd:Code} {d:Nat} (hS:S g=some (.loop st pd fn t ps asg bd d)) {ob:Option Nat} {v:Nat} (hm:m g=some (v,ob)) :
  v=0∧∃ l,ob=some l∧∃ tmps db,At m d 0 (fun ob=>ob=some db)∧w.heap[l]?=some (.loop { state:=st,pending:=pd,fn,tmps,params:=ps,assign:=asg,body:=bd,defers:=db })∧gD w fr m tmps t:=by
 obtain⟨ob',h1,h2⟩:=rel.obj g _ hS
 rw[hm] at h1
 simp only[AO.ver,Option.some.injEq,Prod.mk.injEq] at h1
 obtain⟨rfl,rfl⟩:=h1
 refine⟨rfl,?_⟩
 cases ob with
 | none=>obtain⟨_,_,_,e⟩:=h2;cases e
 | some l=>
  obtain⟨o,ho,tmps,db,hd,rfl,hr⟩:=h2
  exact⟨l,rfl,tmps,db,hd,ho,hr⟩
theorem xJ {g:Nat} {fn:FuncId} {t:List PV} {ps:Array Tmp} {asg bd:Code} {d:Nat} {args:List PV} {S:aD} {R:iY→aD→Prop} {pd:Option Code} (hS:S g=some (.loop .ready pd fn t ps asg bd d)) (hn:args.length=ps.size)
  (h:∀ l,T P (some l) asg (yN P l g bd R) (zipT t ps.toList args) S []):YFn P g args S R:=by
 refine⟨⟨_,_,_,_,_,_,_,_,hS⟩,fun r w fr m vs l rel hv hm=>?_⟩
 obtain⟨_,l',e,tmps,db,hd,ho,hr⟩:=loop_at (l:=l) rel hS hm
 cases e
 refine⟨fn,_,asg,bd,run_yield ho (by rw[hv.1];exact hn),?_⟩
 refine roundIn_of_wpIn trivial ?_
 have e:(ps.zip vs).foldl (fun tmps (t,a)=>tmps.setIfInBounds t a) tmps=(ps.toList.zip vs.toList).foldl (fun tmps (t,a)=>tmps.setIfInBounds t a) tmps:=by
  rw[← Array.foldl_toList,Array.toList_zip]
 have hz:=zip_RepA (ps:=ps.toList) (args:=vs.toList) (vs:=args) hr (by simpa using hv.1) (fun i h1 h2=>by simpa using hv.2 i (by simpa using h1) h2)
 rw[← e] at hz
 have hst:kZ { tmps:=(ps.zip vs).foldl (fun tmps (t,a)=>tmps.setIfInBounds t a) tmps,defers:=[] } w fr m (zipT t ps.toList args) S []:=⟨rel,hz.1,hz.tmp,trivial⟩
 refine wpIn_mono (h l _ w fr m hst) ?_
 rintro e a₁ w₁ ⟨x,t₁,S₁,D₁,fr₁,m₁,hq,hx,hs₁,hst₁⟩
 have hat:∀ {w' fr' m' S'},bZ w fr m S w' fr' m' S'→∀ {v ob},m' g=some (v,ob)→v=0→ob=some l:=fun st v ob e e0=>by
  obtain⟨v',b',k1,k2,k3⟩:=st.nam g 0 (some l) hm
  rw[k1] at e;cases e
  exact k3 e0
 cases e with
 | normal=>
  have:=hx.normal;subst this
  obtain⟨pd1,fn1,tt1,ps1,as1,bd1,d1,hS1,hbody⟩:=hq
  obtain⟨ob,hm1,_⟩:=hs₁.rel.obj g _ hS1
  obtain⟨_,l1,e1,tmps1,db1,hd1,ho1,hr1⟩:=loop_at (l:=l) hs₁.rel hS1 hm1
  have hl:=hat hst₁ hm1 rfl
  subst e1;cases hl
  refine⟨_,run_beginRound ho1 rfl,?_⟩
  obtain⟨k1,k2⟩:=put_ok (x':=.loop .busy pd1 fn1 tt1 ps1 as1 bd1 d1) (o':=.loop { state:=.busy,pending:=pd1,fn:=fn1,tmps:=tmps1,params:=ps1,assign:=as1,body:=bd1,defers:=db1 }) hs₁.rel hm1 hS1 ho1 (wG ho1) rfl
   (fun hk=>⟨tmps1,db1,hd1,rfl,hr1.keep hk⟩)
  refine wpIn_mono (hbody _ _ _ _ (hs₁.step k2 k1)) ?_
  rintro e a₂ w₂ ⟨x,t₂,S₂,D₂,fr₂,m₂,hq,hx,hs₂,hst₂⟩
  have hst:=(hst₁.trans k2).trans hst₂

  have fin:∀ (j:Option Code) (b:Bool),j.isNone=b→(∃ st pd fn tt ps asg bd d S',S₂ g=some (.loop st pd fn tt ps asg bd d)∧bV (aK S₂ g (.loop (if b then .ready else .done) j fn tt ps asg bd d)) S'∧R (.ret (.bool b)) S') →
    ∃ v w',(Instr.endRound l j).run P w₂=.ok v w'∧∃ o S' fr' m',R o S'∧nQ w' fr' m' (.returned v) o∧RelS w' fr' m' S'∧bZ w fr m S w' fr' m' S':=by
   rintro j b rfl ⟨st,pd,fn2,tt2,ps2,as2,bd2,d2,S',hS2,hsle,hR⟩
   obtain⟨ob,hm2,_⟩:=hs₂.rel.obj g _ hS2
   obtain⟨_,l2,e2,tmps2,db2,hd2,ho2,hr2⟩:=loop_at (l:=l) hs₂.rel hS2 hm2
   have hl:=hat hst hm2 rfl
   subst e2;cases hl
   obtain⟨k1,k2⟩:=put_ok (x':=.loop (if j.isNone then .ready else .done) j fn2 tt2 ps2 as2 bd2 d2) (o':=.loop { state:=if j.isNone then .ready else .done,pending:=j,fn:=fn2,tmps:=tmps2,params:=ps2,assign:=as2,body:=bd2,defers:=db2 }) hs₂.rel hm2 hS2 ho2 (wG ho2) rfl
    (fun hk=>⟨tmps2,db2,hd2,rfl,hr2.keep hk⟩)
   exact⟨_,_,run_endRound j ho2,_,S',fr₂,m₂,hR,.bool _,k1.weak hsle,(hst.trans k2).trans (bZ.weak _ _ _ hsle)⟩
  cases e with
  | normal=>have:=hx.normal;subst this;exact fin none true rfl hq
  | ret=>have:=hx.ret;subst this;exact fin (some .ret) false rfl hq
  | exit i=>have:=hx.exit;subst this;exact fin (some (.exit i)) false rfl hq
  | goto i=>have:=hx.goto;subst this;exact fin (some (.goto i)) false rfl hq
  | panic ch=>
   obtain⟨p,rfl⟩:=hx.panic
   exact hq.elim
  | outgrown=>exact hx.outgrown.elim
 | ret=>have:=hx.ret;subst this;exact hq.elim
 | exit i=>have:=hx.exit;subst this;exact hq.elim
 | goto i=>have:=hx.goto;subst this;exact hq.elim
 | panic ch=>
  obtain⟨p,rfl⟩:=hx.panic
  exact hq.elim
 | outgrown=>exact hx.outgrown.elim
end
section
variable {P:Program} {G:List TI} {r:Option Nat}
def rfX (P:Program) (Q:bQ) (t:List PV) (S:aD) (gl gd:Nat) (D:List DA):iY→Prop
 | .ret _=>∃ st pd fn tt ps asg bd d S',S gl=some (.loop st pd fn tt ps asg bd d)∧st≠.busy∧bV (aK S gl (.loop .exhausted pd fn tt ps asg bd d)) S'∧(match pd with
  | none=>Q .normal t S' (.mark gd::D)
  | some c=>T P none c Q t S' (.mark gd::D))
 | .pan p=>Q (.panic p) t S (.mark gd::D)
theorem pV {g:Operand} {ps:Array Tmp} {asg bd:Code} {Q:bQ} {t:List PV} {S:aD} {D:List DA}
    (h:iP t g fun c=>match c with
      | .fn (.func f) first cap=>∀ fn gd gl,S gd=none→S gl=none→gd≠gl →
        ∃ S1 R,Fn P f (first++[.yld gl]++cap) S1 R∧bV (aK (aK S gd .dfr) gl (.loop .ready none fn t ps asg bd gd)) S1 ∧
          ∀ o S',R o S'→(∀ g,(S' g).isSome=true→(S1 g).isSome=true∨aK (aK S gd .dfr) gl (.loop .ready none fn t ps asg bd gd) g=none) →
            rfX P Q t (jD (aK (aK S gd .dfr) gl (.loop .ready none fn t ps asg bd gd)) S1 S') gl gd D o
      | _=>False):T P none (.rangeFunc g ps asg bd) Q t S D:=by
  intro a w fr m hs
  obtain⟨p,hp,h⟩:=bP hs h
  split at h
  · rename_i f first cap
    revert hp;generalize he:a.eval g=vf;intro hp
    cases hp with
    | fn _ fa fc _ _ a1 a2 a3 a4=>
      refine wpIn_rangeFunc fun fn _=>?_

      obtain⟨gd,hgm,hgS⟩:=pD hs.rel
      obtain⟨r1,s1⟩:=push_ok (x':=.dfr) (o:=.deferred (some [])) hs.rel hgm (fun _ _=>rfl)
      have hs1:=hs.step s1 r1
      obtain⟨gl,hlm,hlS⟩:=pD r1
      have hne:gl≠gd:=by rintro rfl;rw[cU] at hlm;cases hlm
      have hlS':S gl=none:=by rw[aC hne] at hlS;exact hlS
      have hat:∀ m',Nle (eY m gd (0,some w.heap.size)) m'→At m' gd 0 fun ob=>ob=some w.heap.size:=fun m' hn=>by
        obtain⟨v',b',k1,k2,k3⟩:=hn gd 0 (some w.heap.size) (cU _ _ _)
        exact⟨v',b',k1,Nat.zero_le _,fun e=>k3 e⟩
      obtain⟨r2,s2⟩:=push_ok (x':=.loop .ready none fn t ps asg bd gd) (o:=.loop { state:=.ready,pending:=none,fn:=fn,tmps:=a.tmps,params:=ps,assign:=asg,body:=bd,defers:=w.heap.size }) r1 hlm
        (fun m' hn=>⟨a.tmps,w.heap.size,hat m' hn,rfl,hs1.RepA.keep (oK r1 _ hn)⟩)
      have hs2:=hs1.step s2 r2
      obtain⟨S1,R,⟨hc,hf⟩,hsub,hk⟩:=h fn gd gl hgS hlS' (Ne.symm hne)
      have s12:=s1.trans s2
      have hsz:(w.heap.push (Obj.deferred (some []))).size=w.heap.size+1:=by simp
      let w2:World:=(w.alloc (.deferred (some []))).alloc (.loop { state:=.ready,pending:=none,fn:=fn,tmps:=a.tmps,params:=ps,assign:=asg,body:=bd,defers:=w.heap.size })
      have hml:eY (eY m gd (0,some w.heap.size)) gl (0,some (w.heap.size+1)) gl=some (0,some (w.heap.size+1)):=cU _ _ _
      have e2:(eY (eY m gd ((AO.dfr).ver,some w.heap.size)) gl ((AO.loop .ready none fn t ps asg bd gd).ver,some (w.heap.push (Obj.deferred (some []))).size))=eY (eY m gd (0,some w.heap.size)) gl (0,some (w.heap.size+1)):=by rw[hsz];rfl
      rw[e2] at r2 s2 hs2 s12
      generalize hm2:eY (eY m gd (0,some w.heap.size)) gl (0,some (w.heap.size+1))=m2 at r2 s2 hs2 s12 hml
      have hw2:w2={ ({ w with heap:=w.heap.push (Obj.deferred (some [])) }:World) with heap:=(w.heap.push (Obj.deferred (some []))).push (.loop { state:=.ready,pending:=none,fn:=fn,tmps:=a.tmps,params:=ps,assign:=asg,body:=bd,defers:=w.heap.size }) }:=rfl
      rw[← hw2] at r2 s2 hs2 s12
      have hyl:gD w2 fr m2 #[.func (.yield (w.heap.size+1)) #[] #[]] [.yld gl]:=⟨rfl,fun i h1 h2=>by
        have:i=0:=by simp at h1;omega
        subst this
        exact .yld _ gl ⟨0,some (w.heap.size+1),hml,Nat.le_refl _,fun _=>⟨_,rfl,rfl⟩⟩⟩
      have hk12:=s12.keep hs.rel
      have hargs:=sU (gD.keep ⟨a1,a3⟩ hk12) hyl (gD.keep ⟨a2,a4⟩ hk12)
      have hmark:DsR w2 fr m2 ({ target:=.collected w.heap.size,args:=#[] }::a.defers) (.mark gd::D):=⟨by
        have hd:m2 gd=some (0,some w.heap.size):=by rw[← hm2,gM (Ne.symm hne),cU]
        exact⟨0,_,hd,Nat.le_refl _,fun _=>⟨_,rfl,rfl⟩⟩,hs2.dfr⟩
      refine⟨w.heap.size+1,_,w2,{ target:=.fn (.func f) fc,args:=fa ++ #[.func (.yield (w.heap.size+1)) #[] #[]] },w2,f,fa ++ #[.func (.yield (w.heap.size+1)) #[] #[]]++fc,w2,run_enterLoop_outer ..,?_,fun _ _=>trivial,?_,(fun h=>by cases h),?_⟩
      · simp only[resolve,rangeCall,he,Deferred.ofValue]
        simp[Act.eval]
      · obtain⟨fn',h1,h2,h3⟩:=hc
        have h2':¬ fn'.name="runtime.NumGoroutine":=by simpa using h2
        have h3':¬ fn'.body=none:=by intro e;rw[e] at h3;cases h3
        simp[invoke,callFunc,h1,h2',h3']
      · refine callsIn_wide.2 ((hf w2 fr m2 _ (r2.weak hsub) hargs).mono ?_)
        rintro e w3 ⟨out,S',fr3,m3,hR,ho,r3,s3⟩
        obtain⟨g1,g2,g3⟩:=sZ r2 hsub r3 s3
        have hq:=hk out S' hR g3
        have hs3:kZ { a with defers:={ target:=.collected w.heap.size,args:=#[] }::a.defers } w3 fr3 m3 t _ (.mark gd::D):=
          kZ.step ⟨r2,hs2.len,hs2.tmp,hmark⟩ g2 g1
        have s13:=s12.trans g2
        cases e with
        | returned v=>
          cases out with
          | pan p=>exact ho.elim
          | ret p=>
            obtain⟨st,pd,fn',tt,ps',as',bd',d,S4,hS2,hb,hsle,hq⟩:=hq
            obtain⟨ob,hm3,_⟩:=g1.obj gl _ hS2
            obtain⟨_,l',e1,tmps',db',hd',ho',hr'⟩:=loop_at (l:=0) g1 hS2 hm3
            obtain⟨v',b',k1,k2,k3⟩:=g2.nam gl 0 _ hml
            rw[k1] at hm3
            simp only[AO.ver,Option.some.injEq,Prod.mk.injEq] at hm3
            obtain⟨rfl,rfl⟩:=hm3
            have:=k3 rfl
            subst e1;cases this
            obtain⟨p1,p2⟩:=put_ok (x':=.loop .exhausted pd fn' tt ps' as' bd' d) (o':=.loop { state:=.exhausted,pending:=pd,fn:=fn',tmps:=tmps',params:=ps',assign:=as',body:=bd',defers:=db' }) g1 k1 hS2 ho' (wG ho') rfl
              (fun hk=>⟨tmps',db',hd',rfl,hr'.keep hk⟩)
            have s14:=(s13.trans p2).trans (bZ.weak _ _ _ hsle)
            have hs4:=hs3.step (p2.trans (bZ.weak _ _ _ hsle)) (p1.weak hsle)
            refine⟨pd,_,run_endLoop ho' hb,?_⟩
            cases pd with
            | none=>exact⟨.normal,t,S4,_,fr3,m3,hq,trivial,hs4,s14⟩
            | some c=>exact wpIn_mono (hq _ _ _ _ hs4) fun _ _ _ h=>dF.trans s14 h
        | panicked ch=>
          cases out with
          | ret p=>exact (by unfold nQ at ho;split at ho <;> simp_all)
          | pan p=>
            refine⟨.panic p,t,_,_,fr3,m3,hq,?_,hs3,s13⟩
            unfold nQ at ho
            split at ho
            · rename_i e1 e2;cases e1
            · rename_i e1 e2;cases e1;cases e2;exact ho
            · exact ho.elim
        | outgrown=>cases out <;> exact ho.elim
  · exact h.elim
inductive AM where
 | ret
 | pan (p:PV)
 | done
def lJ (w:World) (fr:Nat→Prop) (m:aQ):FrameMode→AM→Prop
 | .returning,.ret=>True
 | .panicking [{ v,recovered:=false,goexit:=false }],.pan p=>Rep w fr m v p
 | .panicking [{ recovered:=true,goexit:=false,.. }],.done=>True
 | _,_=>False
theorem lJ.ret {w:World} {fr:Nat→Prop} {m:aQ} {u:FrameMode} (h:lJ w fr m u .ret):u=.returning:=by
 unfold lJ at h;split at h <;> first | rfl | (rename_i e;cases e) | exact h.elim
theorem lJ.pan {w:World} {fr:Nat→Prop} {m:aQ} {u:FrameMode} {p:PV} (h:lJ w fr m u (.pan p)):∃ v,u=.panicking [{ v,recovered:=false,goexit:=false }]∧Rep w fr m v p:=by
 unfold lJ at h;split at h
 ·rename_i e;cases e
 ·rename_i e;cases e;exact⟨_,rfl,h⟩
 ·rename_i e;cases e
 ·exact h.elim
theorem lJ.done {w:World} {fr:Nat→Prop} {m:aQ} {u:FrameMode} (h:lJ w fr m u .done):∃ v,u=.panicking [{ v,recovered:=true,goexit:=false }]:=by
 unfold lJ at h;split at h
 ·rename_i e;cases e
 ·rename_i e;cases e
 ·exact⟨_,rfl⟩
 ·exact h.elim
theorem nQ.pan {w:World} {fr:Nat→Prop} {m:aQ} {e:Ending} {p:PV} (h:nQ w fr m e (.pan p)):∃ v,e=.panicked [{ v,recovered:=false,goexit:=false }]∧Rep w fr m v p:=by
 unfold nQ at h;split at h
 ·rename_i e;cases e
 ·rename_i e;cases e;exact⟨_,rfl,h⟩
 ·exact h.elim
theorem nQ.ret {w:World} {fr:Nat→Prop} {m:aQ} {e:Ending} {p:PV} (h:nQ w fr m e (.ret p)):∃ v,e=.returned v∧Rep w fr m v p:=by
 unfold nQ at h;split at h
 ·rename_i e;cases e;exact⟨_,rfl,h⟩
 ·rename_i e;cases e
 ·exact h.elim
def FnD (P:Program) (f:Nat) (args:List PV) (u:AM) (S:aD) (R:iY→AM→aD→Prop):Prop:=
 xY P f∧∀ w fr m vs um,RelS w fr m S→gD w fr m vs args→lJ w fr m um u →
  CallsDIn (FR none) 0 P f vs um w fun e um' w'=>∃ o u' S' fr' m',R o u' S'∧nQ w' fr' m' e o∧lJ w' fr' m' um' u'∧RelS w' fr' m' S'∧bZ w fr m S w' fr' m' S'
@[irreducible] def callDW (P:Program) (f:Nat) (args:List PV) (u:AM) (S:aD) (k:iY→AM→aD→Prop):Prop:=
 ∃ S1 R,FnD P f args u S1 R∧bV S S1∧∀ o u' S',R o u' S'→(∀ g,(S' g).isSome=true→(S1 g).isSome=true∨S g=none)→k o u' (jD S S1 S')
@[irreducible] def pG (S:aD) (g:Nat):Prop:=S g=some .dfr
def qD (G:List TI) (P:Program) (rs:List ResultVar) (R:iY→aD→Prop) (t:List PV):List DA→AM→aD→Prop
 | [],.ret,S=>resK G t S rs fun vs=>oneK vs fun v=>∃ S',bV S S'∧R (.ret v) S'
 | [],.pan p,S=>∃ S',bV S S'∧R (.pan p) S'
 | [],.done,_=>False
 | .mark g::D,u,S=>pG S g∧qD G P rs R t D u (iZ S g)
 | .call f args::D,u,S=>callDW P f args u S fun o u' S'=>match o,u' with
  | .ret _,.ret=>qD G P rs R t D .ret S'
  | .ret _,.done=>qD G P rs R t D .ret S'
  | .ret _,.pan p=>qD G P rs R t D (.pan p) S'
  | .pan p,.ret=>qD G P rs R t D (.pan p) S'
  | .pan _,_=>False
def endDX (G:List TI) (P:Program) (rs:List ResultVar) (R:iY→aD→Prop):bQ
 | .normal,t,S,D=>qD G P rs R t D .ret S
 | .ret,t,S,D=>qD G P rs R t D .ret S
 | .panic p,t,S,D=>qD G P rs R t D (.pan p) S
 | _,_,_,_=>False
theorem lJ.keep {w w':World} {fr fr':Nat→Prop} {m m':aQ} {um:FrameMode} {u:AM} (h:lJ w fr m um u) (k:iT w fr m w' fr' m'):lJ w' fr' m' um u:=by
 cases u with
 | ret=>have:=h.ret;subst this;trivial
 | pan p=>obtain⟨v,rfl,hv⟩:=h.pan;exact hv.keep k
 | done=>obtain⟨v,rfl⟩:=h.done;trivial
theorem del_ok {w:World} {fr:Nat→Prop} {m:aQ} {S:aD} (r:RelS w fr m S) {g b:Nat} {x:AO} {v:Nat} {o:Obj} (hS:S g=some x) (hm:m g=some (v,some b)) (hsh:w.shape? b=none) :
  RelS (w.putObj b o) fr m (iZ S g)∧bZ w fr m S (w.putObj b o) fr m (iZ S g):=by
 have hdel:∀ {h x},iZ S g h=some x→h≠g∧S h=some x:=fun {h x} hx=>by
  unfold iZ at hx;split at hx
  ·cases hx
  ·exact⟨by assumption,hx⟩
 have hown:∀ b,Own m (iZ S g) b→Own m S b:=fun b ⟨h,x,v,h1,h2⟩=>⟨h,x,v,(hdel h1).2,h2⟩
 have hold:∀ c,c≠b→(w.putObj b o).heap[c]?=w.heap[c]?:=fun c hc=>World.putObj_heap_other hc
 have hshape:∀ c N,(w.shape? c).map (·.2)=some N→((w.putObj b o).shape? c).map (·.2)=some N:=fun c N hN=>by
  by_cases e:c=b
  ·subst e;rw[hsh] at hN;cases hN
  ·unfold World.shape? at hN ⊢;rw[hold c e];exact hN
 have hbo:Own m S b:=⟨g,x,v,hS,hm⟩
 have hk:iT w fr m (w.putObj b o) fr m:=⟨fun _ h=>h,fun c hc=>hold c (by rintro rfl;exact r.apart _ hc hbo),hshape,Nle.refl m⟩
 refine⟨⟨fun h y hy=>?_,fun c hc ho=>r.apart c hc (hown c ho),fun h h' x x' v v' b e1 e2=>r.inj h h' x x' v v' b (hdel e1).2 (hdel e2).2,fun c hc=>by simpa using r.frz c hc,r.bnd⟩,
  ⟨by simp,fun _ h=>h,fun _ h=>.inl h,fun c hc=>.inl (hown c hc),fun h hh=>?_,fun c hc hn=>hold c (by rintro rfl;exact hn hbo),hshape,Nle.refl m,fun _ _ _=>rfl,rfl,rfl⟩⟩
 ·obtain⟨hne,hy'⟩:=hdel hy
  obtain⟨ob,h1,h2⟩:=r.obj h y hy'
  refine⟨ob,h1,?_⟩
  cases ob with
  | none=>exact h2
  | some c=>
   obtain⟨o',h3,h4⟩:=h2
   refine⟨o',?_,h4.keep hk⟩
   rw[hold c ?_];exact h3
   rintro rfl
   exact hne (r.inj h g y x _ v c hy' hS h1 hm)
 ·obtain⟨y,hy⟩:=Option.isSome_iff_exists.1 hh
  exact .inl (by rw[(hdel hy).2];rfl)
theorem nJ (hG:jI P G) {fn:Func} {t:List PV} {R:iY→aD→Prop} {w0:World} {fr0:Nat→Prop} {m0:aQ} {S0:aD} {tmps:Array Value}:∀ {D:List DA} {ds:List Deferred} {u:AM} {um:FrameMode} {w:World} {fr:Nat→Prop} {m:aQ} {S:aD},
  qD G P fn.results.toList R t D u S→RelS w fr m S→gD w fr m tmps t→DsR w fr m ds D→lJ w fr m um u→u≠.done→bZ w0 fr0 m0 S0 w fr m S →
  LeavesInM (FR none) 0 P fn tmps (fun e w'=>∃ o S' fr' m',R o S'∧nQ w' fr' m' e o∧RelS w' fr' m' S'∧bZ w0 fr0 m0 S0 w' fr' m' S') ds um w
 | [],[],u,um,w,fr,m,S,h,rel,ht,hd,hu,hne,hst=>by
  cases u with
  | ret=>
   have:=hu.ret;subst this
   have hs:kZ { tmps:=tmps,defers:=[] } w fr m t S []:=⟨rel,ht.1,ht.tmp,trivial⟩
   obtain⟨v,p,e1,e2,S'',e3,e4⟩:=wE (P:=P) hG hs fn h
   exact⟨v,e1,.ret p,S'',fr,m,e4,e2,rel.weak e3,hst.trans (bZ.weak _ _ _ e3)⟩
  | pan p=>
   obtain⟨v,rfl,hv⟩:=hu.pan
   obtain⟨S'',e3,e4⟩:=h
   exact⟨.pan p,S'',fr,m,e4,hv,rel.weak e3,hst.trans (bZ.weak _ _ _ e3)⟩
  | done=>exact absurd rfl hne
 | .mark g::D,d::ds,u,um,w,fr,m,S,h,rel,ht,hd,hu,hne,hst=>by
  obtain⟨hS,h⟩:=h
  unfold pG at hS
  obtain⟨ob,hm,hob⟩:=rel.obj g _ hS
  obtain⟨⟨v',b',e1,e2,e3⟩,hds⟩:=hd
  have hm0:m g=some (0,ob):=hm
  rw[hm0] at e1
  cases e1
  obtain⟨b,rfl,rfl⟩:=e3 rfl
  obtain⟨o,ho,rfl⟩:=hob
  have hsh:w.shape? b=none:=by unfold World.shape?;rw[ho]
  obtain⟨k1,k2⟩:=del_ok (o:=.deferred none) rel hS hm0 hsh
  have hk:=k2.keep rel
  refine⟨?_,.inl ⟨b,_,rfl,run_takeDeferred ho,nJ hG h k1 (ht.keep hk) (hds.keep hk) (hu.keep hk) hne (hst.trans k2)⟩⟩
  cases u with
  | ret=>rw[hu.ret];simp
  | pan p=>obtain⟨v,e,_⟩:=hu.pan;rw[e];simp
  | done=>exact absurd rfl hne
 | .call f args::D,d::ds,u,um,w,fr,m,S,h,rel,ht,hd,hu,hne,hst=>by
  simp only[qD] at h
  unfold callDW at h
  obtain⟨S1,RR,⟨hc,hf⟩,hsub,h⟩:=h
  obtain⟨⟨cap,htar,hargs⟩,hds⟩:=hd
  have hrun:um≠.run:=by
   cases u with
   | ret=>rw[hu.ret];simp
   | pan p=>obtain⟨v,e,_⟩:=hu.pan;rw[e];simp
   | done=>exact absurd rfl hne
  refine⟨hrun,.inr ⟨(fun h=>by cases h),.func f,cap,f,d.args++cap,htar,?_,fun _ _=>trivial,?_⟩⟩
  ·obtain⟨fn',h1,h2,h3⟩:=hc
   have h2':¬ fn'.name="runtime.NumGoroutine":=by simpa using h2
   have h3':¬ fn'.body=none:=by intro e;rw[e] at h3;cases h3
   simp[htar,invoke,callFunc,h1,h2',h3']
  ·refine (hf w fr m _ um (rel.weak hsub) hargs hu).mono ?_
   rintro e um' w' ⟨o,u',S',fr',m',hR,ho,hu',r',s'⟩
   obtain⟨g1,g2,g3⟩:=sZ rel hsub r' s'
   have hq:=h o u' S' hR g3
   have hk:=g2.keep rel
   cases o with
   | ret p=>
    obtain⟨v,rfl,hv⟩:=ho.ret
    dsimp only
    cases u' with
    | ret=>have:=hu'.ret;subst this;exact nJ hG hq g1 (ht.keep hk) (hds.keep hk) (um:=.returning) (u:=.ret) trivial (by simp) (hst.trans g2)
    | pan p=>
     obtain⟨v',rfl,hv'⟩:=hu'.pan
     exact nJ hG hq g1 (ht.keep hk) (hds.keep hk) (u:=.pan p) hv' (by simp) (hst.trans g2)
    | done=>obtain⟨v',rfl⟩:=hu'.done;exact nJ hG hq g1 (ht.keep hk) (hds.keep hk) (um:=.returning) (u:=.ret) trivial (by simp) (hst.trans g2)
   | pan p=>
    obtain⟨v,rfl,hv⟩:=ho.pan
    dsimp only
    cases u' with
    | ret=>have:=hu'.ret;subst this;exact nJ hG hq g1 (ht.keep hk) (hds.keep hk) (u:=.pan p) hv (by simp) (hst.trans g2)
    | pan p=>exact hq.elim
    | done=>exact hq.elim
 | [],_::_,_,_,_,_,_,_,_,_,_,hd,_,_,_=>hd.elim
 | _::_,[],_,_,_,_,_,_,_,_,_,hd,_,_,_=>hd.elim
theorem start_ok {w:World} {fr:Nat→Prop} {m:aQ} {S:aD} {vs:Array Value} {args:List PV} {n:Nat} (hr:RelS w fr m S) (ha:gD w fr m vs args) (hl:args.length≤n) :
  kZ { tmps:=vs++Array.replicate (n - vs.size) undef,defers:=[] } w fr m (lS args n) S []:=by
 have hpl:=xP args n hl
 refine⟨hr,by simp[hpl,ha.1];omega,fun i=>?_,trivial⟩
 rw[xT _ _ _ hpl]
 split
 ·rename_i hi
  have h2:=ha.2 i (by rw[ha.1];exact hi) hi
  have:(vs++Array.replicate (n - vs.size) undef).getD i undef=vs[i]'(by rw[ha.1];exact hi):=by
   rw[Array.getD_eq_getD_getElem?,Array.getElem?_append_left (by rw[ha.1];exact hi),Array.getElem?_eq_getElem (by rw[ha.1];exact hi)]
   rfl
  rw[this];exact h2
 ·exact .any _
theorem tW (hG:jI P G) {f:Nat} {fn:Func} {c:Code} {args:List PV} {S:aD} {R:iY→aD→Prop} (hf:P.funcs[f]?=some fn) (hb:fn.body=some c) (hn:(fn.name == "runtime.NumGoroutine")=false)
  (hl:Nat.ble args.length fn.ntmps=true) (h:T P none c (endDX G P fn.results.toList R) (lS args fn.ntmps) S []):Fn P f args S R:=by
 refine⟨⟨fn,hf,hn,by rw[hb];rfl⟩,fun w fr m vs hr ha=>?_⟩
 have hst:=start_ok (n:=fn.ntmps) hr ha (Nat.le_of_ble_eq_true hl)
 refine callsIn_wide.1 (callsIn_of_wp_marks (F:=FR none) (n:=0) hf hb trivial ?_)
 refine wpIn_mono (h _ w fr m hst) ?_
 rintro e a' w' ⟨x,t',S',D',fr',m',hq,hx,hs,hst'⟩
 cases e with
 | normal=>have:=hx.normal;subst this;exact nJ hG hq hs.rel hs.RepA hs.dfr (u:=.ret) (um:=.returning) trivial (by simp) hst'
 | ret=>have:=hx.ret;subst this;exact nJ hG hq hs.rel hs.RepA hs.dfr (u:=.ret) (um:=.returning) trivial (by simp) hst'
 | panic ch=>
  obtain⟨p,rfl⟩:=hx.panic
  have hm:lJ w' fr' m' (.panicking ch) (.pan p):=by
   unfold XR at hx
   split at hx
   ·rename_i e1 e2;cases e1
   ·rename_i e1 e2;cases e1
   ·rename_i e1 e2;cases e1
   ·rename_i e1 e2;cases e1
   ·rename_i e1 e2;cases e1;cases e2;exact hx
   ·exact hx.elim
  exact nJ hG hq hs.rel hs.RepA hs.dfr (u:=.pan p) hm (by simp) hst'
 | exit i=>have:=hx.exit;subst this;exact hq.elim
 | goto i=>have:=hx.goto;subst this;exact hq.elim
 | outgrown=>exact hx.outgrown.elim
theorem endX_body (hG:jI P G) {fn:Func} {R:iY→aD→Prop} {w:World} {fr:Nat→Prop} {m:aQ} {S:aD} {RR:Ending→World→Prop}
  (hR:∀ e w' o S' fr' m',R o S'→nQ w' fr' m' e o→RelS w' fr' m' S'→bZ w fr m S w' fr' m' S'→RR e w') :
  ∀ e a' w',dF w fr m S (endX G fn.results.toList R) e a' w'→bodyPost P fn RR e a' w':=by
 rintro e a' w' ⟨x,t',S',D',fr',m',hq,hx,hs,hst⟩
 have hend:∀ {D':List DA},DsR w' fr' m' a'.defers D'→D'=[]→a'.defers=[]:=by
  intro D' hd e
  subst e
  cases hd':a'.defers with
  | nil=>rfl
  | cons d ds=>rw[hd'] at hd;exact hd.elim
 have hret:(D'=[]∧resK G t' S' fn.results.toList fun vs=>oneK vs fun v=>∃ S'',bV S' S''∧R (.ret v) S'')→a'.defers=[]∧∃ v,(results fn a'.tmps).run P w'=.ok v w'∧RR (.returned v) w':=by
  rintro⟨hD,hk⟩
  obtain⟨v,p,e1,e2,S'',e3,e4⟩:=wE (P:=P) hG hs fn hk
  exact⟨hend hs.dfr hD,v,e1,hR _ _ (.ret p) S'' fr' m' e4 e2 (hs.rel.weak e3) (hst.trans (bZ.weak _ _ _ e3))⟩
 cases e with
 | normal=>have:=hx.normal;subst this;exact hret hq
 | ret=>have:=hx.ret;subst this;exact hret hq
 | panic ch=>
  obtain⟨p,rfl⟩:=hx.panic
  obtain⟨hD,S'',e3,e4⟩:=hq
  refine⟨hend hs.dfr hD,hR _ _ (.pan p) S'' fr' m' e4 ?_ (hs.rel.weak e3) (hst.trans (bZ.weak _ _ _ e3))⟩
  unfold XR at hx
  split at hx
  ·rename_i e1 e2;cases e1
  ·rename_i e1 e2;cases e1
  ·rename_i e1 e2;cases e1
  ·rename_i e1 e2;cases e1
  ·rename_i e1 e2;cases e1;cases e2;exact hx
  ·exact hx.elim
 | exit i=>have:=hx.exit;subst this;exact hq.elim
 | goto i=>have:=hx.goto;subst this;exact hq.elim
 | outgrown=>exact hx.outgrown.elim
def recV:AM→PV
 | .pan p=>p
 | _=>.nili
def recU:AM→AM
 | .pan _=>.done
 | u=>u
theorem FnD_rec (hG:jI P G) {f:Nat} {fn:Func} {id:Nat} {o:Oper} {c:Code} {args:List PV} {u:AM} {S:aD} {R:iY→aD→Prop} (hf:P.funcs[f]?=some fn) (hb:fn.body=some (.seq (.region id #[o] false) c)) (hn:(fn.name == "runtime.NumGoroutine")=false)
  (hl:Nat.ble args.length fn.ntmps=true) {at':Array Nat} (ho:o.op=.call { callee:=.builtin .recover,args:=#[],argTypes:=at' }) (hg:o.guard=none) (hu:u≠.done)
  (h:T P none c (endX G fn.results.toList R) (jH (lS args fn.ntmps) o.dst (recV u)) S []):FnD P f args u S fun o u' S'=>u'=recU u∧R o S':=by
 refine⟨⟨fn,hf,hn,by rw[hb];rfl⟩,fun w fr m vs um hr ha hum=>?_⟩
 have hst:=start_ok (n:=fn.ntmps) hr ha (Nat.le_of_ble_eq_true hl)
 refine callsDIn_of_wpSIn (F:=FR none) (n:=0) hf hb trivial fun c₀ cs hc=>wpSIn_seq (wpSIn_region ?_)
 have key:∀ (v:Value) (um':FrameMode),Rep w fr m v (recV u)→lJ w fr m um' (recU u) →
   c.wpSIn (FR none) 0 P (bodyPostS P fn c₀ cs fun e um' w'=>∃ o u' S' fr' m',(u'=recU u∧R o S')∧nQ w' fr' m' e o∧lJ w' fr' m' um' u'∧RelS w' fr' m' S'∧bZ w fr m S w' fr' m' S')
    (({ tmps:=vs++Array.replicate (fn.ntmps - vs.size) undef,defers:=[] }:Act).put o.dst v) ({ c₀ with mode:=um' }::cs) w:=by
  intro v um' hv hm
  refine wpSIn_of_wpIn rfl (wpIn_mono (h _ w fr m (hst.put o.dst hv)) ?_)
  intro e a' w' hp
  have hb:=endX_body (RR:=fun e w'=>∃ o u' S' fr' m',(u'=recU u∧R o S')∧nQ w' fr' m' e o∧lJ w' fr' m' um' u'∧RelS w' fr' m' S'∧bZ w fr m S w' fr' m' S') hG (fun e w' o S' fr' m' h1 h2 h3 h4=>⟨o,recU u,S',fr',m',⟨rfl,h1⟩,h2,hm.keep (h4.keep hr),h3,h4⟩) e a' w' hp
  cases e with
  | normal=>obtain⟨h1,v,h2,h3⟩:=hb;exact⟨h1,um',rfl,v,h2,h3⟩
  | ret=>obtain⟨h1,v,h2,h3⟩:=hb;exact⟨h1,um',rfl,v,h2,h3⟩
  | panic ch=>obtain⟨h1,h2⟩:=hb;exact⟨h1,um',rfl,h2⟩
  | exit i=>exact hb.elim
  | goto i=>exact hb.elim
  | outgrown=>exact⟨um',hb⟩
 have hrun:(execOp ({ tmps:=vs++Array.replicate (fn.ntmps - vs.size) undef,defers:=[] }:Act).eval o).run P w=.ok .recover w:=by
  simp[execOp,ho,resolve,invoke,builtin]
 have hr1:List.range (#[o]:Array Oper).size=[0]:=rfl
 have hw:∀ y,Region.wanted o y=true:=fun y=>by simp[Region.wanted,hg]
 rw[hr1]
 simp only[wpOpsSIn,List.getElem?_toArray,List.getElem?_cons_zero,hw,if_true,hrun]
 refine⟨fun _ _=>trivial,?_⟩
 cases u with
 | ret=>
  have:=hum.ret;subst this
  have e:recoverD (c₀::cs)=none:=by simp[recoverD,hc]
  rw[e]
  have:=key .nilIface .returning .nili trivial
  rw[← hc] at this
  exact this
 | pan p=>
  obtain⟨v,rfl,hv⟩:=hum.pan
  have e:recoverD (c₀::cs)=some (v,{ c₀ with mode:=.panicking [{ v,recovered:=true }] }::cs):=by simp[recoverD,hc]
  rw[e]
  exact key v _ hv trivial
 | done=>exact absurd rfl hu
end
section
variable {P:Program} {G:List TI} {r:Option Nat}
theorem lN {α:Type} {f:α→List PV} {l:List α} {e:Nat} {K:Prop} (h:l.length*e≤140737488355328→K):((l.map f).length*e≤cap47→K):=fun h'=>h (by simpa[cap47] using h')
theorem jT {α:Type} {f:α→List PV} {l:List α} {n:Nat} (h:∀ x,(f x).length=n):∀ c∈l.map f,c.length=n:=by
 intro c hc
 obtain⟨x,_,rfl⟩:=List.mem_map.1 hc
 exact h x
theorem bdW_lo {a:Int} {l n:Nat} {k:Nat→Nat→Prop} (ha:a=l) (h:l≤n) (hk:k l n):bdW (some a) none n k:=by
 subst ha
 unfold bdW
 exact⟨l,n,rfl,rfl,h,Nat.le_refl _,hk⟩
theorem bdW_hi {b:Int} {h n:Nat} {k:Nat→Nat→Prop} (hb:b=h) (hn:h≤n) (hk:k 0 h):bdW none (some b) n k:=by
 subst hb
 unfold bdW
 exact⟨0,h,rfl,rfl,Nat.zero_le _,hn,hk⟩
theorem bdW_lh {a b:Int} {l h n:Nat} {k:Nat→Nat→Prop} (ha:a=l) (hb:b=h) (hl:l≤h) (hn:h≤n) (hk:k l h):bdW (some a) (some b) n k:=by
 subst ha;subst hb
 unfold bdW
 exact⟨l,h,rfl,rfl,hl,hn,hk⟩
theorem kN {α:Type} {f:α→List PV} {l0:List α} {a:Int} {l:Nat} {k:List (List PV)→Prop} (ha:a=l) (h:l≤l0.length) (hk:k ((l0.drop l).map f)):zT (some a) none (l0.map f) k:=by
 unfold zT
 refine bdW_lo ha (by simpa using h) ?_
 rw[List.take_of_length_le (Nat.le_refl _),← List.map_drop];exact hk
theorem kE {α:Type} {f:α→List PV} {l0:List α} {b:Int} {h:Nat} {k:List (List PV)→Prop} (hb:b=h) (hh:h≤l0.length) (hk:k ((l0.take h).map f)):zT none (some b) (l0.map f) k:=by
 unfold zT
 refine bdW_hi hb (by simpa using hh) ?_
 rw[List.drop_zero,← List.map_take];exact hk
theorem oC {α:Type} {f:α→List PV} {l0:List α} {a b:Int} {l h:Nat} {k:List (List PV)→Prop} (ha:a=l) (hb:b=h) (hl:l≤h) (hh:h≤l0.length) (hk:k (((l0.take h).drop l).map f)):zT (some a) (some b) (l0.map f) k:=by
 unfold zT
 refine bdW_lh ha hb hl (by simpa using hh) ?_
 rw[← List.map_take,← List.map_drop];exact hk
theorem pJ {p:Prop} (h:true=false):p:=by cases h
theorem pH {p:Prop} (h:false=true):p:=by cases h
inductive BorV (S:aD):PV→PV→Prop
 | same (p:PV):BorV S p p
 | row (g ver sz e off len:Nat) (xs:List (List PV)) (hg:S g=some (.row ver sz e xs)) (h:off+len≤xs.length):BorV S (.row g ver off len sz) (.list e ((xs.drop off).take len))
 | ptr (g ver i j sz e:Nat) (xs:List (List PV)) (c:List PV) (hg:S g=some (.row ver sz e xs)) (h:xs[i]?=some c):BorV S (.ptr g ver i j sz) (.fptr c j)
 | nils (e:Nat):BorV S .nils (.list e [])
 | agg (ps qs:List PV) (hl:ps.length=qs.length) (h:∀ (i:Nat) (h1:i<ps.length) (h2:i<qs.length),BorV S ps[i] qs[i]):BorV S (.agg ps) (.agg qs)
 | fn (f:Go.Fn) (a c a' c':List PV) (hl:a.length=a'.length) (hl':c.length=c'.length) (h:∀ (i:Nat) (h1:i<a.length) (h2:i<a'.length),BorV S a[i] a'[i]) (h':∀ (i:Nat) (h1:i<c.length) (h2:i<c'.length),BorV S c[i] c'[i]):BorV S (.fn f a c) (.fn f a' c')
theorem row_fptr {w:World} {fr:Nat→Prop} {m:aQ} {S:aD} {g ver sz e i j:Nat} {xs:List (List PV)} {c:List PV} (rel:RelS w fr m S) (hg:S g=some (.row ver sz e xs)) (hi:xs[i]?=some c)
  {fr':Nat→Prop} (hup:∀ b,fr b→fr' b) (hfr:∀ b v,m g=some (v,some b)→fr' b) {v:Value} (hv:Rep w fr m v (.ptr g ver i j sz)):Rep w fr' m v (.fptr c j):=by
 obtain⟨ob,h1,h2⟩:=rel.obj g _ hg
 have hk:iT w fr m w fr' m:=⟨hup,fun _ _=>rfl,fun _ _ h=>h,Nle.refl m⟩
 obtain⟨hlt,hc⟩:=List.getElem?_eq_some_iff.1 hi
 subst hc
 cases hv with
 | ptr _ _ _ _ _ _ h=>
  obtain⟨v',b',e1,e2,e3⟩:=h
  rw[h1] at e1;cases e1
  obtain⟨b,rfl,rfl⟩:=e3 rfl
  obtain⟨o,ho,hle,arr,el,rfl,k1,k2,k3⟩:=h2
  refine .fptr b (i*sz) j _ (fun k=>(arr[i*sz+k]?).getD undef) (hfr b _ h1) (fun k hk'=>?_) (fun k hk'=>?_)
  ·obtain⟨v,hv,_⟩:=k3 i k hlt hk'
   simp[World.cell?,ho,hv]
  ·obtain⟨v,hv,hr⟩:=k3 i k hlt hk'
   rw[hv];exact hr.keep hk
theorem BorV.rep {w:World} {fr:Nat→Prop} {m:aQ} {S:aD} (rel:RelS w fr m S) {p q:PV} (h:BorV S p q):∀ {v:Value},Rep w fr m v p→Rep w (fun b=>fr b∨Own m S b) m v q:=by
 have hup:∀ b,fr b→fr b∨Own m S b:=fun b h=>.inl h
 have hk:iT w fr m w (fun b=>fr b∨Own m S b) m:=⟨hup,fun _ _=>rfl,fun _ _ h=>h,Nle.refl m⟩
 induction h with
 | same p=>exact fun hv=>hv.keep hk
 | row g ver sz e off len xs hg hl=>exact fun hv=>row_list rel hg hup (fun b v hm=>.inr ⟨g,_,v,hg,hm⟩) hv hl
 | ptr g ver i j sz e xs c hg hi=>exact fun hv=>row_fptr rel hg hi hup (fun b v hm=>.inr ⟨g,_,v,hg,hm⟩) hv
 | nils e=>intro v hv;cases hv;exact .list0 _ _ _
 | agg ps qs hl _ ih=>
  intro v hv
  cases hv with
  | agg cs _ hc hr=>exact .agg cs qs (hc.trans hl) fun i h1 h2=>ih i (by omega) h2 (hr i h1 (by omega))
 | fn f a c a' c' hl hl' _ _ ih ih'=>
  intro v hv
  cases hv with
  | fn _ va vc _ _ h1 h2 h3 h4=>exact .fn f va vc a' c' (h1.trans hl) (h2.trans hl') (fun i k1 k2=>ih i (by omega) k2 (h3 i k1 (by omega))) (fun i k1 k2=>ih' i (by omega) k2 (h4 i k1 (by omega)))
inductive Plain:PV→Prop
 | any:Plain .any
 | int (k:IntKind) (n:Int):Plain (.int k n)
 | bool (b:Bool):Plain (.bool b)
 | str (s:ByteArray):Plain (.str s)
 | list (e:Nat):Plain (.list e [])
 | nils:Plain .nils
 | nilp:Plain .nilp
 | nilm:Plain .nilm
 | nilf:Plain .nilf
 | nili:Plain .nili
 | agg (ps:List PV) (h:∀ p∈ps,Plain p):Plain (.agg ps)
 | tup (ps:List PV) (h:∀ p∈ps,Plain p):Plain (.tup ps)
 | iface (t:Nat) (p:PV) (h:Plain p):Plain (.iface t p)
theorem Plain.rep {w w':World} {fr fr':Nat→Prop} {m m':aQ} {p:PV} (h:Plain p):∀ {v:Value},Rep w fr m v p→Rep w' fr' m' v p:=by
 induction h with
 | any=>exact fun _=>.any _
 | int k n=>intro v hv;cases hv;exact .int k n (by assumption)
 | bool b=>intro v hv;cases hv;exact .bool b
 | str s=>intro v hv;cases hv;exact .str s (by assumption)
 | list e=>
  intro v hv
  cases hv with
  | list0=>exact .list0 _ _ _
  | list=>exact .list0 _ _ _
 | nils=>intro v hv;cases hv;exact .nils
 | nilp=>intro v hv;cases hv;exact .nilp
 | nilm=>intro v hv;cases hv;exact .nilm
 | nilf=>intro v hv;cases hv;exact .nilf
 | nili=>intro v hv;cases hv;exact .nili
 | agg ps _ ih=>
  intro v hv
  cases hv with
  | agg cs _ hc hr=>exact .agg cs ps hc fun i h1 h2=>ih _ (List.getElem_mem h2) (hr i h1 h2)
 | tup ps _ ih=>
  intro v hv
  cases hv with
  | tup cs _ hc hr=>exact .tup cs ps hc fun i h1 h2=>ih _ (List.getElem_mem h2) (hr i h1 h2)
 | iface t p _ ih=>
  intro v hv
  cases hv with
  | iface _ v _ h=>exact .iface t v p (ih h)
abbrev FnP (P:Program) (f:Nat) (args:List PV) (p:PV):Prop:=Fn P f args E fun o S'=>o=.ret p∧S'=E
def BorL (S:aD):List PV→List PV→Prop
 | [],[]=>True
 | p::ps,q::qs=>BorV S p q∧BorL S ps qs
 | _,_=>False
theorem BorL.len {S:aD}:∀ {ps qs:List PV},BorL S ps qs→ps.length=qs.length
 | [],[],_=>rfl
 | _::_,_::_,h=>by simp[BorL.len h.2]
 | [],_::_,h=>h.elim
 | _::_,[],h=>h.elim
theorem BorL.get {S:aD}:∀ {ps qs:List PV},BorL S ps qs→∀ (i:Nat) (h1:i<ps.length) (h2:i<qs.length),BorV S ps[i] qs[i]
 | _::_,_::_,h,0,_,_=>h.1
 | _::_,_::_,h,i+1,h1,h2=>BorL.get h.2 i (by simpa using h1) (by simpa using h2)
 | [],_,_,_,h1,_=>by simp at h1
 | _::_,[],h,_,_,_=>h.elim
theorem Fn_borrow {f:Nat} {args args':List PV} {S:aD} {p:PV} (h:FnP P f args' p) (hb:BorL S args args') (hp:Plain p):Fn P f args S fun o S'=>o=.ret p∧S'=S:=by
 refine⟨h.1,fun w fr m vs rel ha=>?_⟩
 have hrel:RelS w (fun b=>fr b∨Own m S b) m E:=
  ⟨fun g x hx=>(by cases hx),fun b _ ⟨g,x,v,h1,_⟩=>(by cases h1),fun g g' x x' v v' b h1=>(by cases h1),fun b hb=>by
   rcases hb with hb | hb
   ·exact rel.frz b hb
   ·exact rel.lt hb,rel.bnd⟩
 have hargs:gD w (fun b=>fr b∨Own m S b) m vs args':=⟨ha.1.trans hb.len,fun i h1 h2=>(hb.get i (by rw[hb.len];exact h2) h2).rep rel (ha.2 i h1 _)⟩
 refine (h.2 w _ m vs hrel hargs).mono ?_
 rintro e w' ⟨o,S',fr',m',⟨rfl,rfl⟩,ho,r',st⟩
 have hsame:∀ b,b<w.heap.size→w'.heap[b]?=w.heap[b]?:=fun b hb=>st.same b hb fun⟨g,x,v,h1,_⟩=>by cases h1
 have hm:∀ g,(m g).isSome=true→m' g=m g:=fun g hg=>st.out g hg rfl
 have hk:iT w fr m w' fr m':=⟨fun _ h=>h,fun b hb=>hsame b (rel.frz b hb),st.shape,st.nam⟩
 have hobj:∀ g x,S g=some x→∃ ob,m g=some (x.ver,ob)∧m' g=some (x.ver,ob)∧ObjAt w fr m x ob:=fun g x hx=>by
  obtain⟨ob,h1,h2⟩:=rel.obj g x hx
  exact⟨ob,h1,(hm g (by rw[h1];rfl)).trans h1,h2⟩
 have hown:∀ b,Own m' S b→Own m S b:=by
  rintro b ⟨g,x,v,h1,h2⟩
  obtain⟨ob,k1,k2,_⟩:=hobj g x h1
  rw[k2] at h2
  exact⟨g,x,v,h1,by rw[k1];exact h2⟩
 refine⟨.ret p,S,fr,m',⟨rfl,rfl⟩,?_,⟨fun g x hx=>?_,fun b hb ho=>rel.apart b hb (hown b ho),fun g g' x x' v v' b h1 h2 h3 h4=>?_,fun b hb=>Nat.lt_of_lt_of_le (rel.frz b hb) st.size,r'.bnd⟩,
  ⟨st.size,fun _ h=>h,fun _ h=>.inl h,fun b hb=>.inl (hown b hb),fun _ h=>.inl h,fun b hb _=>hsame b hb,st.shape,st.nam,fun g hg _=>hm g hg,st.io⟩⟩
 ·obtain⟨v,rfl,hv⟩:=ho.ret
  exact hp.rep hv
 ·obtain⟨ob,h1,h2,h3⟩:=hobj g x hx
  refine⟨ob,h2,?_⟩
  cases ob with
  | none=>exact h3
  | some b=>
   obtain⟨o,h4,h5⟩:=h3
   exact⟨o,(hsame b (Array.getElem?_eq_some_iff.1 h4).1).trans h4,h5.keep hk⟩
 ·obtain⟨ob,k1,k2,_⟩:=hobj g x h1
  obtain⟨ob',k1',k2',_⟩:=hobj g' x' h2
  rw[k2] at h3;rw[k2'] at h4
  exact rel.inj g g' x x' v v' b h1 h2 (by rw[k1];exact h3) (by rw[k1'];exact h4)
theorem gK {f:Nat} {args args':List PV} {S:aD} {p:PV} {kr kp:PV→aD→Prop} (h:FnP P f args' p) (hb:BorL S args args') (hp:Plain p) (hk:kr p S):kJ P f args S kr kp:=
 bN (Fn_borrow h hb hp) (aB S) hk
theorem bE {f:Nat} {args:List PV} {S:aD} {p:PV} {kr kp:PV→aD→Prop} (h:FnP P f args p) (hk:kr p S):kJ P f args S kr kp:=
 bN h (aM S) hk
end
section
variable {P:Program} {G:List TI} {r:Option Nat}
theorem cJ {φ:Prop} {c:Code} {Q:bQ} {t:List PV} {S:aD} {D:List DA} (h:∀ a w fr m,kZ a w fr m t S D→φ) (k:φ→T P r c Q t S D):T P r c Q t S D:=
 fun a w fr m hs=>k (h a w fr m hs) a w fr m hs
theorem qO {w:World} {fr:Nat→Prop} {m:aQ} {v:Value} {e:Nat} {xs:List (List PV)} (h:Rep w fr m v (.list e xs)):xs.length*e≤140737488355328:=by
 cases h with
 | list0=>simp
 | list b o cap e sz xs vals hf hc he=>exact he
theorem bW {t:List PV} {S:aD} {D:List DA} {d e:Nat} {xs:List (List PV)} (hd:getT t d=.list e xs):∀ a w fr m,kZ a w fr m t S D→xs.length*e≤140737488355328:=
 fun a w fr m hs=>qO (hd ▸ hs.tmp d)
theorem str_bound {t:List PV} {S:aD} {D:List DA} {d:Nat} {s:ByteArray} (hd:getT t d=.str s):∀ a w fr m,kZ a w fr m t S D→s.size≤140737488355328:=
 fun a w fr m hs=>by
  have:=hs.tmp d
  rw[hd] at this
  revert this;generalize a.tmps.getD d undef=v
  intro h;cases h;assumption
theorem row_bound {t:List PV} {S:aD} {D:List DA} {g ver sz e:Nat} {xs:List (List PV)} (hg:S g=some (.row ver sz e xs)):∀ a w fr m,kZ a w fr m t S D→xs.length*e≤140737488355328:=
 fun a w fr m hs=>by
  obtain⟨ob,h1,h2⟩:=hs.rel.obj g _ hg
  cases ob with
  | none=>obtain⟨_,_,_,e⟩:=h2;cases e;simp
  | some b=>obtain⟨o,_,h3,_⟩:=h2;exact h3
theorem nil_row {w:World} {fr:Nat→Prop} {m:aQ} {S:aD} (rel:RelS w fr m S) (sz e:Nat):∃ g m',S g=none∧RelS w fr m' (aK S g (.row 0 sz e []))∧bZ w fr m S w fr m' (aK S g (.row 0 sz e [])) ∧
  Rep w fr m' (.slice none 0 0) (.row g 0 0 0 sz):=
 let ⟨g,h1,h2,h3,h4⟩:=nil_name rel sz e
 ⟨g,_,h1,h2,h3,h4⟩
theorem gJ {c:Code} {Q:bQ} {t:List PV} {S:aD} {D:List DA} (d sz e:Nat) (hd:getT t d=.nils) (h:∀ g,S g=none→T P r c Q (t.set d (.row g 0 0 0 sz)) (aK S g (.row 0 sz e [])) D):T P r c Q t S D:=by
 intro a w fr m hs
 obtain⟨g,m',h1,h2,h3,h4⟩:=nil_row hs.rel sz e
 have hs':=hs.step h3 h2
 refine wpIn_mono (h g h1 a w fr m' ⟨h2,by simpa using hs'.len,fun i=>?_,hs'.dfr⟩) fun _ _ _ h=>dF.trans h3 h
 rw[fU]
 split
 ·rename_i e'
  have:=hs.tmp i
  rw[e'.1] at this ⊢
  rw[hd] at this
  revert this
  generalize a.tmps.getD d undef=v
  intro hv;cases hv;exact h4
 ·exact hs'.tmp i
def aO (o:iY) (S:aD) (R:iY→aD→Prop):Prop:=
 ∀ e w fr m,nQ w fr m e o→RelS w fr m S→∃ o' S' fr' m',R o' S'∧nQ w fr' m' e o'∧RelS w fr' m' S'∧bZ w fr m S w fr' m' S'
theorem cL {f:Nat} {args:List PV} {S:aD} {R:iY→aD→Prop} (h:Fn P f args S fun o S'=>aO o S' R):Fn P f args S R:=
 ⟨h.1,fun w fr m vs h1 h2=>(h.2 w fr m vs h1 h2).mono fun e w' ⟨o,S',fr',m',k1,k2,k3,k4⟩=>
  let ⟨o',S'',fr'',m'',j1,j2,j3,j4⟩:=k1 e w' fr' m' k2 k3
  ⟨o',S'',fr'',m'',j1,j2,j3,k4.trans j4⟩⟩
theorem aO.same {o:iY} {S:aD} {R:iY→aD→Prop} (h:R o S):aO o S R:=fun e w fr m h1 h2=>⟨o,S,fr,m,h,h1,h2,.refl _ _ _ _⟩
theorem aO.weak {o:iY} {S S':aD} {R:iY→aD→Prop} (hs:bV S S') (h:aO o S' R):aO o S R:=fun e w fr m h1 h2=>
 let ⟨o',S'',fr',m',j1,j2,j3,j4⟩:=h e w fr m h1 (h2.weak hs)
 ⟨o',S'',fr',m',j1,j2,j3,(bZ.weak _ _ _ hs).trans j4⟩
theorem aO.nilrow {S:aD} {R:iY→aD→Prop} (sz e:Nat) (h:∀ g,S g=none→R (.ret (.row g 0 0 0 sz)) (aK S g (.row 0 sz e []))):aO (.ret .nils) S R:=by
 intro e' w fr m h1 h2
 obtain⟨v,rfl,hv⟩:=h1.ret
 obtain⟨g,m',k1,k2,k3,k4⟩:=nil_row h2 sz e
 refine⟨_,_,fr,m',h g k1,?_,k2,k3⟩
 cases hv;exact k4
theorem aO.freeze {S:aD} {R:iY→aD→Prop} {p q:PV} {g ver sz e:Nat} {xs:List (List PV)} (hg:S g=some (.row ver sz e xs)) (hf:FzV g ver sz e xs p q) (h:aO (.ret q) (iZ S g) R):aO (.ret p) S R:=by
 intro e' w fr m h1 h2
 obtain⟨v,rfl,hv⟩:=h1.ret

 have hs:kZ { tmps:=#[v],defers:=[] } w fr m [p] S []:=⟨h2,rfl,fun i=>by
  cases i with
  | zero=>exact hv
  | succ i=>exact .any _,trivial⟩
 obtain⟨fr',m',k1,k2⟩:=sM (t:=[p]) (t':=[q]) hg rfl (fun i=>by
  cases i with
  | zero=>exact hf
  | succ i=>exact .same _) _ _ _ _ _ hs
 obtain⟨o',S'',fr'',m'',j1,j2,j3,j4⟩:=h (.returned v) w fr' m' (show Rep w fr' m' v q from k1.tmp 0) k1.rel
 exact⟨o',S'',fr'',m'',j1,j2,j3,k2.trans j4⟩
inductive NilV:PV→PV→Prop
 | same (p:PV):NilV p p
 | nils (e:Nat):NilV .nils (.list e [])
 | tup (ps qs:List PV) (hl:ps.length=qs.length) (h:∀ (i:Nat) (h1:i<ps.length) (h2:i<qs.length),NilV ps[i] qs[i]):NilV (.tup ps) (.tup qs)
 | agg (ps qs:List PV) (hl:ps.length=qs.length) (h:∀ (i:Nat) (h1:i<ps.length) (h2:i<qs.length),NilV ps[i] qs[i]):NilV (.agg ps) (.agg qs)
 | list (e:Nat) (xs ys:List (List PV)) (hl:xs.length=ys.length) (hs:∀ (i:Nat) (h1:i<xs.length) (h2:i<ys.length),xs[i].length=ys[i].length)
   (h:∀ (i:Nat) (h1:i<xs.length) (h2:i<ys.length) (j:Nat) (h3:j<xs[i].length) (h4:j<ys[i].length),NilV xs[i][j] ys[i][j]):NilV (.list e xs) (.list e ys)
theorem NilV.rep {w:World} {fr:Nat→Prop} {m:aQ} {p q:PV} (h:NilV p q):∀ {v:Value},Rep w fr m v p→Rep w fr m v q:=by
 induction h with
 | same p=>exact fun h=>h
 | nils e=>intro v hv;cases hv;exact .list0 _ _ _
 | tup ps qs hl _ ih=>
  intro v hv
  cases hv with
  | tup cs _ hc hr=>exact .tup cs qs (hc.trans hl) fun i h1 h2=>ih i (by omega) h2 (hr i h1 (by omega))
 | agg ps qs hl _ ih=>
  intro v hv
  cases hv with
  | agg cs _ hc hr=>exact .agg cs qs (hc.trans hl) fun i h1 h2=>ih i (by omega) h2 (hr i h1 (by omega))
 | list e xs ys hl hs _ ih=>
  intro v hv
  cases hv with
  | list0 base cap e=>
   have:ys=[]:=List.length_eq_zero_iff.1 (by rw[← hl];rfl)
   subst this;exact .list0 _ _ _
  | list b o cap e sz xs vals hf hc he hsz hv hr=>
   rw[hl]
   exact .list b o cap e sz ys vals hf (by omega) (by rw[← hl];exact he) (fun i h=>by rw[← hs i (by omega) h];exact hsz i (by omega)) (fun i j hi hj=>hv i j (by omega) hj)
    fun i j hi hj=>ih i (by omega) hi j (by rw[hs i (by omega) hi];exact hj) hj (hr i j (by omega) (by rw[hs i (by omega) hi];exact hj))
theorem aO.nilv {S:aD} {R:iY→aD→Prop} {p q:PV} (hn:NilV p q) (h:aO (.ret q) S R):aO (.ret p) S R:=by
 intro e' w fr m h1 h2
 obtain⟨v,rfl,hv⟩:=h1.ret
 exact h _ w fr m (hn.rep hv) h2
theorem dG {S:aD} {g ver:Nat} {x:AO} (h:S g=some x) (hv:x.ver=ver):dK S g ver:=by unfold dK;exact⟨x,h,hv⟩
theorem aS {S:aD} {g ver i sz e:Nat} {xs:List (List PV)} {c:List PV} {k:List PV→Prop} (h:S g=some (.row ver sz e xs)) (hi:xs[i]?=some c) (hk:k c):ldW S g ver i sz k:=by
 unfold ldW;exact⟨e,xs,c,h,hi,hk⟩
theorem eR {S:aD} {g ver i j sz e:Nat} {xs:List (List PV)} {old c:List PV} {k:aD→Prop} (h:S g=some (.row ver sz e xs)) (hi:xs[i]?=some old) (hj:j+c.length≤old.length)
  (hk:∀ new,lE old j c (fun l=>l=new)→k (aK S g (.row ver sz e (xs.set i new)))):stW S g ver i j sz c k:=by
 unfold stW;exact⟨e,xs,old,h,hi,hj,hk⟩
theorem mO {S:aD} {g:Nat} {key:MK} {f:MK→Option PV} {k:Option PV→Prop} (h:S g=some (.map key.isS f)) (hk:k (f key)):lkW S g key k:=by unfold lkW;exact⟨f,h,hk⟩
theorem lZ {o:Option PV} {ks:PV→Prop} {kn:Prop} (h1:∀ p,o=some p→ks p) (h2:o=none→kn):optW o ks kn:=by unfold optW;exact⟨h1,h2⟩
theorem dL {S:aD} {g:Nat} {str:Bool} {f:MK→Option PV} {k:(MK→Option PV)→Prop} (h:S g=some (.map str f)) (hk:k f):mapW S g str k:=by unfold mapW;exact⟨f,h,hk⟩
theorem aG {S:aD} {x:AO} {k:Nat→aD→Prop} (h:∀ g,S g=none→k g (aK S g x)):rJ S x k:=by unfold rJ;exact h
theorem bX {S:aD} {g ver sz e:Nat} {xs:List (List PV)} {k:Nat→List (List PV)→Prop} (h:S g=some (.row ver sz e xs)) (hk:k e xs):rowW S g ver sz k:=by unfold rowW;exact⟨e,xs,h,hk⟩
theorem eV {S:aD} {e:Nat} {xs:List (List PV)} {k:List (List PV)→Prop} (hk:k xs):srcW S (.list e xs) k:=by unfold srcW;exact hk
theorem vY {xs:List (List PV)} {i:Int} {j:Nat} {c:List PV} {k:List PV→Prop} (hi:i=j) (h:xs[j]?=some c) (hk:k c):idxW xs i k:=by
 unfold idxW;subst hi;exact⟨by omega,c,by simpa using h,hk⟩
theorem bS {α:Type} {f:α→List PV} {l:List α} {i:Nat} {k:List PV→Prop} (h:i<l.length) (hk:k (f l[i])):idxW (l.map f) (i:Int) k:=by
 unfold idxW
 exact⟨by omega,f l[i],by simp[h],hk⟩
theorem nM {n:Int} (h:-9223372036854775808≤n∧n≤9223372036854775807):wY .i64 n:=by
 unfold wY
 simpa[IntKind.has,IntKind.min,IntKind.max,IntKind.signed,IntKind.bits] using h
theorem fG {α:Type} {S:aD} {f:α→List PV} {l:List α} {n:Nat} (h:∀ x,(f x).length=n∧dS S (f x)):∀ c∈l.map f,c.length=n∧dS S c:=by
 intro c hc
 obtain⟨x,_,rfl⟩:=List.mem_map.1 hc
 exact h x
theorem aL {S:aD} {g g':Nat} {x:AO} (h:S g=some x) (h':S g'=none):g'≠g:=by
 rintro rfl;rw[h] at h';cases h'
theorem pK {S:aD} {g ver sz e n:Nat} {xs:List (List PV)} (hg:S g=some (.row ver sz e xs)) (hn:n=xs.length):BorV S (.row g ver 0 n sz) (.list e xs):=by
 have:=BorV.row (S:=S) g ver sz e 0 n xs hg (by omega)
 rw[hn] at this
 simpa[hn] using this
theorem mrg_E (S':aD):jD E E S'=S':=by funext x;simp[jD,E];split <;> simp_all
def mix {α:Type} (f:α→α) (i:Nat) (l:List α):List α:=(l.take i).map f++l.drop i
theorem mix_len {α:Type} (f:α→α) (i:Nat) (l:List α):(mix f i l).length=l.length:=by simp[mix];omega
theorem mix_zero {α:Type} (f:α→α) (l:List α):mix f 0 l=l:=by simp[mix]
theorem mix_end {α:Type} (f:α→α) {i:Nat} {l:List α} (h:l.length≤i):mix f i l=l.map f:=by simp[mix,List.take_of_length_le h,List.drop_of_length_le h]
theorem mix_get {α:Type} (f:α→α) {i:Nat} {l:List α} (h:i<l.length):(mix f i l)[i]?=some l[i]:=by
 unfold mix
 rw[List.getElem?_append_right (by simp;omega)]
 have:(List.map f (List.take i l)).length=i:=by simp;omega
 rw[this];simp[h]
theorem xS {α:Type} (f:α→α) {i:Nat} {l:List α} (h:i<l.length):mix f (i+1) l=(mix f i l).set i (f l[i]):=by
 unfold mix
 have e:(List.map f (List.take i l)).length=i:=by simp;omega
 rw[List.set_append_right _ _ (by omega),e,Nat.sub_self,List.take_succ_eq_append_getElem h,List.map_append]
 conv=>rhs;rw[List.drop_eq_getElem_cons h]
 rw[List.set_cons_zero,List.append_assoc]
 rfl
theorem bB {S:aD} {g ver sz e:Nat} {xs:List (List PV)} (h:S g=some (.row ver sz e xs)):dK S g ver:=by unfold dK;exact⟨_,h,rfl⟩
theorem bO {S:aD} {g:Nat} {b:Bool} {f:MK→Option PV} (h:S g=some (.map b f)):dK S g 0:=by unfold dK;exact⟨_,h,rfl⟩
theorem sle_skip {S:aD} {g h:Nat} {y z:AO} (hg:S g=none) (hne:h≠g):bV (aK (aK S g y) h z) (aK S h z):=by
 intro k x hx
 by_cases e:k=h
 ·subst e;rw[aA] at hx ⊢;exact hx
 ·rw[aC e] at hx ⊢
  by_cases e2:k=g
  ·subst e2;rw[hg] at hx;cases hx
  ·rw[aC e2];exact hx
theorem aR {S:aD} {g:Nat} {y:AO} (hg:S g=none):bV (aK S g y) S:=by
 intro k x hx
 by_cases e2:k=g
 ·subst e2;rw[hg] at hx;cases hx
 ·rw[aC e2];exact hx
end
section
def bC (A B:aD):aD:=fun h=>match A h with | some x=>some x | none=>B h
def Dj (A B:aD):Prop:=∀ h x,A h=some x→B h=none
variable {A A' B B':aD}
theorem dM {g:Nat} {x:AO} (h:A g=some x):bC A B g=some x:=by simp[bC,h]
theorem gU {g:Nat} (h:A g=none):bC A B g=B g:=by simp[bC,h]
theorem bL {g:Nat}:bC A B g=none↔A g=none∧B g=none:=by
 cases h:A g <;> simp[bC,h]
theorem dQ:bV (bC A B) A:=fun g x h=>dM h
theorem Dj.symm (d:Dj A B):Dj B A:=fun h x hx=>by
 cases e:A h with
 | none=>rfl
 | some y=>rw[d h y e] at hx;cases hx
theorem cZ (d:Dj A B):bV (bC A B) B:=fun g x h=>by rw[gU (d.symm g x h)];exact h
theorem mrg_l (d:Dj A B):jD (bC A B) A A'=bC A' B:=by
 funext h
 simp only[jD,bC]
 cases e:A' h with
 | some x=>rfl
 | none=>
  cases e2:A h with
  | some y=>simp[d h y e2]
  | none=>simp
theorem mrg_r (d:Dj A B) (d':Dj A B'):jD (bC A B) B B'=bC A B':=by
 funext h
 simp only[jD,bC]
 cases e2:A h with
 | some y=>simp[d h y e2,d' h y e2]
 | none=>
  cases e:B' h with
  | some x=>simp
  | none=>cases e3:B h <;> simp
theorem mD {C:aD}:bC (bC A B) C=bC A (bC B C):=by
 funext h
 simp only[bC]
 cases A h <;> rfl
theorem nH:bC A E=A:=by funext h;simp only[bC,E];cases A h <;> rfl
theorem cF {g:Nat} {x:AO} (h:A g=none):aK (bC A B) g x=bC A (aK B g x):=by
 funext k
 simp only[aK,bC]
 split
 ·rename_i e;subst e;rw[h]
 ·rfl
theorem upd_new {g:Nat} {x:AO} (h:A g=none):aK A g x=bC A (aK E g x):=by
 rw[← cF h,nH]
theorem wA {g:Nat} {x:AO} (d:Dj A B) (h:A g=none):Dj A (aK B g x):=fun k y hk=>by
 by_cases e:k=g
 ·subst e;rw[h] at hk;cases hk
 ·rw[aC e];exact d k y hk
theorem Dj_E:Dj A E:=fun _ _ _=>rfl
theorem Dj_uni {C:aD} (h:Dj A (bC B C)) (k:Dj B C):Dj (bC A B) C:=fun g x hx=>by
 cases e:A g with
 | some y=>exact (bL.1 (h g y e)).2
 | none=>rw[gU e] at hx;exact k g x hx
theorem fV {S:aD} {g:Nat} {key:MK} {f:MK→Option PV} {p:PV} {ks:PV→Prop} {kn:Prop} (h:S g=some (.map key.isS f)) (hf:f key=some p) (hk:ks p):lkW S g key fun o=>optW o ks kn:=
 mO h (lZ (fun q hq=>by rw[hf] at hq;cases hq;exact hk) (fun hq=>by rw[hf] at hq;cases hq))
theorem jN {S:aD} {g:Nat} {key:MK} {f:MK→Option PV} {ks:PV→Prop} {kn:Prop} (h:S g=some (.map key.isS f)) (hf:f key=none) (hk:kn):lkW S g key fun o=>optW o ks kn:=
 mO h (lZ (fun q hq=>by rw[hf] at hq;cases hq) (fun hq=>hk))
end
section
variable {P:Program} {r:Option Nat}
theorem RelS.recell {w:World} {fr:Nat→Prop} {m:aQ} {S:aD} (h:RelS w fr m S) {g:Nat} {x x':AO} (hg:S g=some x) (hv:x'.ver=x.ver) (ho:∀ ob,m g=some (x.ver,ob)→ObjAt w fr m x ob→ObjAt w fr m x' ob) :
  RelS w fr m (aK S g x')∧bZ w fr m S w fr m (aK S g x'):=by
 have key:∀ k y,aK S g x' k=some y→∃ y',S k=some y'∧(k=g∨y=y'):=fun k y hk=>by
  by_cases e:k=g
  ·subst e;exact⟨x,hg,.inl rfl⟩
  ·rw[aC e] at hk;exact⟨y,hk,.inr rfl⟩
 refine⟨?_,?_⟩
 ·refine⟨fun k y hk=>?_,fun b hb ⟨k,y,v,h1,h2⟩=>?_,fun k k' y y' v v' b h1 h2 h3 h4=>?_,h.frz,h.bnd⟩
  ·by_cases e:k=g
   ·subst e
    rw[aA] at hk
    cases hk
    obtain⟨ob,h1,h2⟩:=h.obj k x hg
    exact⟨ob,by rw[hv];exact h1,ho ob h1 h2⟩
   ·rw[aC e] at hk;exact h.obj k y hk
  ·obtain⟨y',h3,_⟩:=key k y h1
   exact h.apart b hb ⟨k,y',v,h3,h2⟩
  ·obtain⟨z,h5,_⟩:=key k y h1
   obtain⟨z',h6,_⟩:=key k' y' h2
   exact h.inj k k' z z' v v' b h5 h6 h3 h4
 ·exact { bZ.refl w fr m S with
   own:=fun b ⟨k,y,v,h1,h2⟩=>by
    obtain⟨y',h3,_⟩:=key k y h1
    exact .inl ⟨k,y',v,h3,h2⟩
   dom:=fun k hk=>by
    obtain⟨y,hy⟩:=Option.isSome_iff_exists.1 hk
    obtain⟨y',h3,_⟩:=key k y hy
    exact .inl (by rw[h3];rfl) }
theorem T_recell {c:Code} {Q:bQ} {t:List PV} {S:aD} {D:List DA} {g:Nat} {x:AO} (x':AO) (hg:S g=some x) (hv:x'.ver=x.ver)
  (ho:∀ w fr m ob,ObjAt w fr m x ob→ObjAt w fr m x' ob) (h:T P r c Q t (aK S g x') D):T P r c Q t S D:=by
 intro a w fr m hs
 obtain⟨h1,h2⟩:=hs.rel.recell hg hv (fun ob _=>ho w fr m ob)
 exact wpIn_mono (h a w fr m (hs.step h2 h1)) fun _ _ _ hp=>dF.trans h2 hp
theorem mK {c:Code} {Q:bQ} {t:List PV} {S:aD} {D:List DA} {g ver sz e:Nat} {xs:List (List PV)} {cs:List PV} (i j sz' e':Nat) (hg:S g=some (.row ver sz e xs)) (hi:xs[i]?=some cs) (hj:cs[j]?=some .nils)
  (h:∀ g',S g'=none→T P r c Q t (aK (aK S g' (.row 0 sz' e' [])) g (.row ver sz e (xs.set i (cs.set j (.row g' 0 0 0 sz'))))) D):T P r c Q t S D:=by
 intro a w fr m hs
 obtain⟨g',m',hn,r1,s1,hm⟩:=nil_row hs.rel sz' e'
 have hne:g≠g':=by rintro rfl;rw[hg] at hn;cases hn
 have hg':aK S g' (.row 0 sz' e' []) g=some (.row ver sz e xs):=by rw[aC hne];exact hg
 obtain⟨r2,s2⟩:=r1.recell (x':=.row ver sz e (xs.set i (cs.set j (.row g' 0 0 0 sz')))) hg' rfl (fun ob hob hO=>by
  obtain⟨hil,hic⟩:=List.getElem?_eq_some_iff.1 hi
  obtain⟨hjl,hjc⟩:=List.getElem?_eq_some_iff.1 hj
  cases ob with
  | none=>
   obtain⟨v,s,b,hh⟩:=hO
   cases hh
   simp at hil
  | some b=>
   obtain⟨o,ho,h1,arr,el,rfl,h2,h3,h4⟩:=hO
   have hlen:∀ k (hk:k<(xs.set i (cs.set j (.row g' 0 0 0 sz'))).length),((xs.set i (cs.set j (.row g' 0 0 0 sz')))[k]).length=sz:=fun k hk=>by
    rw[List.length_set] at hk
    rw[List.getElem_set]
    split
    ·rename_i e1;subst e1;rw[List.length_set,← hic];exact h2 _ hk
    ·exact h2 k hk
   refine⟨_,ho,by simpa using h1,arr,el,rfl,hlen,by simpa using h3,fun k q hk hq=>?_⟩
   have hk':k<xs.length:=by simpa using hk
   have hq':q<(xs[k]).length:=by rw[h2 k hk',← hlen k hk];exact hq
   obtain⟨v,h5,h6⟩:=h4 k q hk' hq'
   refine⟨v,h5,?_⟩
   by_cases ek:i=k
   ·subst ek
    by_cases eq:j=q
    ·subst eq
     have e1:((xs.set i (cs.set j (.row g' 0 0 0 sz')))[i])[j]=.row g' 0 0 0 sz':=by simp
     have e2:(xs[i])[j]=.nils:=by simp only[hic,hjc]
     rw[e1];rw[e2] at h6
     cases h6
     exact hm
    ·have e1:((xs.set i (cs.set j (.row g' 0 0 0 sz')))[i])[q]=(xs[i])[q]:=by
      simp only[List.getElem_set_self,hic]
      rw[List.getElem_set_ne eq]
     rw[e1];exact h6
   ·have e1:(xs.set i (cs.set j (.row g' 0 0 0 sz')))[k]=xs[k]:=List.getElem_set_ne ek _
    simp only[e1];exact h6)
 have st:=s1.trans s2
 exact wpIn_mono (h g' hn a w fr m' (hs.step st r2)) fun _ _ _ hp=>dF.trans st hp
end
section
variable {P:Program} {G:List TI} {r:Option Nat}
theorem Qt_bs (hG:jI P G) {S:aD} {o:Oper} {p:PV} {t:List PV} {D:List DA} {ty n:Nat} {parts:Array (Nat × Operand)} (ho:o.op=.buildSlice ty n parts)
    (h:match (aH G ty).kind with
      | .slice e=>(aH G e).size≠0∧(Nat.ble (n*(aH G e).size) 16777216)=true∧(Nat.ble (n*(aH G e).bytes) cap47)=true ∧
        vB t (parts.toList.map (·.2)) fun vs=>repK n (aH G e).zero fun xs0=>bsW S (aH G e).size (zipL parts.toList vs) xs0 fun xs=>.list (aH G e).bytes xs=p
      | _=>False):Qt P r o p t S D:=by
  intro a w fr m hs next hn
  split at h
  · rename_i e hk
    obtain⟨hz,h24,h47,h⟩:=h
    have h24':=Nat.le_of_ble_eq_true h24
    have h47':=Nat.le_of_ble_eq_true h47
    obtain⟨ps,hl,hr,h⟩:=uC hs h
    rw[repK_eq] at h
    have hu:=cV hG hk
    have hne:=bY hG hz
    obtain⟨z,hz1,hz2,hz3,hz4⟩:=uV hG hz w
    let arr0:=(Array.range (n*(aH G e).size)).map (z.cells[· % z.cells.size]!)
    obtain⟨a',xs',e1,e2,e3,e4,e5,e6⟩:=bsW_ok (w:=w) (fr:=fr) (m:=m) (ρ:=a.eval) hs.rel parts.toList ps arr0 (List.replicate n (aH G e).zero) (by simpa using hl)
      (fun i h1 h2=>by have:=hr i (by simpa using h1) h2;rw[List.getElem_map] at this;exact this) (by simp[arr0]) (fun i hi=>by simp[hz3])
      (fun i j hi hj=>by
        simp only[List.getElem_replicate] at hj ⊢
        simp only[List.length_replicate] at hi
        obtain⟨v,h1,h2⟩:=(hz4 fr m).get hj
        exact⟨v,by rw[← h1];exact yU hz2 i j hi (by omega),h2⟩) h
    have e3':xs'.length=n:=by simpa using e3
    have hasz:a'.size=n*(aH G e).size:=by rw[e2];simp[arr0]
    have hrun:(execOp a.eval o).run P w=.ok (.value (.slice (some ⟨w.heap.size,0,none⟩) n n)) { w with heap:=w.heap.push (.cells a' e) }:=by
      have h24'':¬ 2 ^ 24<n*(aH G e).size:=by
        have:(2:Nat) ^ 24=16777216:=by decide
        omega
      simp only[execOp,ho,Instr.buildSlice,Sem.run_bind,underlying,run_program,hu,Result.andThen_ok,Sem.run_pure,bJ hG hne]
      rw[if_neg h24'']
      have e1':Instr.fill (fun i=>some (i*(aH G e).size,(aH G e).size)) ((Array.range (n*(aH G e).size)).map (z.cells[· % z.cells.size]!)) (parts.map fun (x:Nat × Operand)=>(x.1,a.eval x.2)).toList=some a':=by
        rw[Array.toList_map];exact e1
      by_cases hn0:n*(aH G e).size=0
      · have hn1:n=0:=by rcases Nat.mul_eq_zero.1 hn0 with h | h;exact h;exact absurd h hz
        subst hn1
        rw[if_pos hn0]
        simp only[Sem.run_pure,Result.andThen_ok,Sem.run_bind]
        have e1'':Instr.fill (fun i=>some (i*(aH G e).size,(aH G e).size)) ((Array.range (0*(aH G e).size)).map ((#[]:Array Value)[· % (#[]:Array Value).size]!)) (parts.map fun (x:Nat × Operand)=>(x.1,a.eval x.2)).toList=some a':=by
          have e0:∀ (α:Type) (f:Nat→α),(Array.range (0*(aH G e).size)).map f=#[]:=by intro α f;simp
          rw[e0] at e1' ⊢;exact e1'
        rw[e1'']
        simp[newRow]
      · rw[if_neg hn0]
        simp only[Sem.run_bind,hz1,Result.andThen_ok,Sem.run_pure]
        rw[e1']
        simp[newRow]
    rw[fQ (by rw[ho];simp),hrun]
    obtain⟨fr',f1,f2,f3⟩:=freeze_ok (el:=e) hs.rel (by rw[e3'];exact h47') e4 (by rw[e3',hasz];exact Nat.le_refl _) e5
    rw[e3'] at f1
    subst e6
    exact hn _ _ _ _ f1 f2 f3
  · exact h.elim
def drawPairH (k:Nat) (ops:Array Oper) (pr:List (List Nat)) (i j:Nat):Bool:=Nat.ble k i ||
 match ops[i]?,ops[j]? with
 | some oi,some oj=>(!(lR ops oi oj) || (pr.getD j []).elem i) && (Nat.blt j k || (pr.getD j []).elem i)
 | _,_=>false
def drawOkH (k:Nat) (ops:Array Oper):Bool:=
 Nat.ble k ops.size && ((List.range ops.size).all fun j=>oH ops j && (List.range j).all fun i=>drawPairH k ops (prs ops 0 ops.toList []) i j)
section
variable {k:Nat} {ops:Array Oper} (hk:drawOkH k ops=true)
include hk
theorem rU {i j:Nat} {oi oj:Oper} (hik:i<k) (hij:i<j) (hoi:ops[i]?=some oi) (hoj:ops[j]?=some oj) {listed:Array Bool} (hc:gZ ops listed) (hd:listed.getD j false=true) :
  (lR ops oi oj=true→listed.getD i false=true)∧(k≤j→listed.getD i false=true):=by
 have hj:j<ops.size:=(Array.getElem?_eq_some_iff.1 hoj).1
 have h0:=List.all_eq_true.1 (Bool.and_eq_true_iff.1 hk).2 j (List.mem_range.2 hj)
 have h1:=List.all_eq_true.1 (Bool.and_eq_true_iff.1 h0).2 i (List.mem_range.2 hij)
 unfold drawPairH at h1
 have hb:Nat.ble k i=false:=by
  cases e:Nat.ble k i with
  | false=>rfl
  | true=>have:=Nat.le_of_ble_eq_true e;omega
 rw[hoi,hoj,hb,Bool.false_or] at h1
 dsimp only at h1
 obtain⟨h2,h3⟩:=Bool.and_eq_true_iff.1 h1
 refine⟨fun hcl=>?_,fun hkj=>?_⟩
 ·rw[hcl,Bool.not_true,Bool.false_or] at h2
  exact tV hc hd h2
 ·rcases Bool.or_eq_true_iff.1 h3 with h2 | h2
  ·have:=Nat.le_of_ble_eq_true h2;omega
  ·exact tV hc hd h2
theorem wH:k≤ops.size:=Nat.le_of_ble_eq_true (Bool.and_eq_true_iff.1 hk).1
theorem drawOkH_lt {j:Nat} {oj:Oper} (hoj:ops[j]?=some oj) {e:Edge} (he:e∈oj.after) (hb:Region.binds .any e=true):e.on<j:=by
 have hj:j<ops.size:=(Array.getElem?_eq_some_iff.1 hoj).1
 have h0:=List.all_eq_true.1 (Bool.and_eq_true_iff.1 hk).2 j (List.mem_range.2 hj)
 have h1:=(Bool.and_eq_true_iff.1 h0).1
 unfold oH at h1
 rw[hoj] at h1
 have h2:=List.all_eq_true.1 h1 e (Array.mem_toList_iff.2 he)
 unfold xR at h2
 rw[hb,Bool.not_true,Bool.false_or] at h2
 exact Nat.le_of_ble_eq_true h2
theorem readyH_some {listed:Array Bool} (hs:listed.size=ops.size):∀ i,i<ops.size→listed.getD i false=false→∃ j,j≤i∧j∈Region.ready .any ops listed:=by
 intro i
 induction i using Nat.strongRecOn with
 | _ i ih=>
  intro hi hu
  have ho:ops[i]?=some ops[i]:=by simp[hi]
  by_cases h:∀ e∈ops[i].after,Region.binds .any e=true→listed.getD e.on false=true
  ·exact⟨i,Nat.le_refl _,mem_ready.2 ⟨(cY (by omega) _ _).trans hu,_,ho,h⟩⟩
  ·obtain⟨e,h⟩:=Classical.not_forall.1 h
   obtain⟨he,h⟩:=Classical.not_imp.1 h
   obtain⟨hb,hn⟩:=Classical.not_imp.1 h
   have hlt:=drawOkH_lt hk ho he hb
   obtain⟨j,h1,h2⟩:=ih e.on hlt (by omega) (by simpa using hn)
   exact⟨j,by omega,h2⟩
theorem any_headA {ps:Nat→PV} {ts:Nat→List PV} {t:List PV} {S:aD} {D:List DA} (ht:∀ i,i≤k→ts i=bI ops ps (fun j=>!([]:List Nat).elem j) t i) (hst:∀ i,i<k→([]:List Nat).elem i=false→StepD P r ops S D ts ps i)
  {w0:World} {fr0:Nat→Prop} {m0:aQ} {R:Exit→Act→World→Prop}
  (hR:∀ (fuel:Nat) (listed:Array Bool) a w fr m,listed.size=ops.size→gZ ops listed→(∀ i,i<ops.size→listed.getD i false=decide (i<k))→fI ops.size listed≤fuel→kZ a w fr m (ts k) S D→bZ w0 fr0 m0 S w fr m S→wpAnyIn (FR r) 0 P .any ops R fuel listed a w) :
  ∀ (fuel:Nat) (listed:Array Bool) (a:Act) (w:World) (fr:Nat→Prop) (m:aQ),listed.size=ops.size→gZ ops listed→(∀ i,k≤i→listed.getD i false=false)→(∀ i,([]:List Nat).elem i=true→listed.getD i false=true) →
   fI ops.size listed≤fuel→kZ a w fr m (bI ops ps (fun j=>listed.getD j false && !([]:List Nat).elem j) t k) S D→bZ w0 fr0 m0 S w fr m S→wpAnyIn (FR r) 0 P .any ops R fuel listed a w:=by
 intro fuel
 have fin:∀ (fuel:Nat) (listed:Array Bool) (a:Act) (w:World) (fr:Nat→Prop) (m:aQ),listed.size=ops.size→gZ ops listed→(∀ i,k≤i→listed.getD i false=false) →
   fI ops.size listed≤fuel→kZ a w fr m (bI ops ps (fun j=>listed.getD j false && !([]:List Nat).elem j) t k) S D→bZ w0 fr0 m0 S w fr m S→(∀ i,i<k→listed.getD i false=true)→wpAnyIn (FR r) 0 P .any ops R fuel listed a w:=by
  intro fuel listed a w fr m hs hc htl hu hstr hstep hall
  have hkl:=wH hk
  refine hR fuel listed a w fr m hs hc (fun i hi=>?_) hu ?_ hstep
  ·by_cases e:i<k
   ·rw[hall i e];simp[e]
   ·rw[htl i (by omega)];simp[e]
  ·rw[ht k (Nat.le_refl _)]
   have:bI ops ps (fun j=>listed.getD j false && !([]:List Nat).elem j) t k=bI ops ps (fun j=>!([]:List Nat).elem j) t k:=
    fL (by rw[bG,bG]) fun u=>iF k fun j hj _=>by rw[hall j hj,Bool.true_and]
   rw[← this];exact hstr
 have hkl:=wH hk
 induction fuel with
 | zero=>
  intro listed a w fr m hs hc htl hfl hu hstr hstep
  refine fin 0 listed a w fr m hs hc htl hu hstr hstep fun i hi=>?_
  by_cases e:listed.getD i false=true
  ·exact e
  ·have:=oO (n:=ops.size) (i:=i) (listed:=listed) (by omega) (by rw[cY (by omega) true false];simpa using e)
   omega
 | succ fuel ih=>
  intro listed a w fr m hs hc htl hfl hu hstr hstep
  by_cases hall:∀ i,i<k→listed.getD i false=true
  ·exact fin _ listed a w fr m hs hc htl hu hstr hstep hall
  have hnf:∀ i,listed.getD i false=false→([]:List Nat).elem i=false:=fun i hi=>by
   cases e:([]:List Nat).elem i with
   | false=>rfl
   | true=>rw[hfl i e] at hi;cases hi
  obtain⟨i0,hall'⟩:=Classical.not_forall.1 hall
  obtain⟨hi0,hu0⟩:=Classical.not_imp.1 hall'
  have hf0:=hnf i0 (by simpa using hu0)
  obtain⟨j',hj',hr'⟩:=readyH_some hk hs i0 (by omega) (by simpa using hu0)
  refine⟨fun h0=>absurd hr' (by rw[h0];simp),fun i hi=>?_⟩
  obtain⟨h1,o,ho,hafter⟩:=mem_ready.1 hi
  have hil:i<ops.size:=(Array.getElem?_eq_some_iff.1 ho).1
  have hc':=hc.set hi
  have hui:listed.getD i false=false:=(cY (by omega) _ _).trans h1
  have hfi:=hnf i hui
  have hik:i<k:=by
   by_cases e:i<k
   ·exact e
   ·have h2:=(rU hk (i:=i0) (j:=i) (oi:=ops[i0]'(by omega)) hi0 (by omega) (Array.getElem?_eq_getElem _) ho hc' (bD (by omega))).2 (by omega)
    rw[getD_set_ne false (by omega)] at h2
    exact absurd h2 hu0
  obtain⟨o',ho',hts,hg⟩:=hst i hik hfi
  rw[ho] at ho';cases ho'

  have hbefore:∀ j oj,([]:List Nat).elem j=false→ops[j]?=some oj→j<i→lR ops oj o=true→listed.getD j false=true:=fun j oj hfj hoj hlt hcl=>by
   have h2:=(rU hk (by omega) hlt hoj ho hc' (bD (by omega))).1 hcl
   rwa [getD_set_ne false (by omega)] at h2
  have hbehind:∀ j oj,([]:List Nat).elem j=false→ops[j]?=some oj→i<j→lR ops o oj=true→listed.getD j false=false:=fun j oj hfj hoj hlt hcl=>by
   cases e:listed.getD j false with
   | false=>rfl
   | true=>
    have h2:=(rU hk hik hlt ho hoj hc e).1 hcl
    rw[hui] at h2;cases h2
  have hdeps:∀ u,(fK ops o).elem u=true→getT (bI ops ps (fun j=>listed.getD j false && !([]:List Nat).elem j) t k) u=getT (ts i) u:=fun u hu'=>by
   rw[ht i (by omega),← pM (q:=fun j=>!([]:List Nat).elem j) (i:=i) k (by omega)]
   refine iF k fun j hj hd=>?_
   cases hoj:ops[j]? with
   | none=>rw[hoj] at hd;simp at hd
   | some oj=>
    rw[hoj] at hd
    simp only[Option.bind_some] at hd
    cases hfj:([]:List Nat).elem j with
    | true=>simp
    | false=>
     simp only[Bool.not_false,Bool.and_true]
     by_cases e:j<i
     ·rw[hbefore j oj hfj hoj e (by simp only[lR,hd,hu',Bool.true_or])];simp[e]
     ·by_cases e2:j=i
      ·subst e2;rw[hui];simp
      ·rw[hbehind j oj hfj hoj (by omega) (by simp only[lR,hd,hu',Bool.or_true])];simp[e]
  have hlen:(bI ops ps (fun j=>listed.getD j false && !([]:List Nat).elem j) t k).length=(ts i).length:=by rw[bG,ht i (by omega),bG]
  have hmask:dV (fK ops o) 0 (ts i)=dV (fK ops o) 0 (bI ops ps (fun j=>listed.getD j false && !([]:List Nat).elem j) t k):=rP hlen.symm fun u hu'=>(hdeps u hu').symm
  have hnew:jH (bI ops ps (fun j=>listed.getD j false && !([]:List Nat).elem j) t k) o.dst (ps i)=bI ops ps (fun j=>(listed.setIfInBounds i true).getD j false && !([]:List Nat).elem j) t k:=by
   refine fL (by rw[tQ,bG,bG]) fun u=>?_
   by_cases hd:o.dst=some u
   ·rw[oY (i:=i) (by rw[bD (by omega),hfi];rfl) (by rw[ho];exact hd) k hik]
    ·rw[hd]
     simp only[jH,fU,bG,true_and]
     split
     ·rfl
     ·rename_i hlt
      rw[iR _ _ (by rw[bG];exact hlt),iR _ _ hlt]
    ·intro j hij hjk hdj
     rw[getD_set_ne false (by omega)]
     cases hoj:ops[j]? with
     | none=>rw[hoj] at hdj;simp at hdj
     | some oj=>
      rw[hoj] at hdj
      simp only[Option.bind_some] at hdj
      cases hfj:([]:List Nat).elem j with
      | true=>simp
      | false=>rw[hbehind j oj hfj hoj hij (by simp[lR,hd,hdj])];rfl
   ·rw[oZ hd]
    refine iF k fun j hj hdj=>?_
    have hne:i≠j:=by rintro rfl;rw[ho] at hdj;exact hd hdj
    rw[getD_set_ne false hne]
  have hundo:fI ops.size (listed.setIfInBounds i true)≤fuel:=by
   have:=mN hs hil h1;omega
  have htl':∀ j,k≤j→(listed.setIfInBounds i true).getD j false=false:=fun j hj=>by rw[getD_set_ne false (by omega)];exact htl j hj
  have hfl':∀ j,([]:List Nat).elem j=true→(listed.setIfInBounds i true).getD j false=true:=fun j hj=>getD_set_true (hfl j hj)
  have hgo:∀ {a' w' fr' m'},kZ a' w' fr' m' (jH (bI ops ps (fun j=>listed.getD j false && !([]:List Nat).elem j) t k) o.dst (ps i)) S D→bZ w0 fr0 m0 S w' fr' m' S→wpAnyIn (FR r) 0 P .any ops R fuel (listed.setIfInBounds i true) a' w':=
   fun h hs'=>ih _ _ _ _ _ (by simpa using hs) hc' htl' hfl' hundo (hnew ▸ h) hs'
  have hrun:Qt P r o (ps i) (dV (fK ops o) 0 (ts i)) S D→Oper.wpIn (FR r) 0 P o a w (wpAnyIn (FR r) 0 P .any ops R fuel (listed.setIfInBounds i true)) R:=fun hq=>by
   rw[hmask] at hq
   refine⟨fun _ _=>trivial,fP (Qt_use hq a w fr m hstr (wpAnyIn (FR r) 0 P .any ops R fuel (listed.setIfInBounds i true)) fun v w' fr' m' hv hrel hst'=>?_) (fun _ _ h=>h) (fun _ _ _ h=>h.elim)⟩
   exact hgo ((hstr.step hst' hrel).put o.dst hv) (hstep.trans hst')
  unfold wpOpIn
  rw[ho]
  dsimp only
  cases hgd:o.guard with
  | none=>
   rw[hgd] at hg
   simp only[Region.wanted,hgd,if_true]
   exact hrun hg
  | some jb=>
   obtain⟨j,b⟩:=jb
   rw[hgd] at hg
   obtain⟨oj,d,hoj,hdj,hg⟩:=hg
   have h4:=hstr.tmp d
   rw[hdeps d (by simp[fK,guardTmp,hgd,fW,hoj,hdj])] at h4
   rcases hg with ⟨hv,h2⟩ | ⟨hv,h3⟩
   ·rw[hv] at h4
    have hy:=lO hoj hdj h4
    simp only[Region.wanted,hgd,hy,BEq.rfl,if_true]
    exact hrun h2
   ·have hne:(yielded ops a.tmps j == some b)=false:=by
     rcases hv with hv | hv
     ·rw[hv] at h4;rw[lO hoj hdj h4];cases b <;> rfl
     ·rw[hv] at h4;rw[qC hoj hdj h4];rfl
    simp only[Region.wanted,hgd,hne,Bool.false_eq_true,if_false]
    refine⟨fun _ _=>trivial,hgo ?_ hstep⟩
    rw[h3]
    exact hstr.put o.dst uX
end
def QtA (G:List TI) (P:Program) (ops:Array Oper) (o:Oper) (p:PV) (t:List PV) (S:aD):Prop:=match o.op with
 | .buildSlice ty n parts=>natsK (fK ops o) fun l=>zP l 0 t fun t=>match (aH G ty).kind with
   | .slice e=>(aH G e).size≠0∧(Nat.ble (n*(aH G e).size) 16777216)=true∧(Nat.ble (n*(aH G e).bytes) cap47)=true ∧
    vB t (parts.toList.map (·.2)) fun vs=>repK n (aH G e).zero fun xs0=>bsW S (aH G e).size (zipL parts.toList vs) xs0 fun xs=>.list (aH G e).bytes xs=p
   | _=>False
 | _=>QtK G P ops o p t S
theorem QtA_ok (hG:jI P G) {ops:Array Oper} {o:Oper} {p:PV} {t:List PV} {S:aD} {D:List DA} (h:QtA G P ops o p t S):Qt P r o p (dV (fK ops o) 0 t) S D:=by
 unfold QtA at h
 split at h
 ·rename_i ty n parts ho
  rw[oX,oP] at h
  exact Qt_bs hG ho h
 ·exact QtK_ok hG h
def DrawA (G:List TI) (P:Program) (ops:Array Oper) (S:aD) (B:List PV→Prop):Nat→Nat→List PV→Prop
 | 0,_,t=>B t
 | n+1,i,t=>match jJ ops.toList i with
  | none=>False
  | some o=>match o.guard with
   | none=>∃ p,QtA G P ops o p t S∧gX t o.dst p fun t'=>DrawA G P ops S B n (i+1) t'
   | some _=>False
theorem DrawA_ok (hG:jI P G) {ops:Array Oper} {S:aD} {D:List DA} {B:List PV→Prop}:∀ {n i:Nat} {t:List PV},DrawA G P ops S B n i t →
  ∃ (ps:Nat→PV) (ts:Nat→List PV),ts i=t∧(∀ j,i≤j→j<i+n→StepD P r ops S D ts ps j)∧B (ts (i+n))
 | 0,i,t,h=>⟨fun _=>.any,fun _=>t,rfl,fun j h1 h2=>by omega,h⟩
 | n+1,i,t,h=>by
  simp only[DrawA] at h
  cases ho:jJ ops.toList i with
  | none=>rw[ho] at h;exact h.elim
  | some o=>
   rw[ho] at h
   dsimp only at h
   have ho':ops[i]?=some o:=by rw[fW] at ho;simpa using ho
   cases hg:o.guard with
   | some g=>rw[hg] at h;exact h.elim
   | none=>
    rw[hg] at h
    obtain⟨p,hq,h⟩:=h
    rw[cD] at h
    obtain⟨ps,ts,h1,h2,h3⟩:=DrawA_ok hG (D:=D) h
    refine⟨fun j=>if j=i then p else ps j,fun j=>if j=i then t else ts j,by simp,fun j hij hj=>?_,?_⟩
    ·by_cases e:j=i
     ·subst e
      refine⟨o,ho',?_,?_⟩
      ·simp[h1]
      ·rw[hg];simp only[if_true];exact QtA_ok hG hq
     ·obtain⟨o',g1,g2,g3⟩:=h2 j (by omega) (by omega)
      refine⟨o',g1,by simp only[if_neg e,if_neg (show ¬ j+1=i by omega)];exact g2,?_⟩
      simp only[if_neg e]
      exact g3
    ·have e:¬ i+(n+1)=i:=by omega
     show B (if i+(n+1)=i then t else ts (i+(n+1)))
     rw[if_neg e,show i+(n+1)=i+1+n by omega];exact h3
def iQ (b n sz i j:Nat):Array Bool:=((List.range sz).map fun u=>Nat.blt u b || (Nat.ble b u && Nat.blt u (b+i) && Nat.blt u (b+n)) || (Nat.ble (b+n) u && Nat.blt u (b+n+j))).toArray
def gridOk (b n m:Nat) (ops:Array Oper):Bool:=
 Nat.beq ops.size (b+n+m) && (List.range (n+1)).all fun i=>(List.range (m+1)).all fun j=>
  ((Region.ready .any ops (iQ b n ops.size i j)).all fun u=>(Nat.blt i n && Nat.beq u (b+i)) || (Nat.blt j m && Nat.beq u (b+n+j))) &&
   (!(Region.ready .any ops (iQ b n ops.size i j)).isEmpty || (Nat.beq i n && Nat.beq j m))
theorem iI (b n sz i j:Nat):(iQ b n sz i j).size=sz:=by simp[iQ]
theorem iV {b n sz i j u:Nat} (hu:u<sz) (d:Bool):(iQ b n sz i j).getD u d=(Nat.blt u b || (Nat.ble b u && Nat.blt u (b+i) && Nat.blt u (b+n)) || (Nat.ble (b+n) u && Nat.blt u (b+n+j))):=by
 simp[iQ,Array.getD_eq_getD_getElem?,hu]
theorem rI {a b:Nat}:Nat.blt a b=decide (a<b):=by
 rw[Bool.eq_iff_iff,decide_eq_true_iff]
 exact⟨fun h=>Nat.le_of_ble_eq_true h,fun h=>Nat.ble_eq_true_of_le h⟩
theorem rB {a b:Nat}:Nat.ble a b=decide (a≤b):=by
 rw[Bool.eq_iff_iff,decide_eq_true_iff]
 exact⟨fun h=>Nat.le_of_ble_eq_true h,fun h=>Nat.ble_eq_true_of_le h⟩
theorem arr_ext {a b:Array Bool} (hs:a.size=b.size) (h:∀ u,u<a.size→a.getD u false=b.getD u false):a=b:=by
 apply Array.ext hs
 intro u h1 h2
 have:=h u h1
 simpa[Array.getD_eq_getD_getElem?,h1,h2] using this
theorem gridL_i {b n sz i j:Nat} (hi:i<n) (hb:b+i<sz):(iQ b n sz i j).setIfInBounds (b+i) true=iQ b n sz (i+1) j:=by
 refine arr_ext (by simp[iI]) fun u hu=>?_
 simp only[Array.size_setIfInBounds,iI] at hu
 by_cases e:b+i=u
 ·subst e
  rw[bD (by rw[iI];exact hu),iV hu]
  simp only[rI,rB]
  have h1:decide (b≤b+i)=true:=by simp
  have h2:decide (b+i<b+(i+1))=true:=by simp
  have h3:decide (b+i<b+n)=true:=by simp;exact hi
  rw[h1,h2,h3];simp
 ·rw[getD_set_ne false e,iV hu,iV hu]
  simp only[rI,rB]
  have:(decide (b≤u) && decide (u<b+i))=(decide (b≤u) && decide (u<b+(i+1))):=by
   rw[Bool.eq_iff_iff];simp;omega
  rw[this]
theorem gridL_j {b n sz i j:Nat} (hb:b+n+j<sz):(iQ b n sz i j).setIfInBounds (b+n+j) true=iQ b n sz i (j+1):=by
 refine arr_ext (by simp[iI]) fun u hu=>?_
 simp only[Array.size_setIfInBounds,iI] at hu
 by_cases e:b+n+j=u
 ·subst e
  rw[bD (by rw[iI];exact hu),iV hu]
  simp only[rI,rB]
  have h1:decide (b+n≤b+n+j)=true:=by simp
  have h2:decide (b+n+j<b+n+(j+1))=true:=by simp
  rw[h1,h2];simp
 ·rw[getD_set_ne false e,iV hu,iV hu]
  simp only[rI,rB]
  have:(decide (b+n≤u) && decide (u<b+n+j))=(decide (b+n≤u) && decide (u<b+n+(j+1))):=by
   rw[Bool.eq_iff_iff];simp;omega
  rw[this]
abbrev GS:=List PV × aD
def GStep (G:List TI) (P:Program) (r:Option Nat) (ops:Array Oper) (Q:bQ) (D:List DA) (u:Nat) (s s':GS):Prop:=
 ∃ o,ops[u]?=some o∧o.guard=none∧TOp P r o (fun t' S' D'=>t'=s'.1∧S'=s'.2∧D'=D) Q s.1 s.2 D
theorem TA_grid {ops:Array Oper} {b n m:Nat} (hg:gridOk b n m ops=true) {Q:bQ} {D:List DA} (St:Nat→Nat→GS)
  (hi:∀ i j,i<n→j≤m→GStep G P r ops Q D (b+i) (St i j) (St (i+1) j)) (hj:∀ i j,i≤n→j<m→GStep G P r ops Q D (b+n+j) (St i j) (St i (j+1)))
  (hQ:Q .normal (St n m).1 (St n m).2 D):∀ (fuel i j:Nat),i≤n→j≤m→(n - i)+(m - j)≤fuel→TA P r ops fuel (iQ b n ops.size i j) Q (St i j).1 (St i j).2 D:=by
 obtain⟨h1,h2⟩:=Bool.and_eq_true_iff.1 hg
 have hsz:ops.size=b+n+m:=Nat.eq_of_beq_eq_true h1
 have hrd:∀ i j,i≤n→j≤m→∀ u∈Region.ready .any ops (iQ b n ops.size i j),(i<n∧u=b+i)∨(j<m∧u=b+n+j):=fun i j h3 h4 u hu=>by
  have h5:=List.all_eq_true.1 (Bool.and_eq_true_iff.1 (List.all_eq_true.1 (List.all_eq_true.1 h2 i (List.mem_range.2 (by omega))) j (List.mem_range.2 (by omega)))).1 u hu
  rcases Bool.or_eq_true_iff.1 h5 with h6 | h6
  ·obtain⟨h7,h8⟩:=Bool.and_eq_true_iff.1 h6
   exact .inl ⟨Nat.le_of_ble_eq_true h7,Nat.eq_of_beq_eq_true h8⟩
  ·obtain⟨h7,h8⟩:=Bool.and_eq_true_iff.1 h6
   exact .inr ⟨Nat.le_of_ble_eq_true h7,Nat.eq_of_beq_eq_true h8⟩
 have hne:∀ i j,i≤n→j≤m→Region.ready .any ops (iQ b n ops.size i j)=[]→i=n∧j=m:=fun i j h3 h4 h5=>by
  have h6:=(Bool.and_eq_true_iff.1 (List.all_eq_true.1 (List.all_eq_true.1 h2 i (List.mem_range.2 (by omega))) j (List.mem_range.2 (by omega)))).2
  rw[h5] at h6
  simp only[List.isEmpty_nil,Bool.not_true,Bool.false_or] at h6
  obtain⟨h7,h8⟩:=Bool.and_eq_true_iff.1 h6
  exact⟨Nat.eq_of_beq_eq_true h7,Nat.eq_of_beq_eq_true h8⟩
 intro fuel
 induction fuel with
 | zero=>
  intro i j h3 h4 h5
  have ei:i=n:=by omega
  have ej:j=m:=by omega
  subst ei;subst ej
  intro a w fr mm hs
  refine wpAnyIn_done ?_ ⟨_,_,_,_,_,_,hQ,trivial,hs,.refl _ _ _ _⟩ 0
  refine List.eq_nil_iff_forall_not_mem.2 fun u hu=>?_
  rcases hrd _ _ (Nat.le_refl _) (Nat.le_refl _) u hu with ⟨h,_⟩ | ⟨h,_⟩ <;> omega
 | succ fuel ih=>
  intro i j h3 h4 h5
  intro a w fr mm hs
  refine⟨fun h0=>?_,fun u hu=>?_⟩
  ·obtain⟨rfl,rfl⟩:=hne i j h3 h4 h0
   exact⟨_,_,_,_,_,_,hQ,trivial,hs,.refl _ _ _ _⟩
  ·have go:∀ (s':GS) (listed:Array Bool),(iQ b n ops.size i j).setIfInBounds u true=listed→TA P r ops fuel listed Q s'.1 s'.2 D→GStep G P r ops Q D u (St i j) s'→wpOpIn (FR r) 0 P ops (dF w fr mm (St i j).2 Q) u (wpAnyIn (FR r) 0 P .any ops (dF w fr mm (St i j).2 Q) fuel ((iQ b n ops.size i j).setIfInBounds u true)) a w:=by
    rintro s' listed e hT ⟨o,ho,hgd,hop⟩
    rw[e]
    unfold wpOpIn
    rw[ho]
    dsimp only
    simp only[Region.wanted,hgd,if_true]
    refine⟨fun _ _=>trivial,hop a w fr mm hs _ _ ?_ fun _ _ _ h=>h⟩
    rintro t' S' D' a' w' fr' m' ⟨rfl,rfl,rfl⟩ hs' hst
    have h6:=hT a' w' fr' m' hs'
    have key:∀ (fuel:Nat) (listed:Array Bool) (a:Act) (w':World) {Q Q':Exit→Act→World→Prop},(∀ e a w,Q e a w→Q' e a w)→wpAnyIn (FR r) 0 P .any ops Q fuel listed a w'→wpAnyIn (FR r) 0 P .any ops Q' fuel listed a w':=by
     intro fuel
     induction fuel with
     | zero=>exact fun _ _ _ _ _ hq h=>⟨h.1,hq _ _ _ h.2⟩
     | succ fuel ih=>
      intro listed a w' Q Q' hq h
      refine⟨fun h0=>hq _ _ _ (h.1 h0),fun i hi=>?_⟩
      have h2:=h.2 i hi
      unfold wpOpIn at h2 ⊢
      split
      ·rename_i e;rw[e] at h2;exact ih _ _ _ hq h2
      ·rename_i o e
       rw[e] at h2
       dsimp only at h2
       split
       ·rename_i hw
        rw[if_pos hw] at h2
        exact⟨h2.1,fP h2.2 (fun _ _ h=>ih _ _ _ hq h) hq⟩
       ·rename_i hw
        rw[if_neg hw] at h2
        exact⟨h2.1,ih _ _ _ hq h2.2⟩
    exact key _ _ _ _ (fun _ _ _ h=>dF.trans hst h) h6
   rcases hrd i j h3 h4 u hu with ⟨hlt,rfl⟩ | ⟨hlt,rfl⟩
   ·exact go _ _ (gridL_i hlt (by omega)) (ih (i+1) j (by omega) h4 (by omega)) (hi i j hlt h4)
   ·exact go _ _ (gridL_j (by omega)) (ih i (j+1) h3 (by omega) (by omega)) (hj i j h3 hlt)
def stoW (G:List TI) (o:Oper) (t:List PV) (S:aD) (k:aD→Prop):Prop:=match o.op with
 | .store ty x v=>(aH G ty).size≠0∧iP t x fun p=>iP t v fun q=>match p with
  | .ptr g ver i j sz=>rE S q fun c=>c.length=(aH G ty).size∧dS S c∧stW S g ver i j sz c k
  | _=>False
 | _=>False
def StoK (G:List TI) (ops:Array Oper) (o:Oper) (t:List PV) (S S':aD):Prop:=natsK (fK ops o) fun l=>zP l 0 t fun t'=>stoW G o t' S fun S1=>S1=S'
theorem evK_unmask {l:List Nat} {t:List PV} {x:Operand} {k:PV→Prop} (hx:∀ n,x=.tmp n→l.elem n=true) (h:iP (dV l 0 t) x k):iP t x k:=by
 cases x with
 | tmp n=>
  simp only[iP,mU] at h ⊢
  rw[uP,Nat.zero_add,if_pos (hx n rfl)] at h
  exact h
 | const v=>exact h
 | func f=>exact h
 | global g=>exact h
theorem opTmps_mem {n:Nat}:∀ {l:List Operand},Operand.tmp n∈l→(yS l).elem n=true
 | x::l,h=>by
  rcases List.mem_cons.1 h with rfl | h
  ·simp[yS]
  ·have:=opTmps_mem h
   cases x <;> simp_all [yS]
theorem stW_mono {S:aD} {g ver i j sz:Nat} {c:List PV} {k k':aD→Prop} (hk:∀ S',k S'→k' S') (h:stW S g ver i j sz c k):stW S g ver i j sz c k':=by
 unfold stW at h ⊢
 obtain⟨e,xs,old,h1,h2,h3,h4⟩:=h
 exact⟨e,xs,old,h1,h2,h3,fun new hn=>hk _ (h4 new hn)⟩
theorem cellsW_mono {S:aD} {q:PV} {k k':List PV→Prop} (hk:∀ c,k c→k' c) (h:rE S q k):rE S q k':=by
 unfold rE at h ⊢
 split at h
 ·exact hk _ h
 ·exact⟨h.1,hk _ h.2⟩
theorem StoK_ok (hG:jI P G) {ops:Array Oper} {o:Oper} {t:List PV} {S S':aD} {D:List DA} {Q:bQ} (hd:o.dst=none) (h:StoK G ops o t S S'):TOp P r o (fun t1 S1 D1=>t1=t∧S1=S'∧D1=D) Q t S D:=by
 refine opW_ok hG ?_
 unfold StoK at h
 rw[oX,oP] at h
 unfold stoW at h
 split at h
 ·rename_i ty x v ho
  have hin:∀ y∈[x,v],∀ n,y=Operand.tmp n→(fK ops o).elem n=true:=fun y hy n e=>by
   subst e
   have h1:Operand.tmp n∈o.op.operands.toList:=by
    rw[ho];simpa[Op.operands] using hy
   have:=opTmps_mem h1
   unfold fK
   simp only[List.elem_eq_mem,List.mem_append,decide_eq_true_eq] at this ⊢
   exact .inl this
  obtain⟨h1,h2⟩:=h
  unfold sA
  rw[ho]
  refine⟨h1,evK_unmask (hin x (by simp)) ?_⟩
  have mono:∀ {y:Operand} {t:List PV} {k k':PV→Prop},(∀ p,k p→k' p)→iP t y k→iP t y k':=fun {y t k k'} hk hh=>by
   obtain⟨p,h3,h4⟩:=evK_det hh
   cases y with
   | tmp n=>simp only[iP,mU] at h3 ⊢;rw[h3];exact hk _ h4
   | const v=>
    obtain⟨p',h5,h6⟩:∃ p',(∀ K':PV→Prop,K' p'→sO v K')∧k p':=by
     by_cases hv:∃ cs,v=.agg cs
     ·obtain⟨cs,rfl⟩:=hv
      obtain⟨ps,h1,h⟩:=tF (show pQ cs.toList _ from hh)
      exact⟨.agg ps,fun K' hk=>h1 _ hk,h⟩
     ·have e:∀ K',sO v K'=kL v K':=fun K'=>by
       cases v <;> first | rfl | exact absurd ⟨_,rfl⟩ hv
      have hh':sO v k:=hh
      rw[e] at hh'
      obtain⟨p,h1,h⟩:=tD hh'
      exact⟨p,fun K' hk=>by rw[e];exact h1 _ hk,h⟩
    exact h5 _ (hk _ h6)
   | func f=>exact hk _ hh
   | global g=>exact hk _ hh
  refine mono (fun p hp=>?_) h2
  refine evK_unmask (hin v (by simp)) (mono (fun q hq=>?_) hp)
  split at hq
  ·refine cellsW_mono (fun c hc=>⟨hc.1,hc.2.1,stW_mono (fun S1 h1=>?_) hc.2.2⟩) hq
   rw[hd]
   exact⟨rfl,h1,rfl⟩
  ·exact hq.elim
 ·exact h.elim
def sepOk (b:Nat) (ops:Array Oper):Bool:=match ops[b]?,ops[b+1]?,ops[b+2]?,ops[b+3]?,ops[b+4]? with
 | some o1,some o2,some o3,some o4,some o5=>kV o1.op && kV o3.op && kV o4.op && o1.guard.isNone && o2.guard.isNone && o3.guard.isNone && o4.guard.isNone && o5.guard.isNone && o2.dst.isNone && o5.dst.isNone &&
  (match o1.dst,o3.dst,o4.dst with
  | some d1,some d2,some d3=>!(Nat.beq d1 d2) && !(Nat.beq d1 d3) && !(Nat.beq d2 d3) && !((fK ops o1).elem d2) && !((fK ops o1).elem d3) && !((fK ops o2).elem d2) && !((fK ops o2).elem d3) &&
    !((fK ops o3).elem d1) && !((fK ops o4).elem d1) && !((fK ops o5).elem d1) && !((fK ops o3).elem d3) && !((fK ops o4).elem d3) && !((fK ops o3).elem d2) && !((fK ops o1).elem d1)
  | _,_,_=>false)
 | _,_,_,_,_=>false
structure AppE (G:List TI) (P:Program) (ops:Array Oper) (b:Nat) (Q:bQ) (D:List DA) (t:List PV) (S:aD) (o1 o2 o3 o4 o5:Oper) (d1 d2 d3:Nat) (v1 v2 v3:PV) (Sa Sb Sab:aD):Prop where
 a1:QtK G P ops o1 v1 t S
 a1':QtK G P ops o1 v1 t Sb
 a2:StoK G ops o2 (t.set d1 v1) S Sa
 a2':StoK G ops o2 (t.set d1 v1) Sb Sab
 b1:QtK G P ops o3 v2 t S
 b1':QtK G P ops o3 v2 t Sa
 b2:QtK G P ops o4 v3 (t.set d2 v2) S
 b2':QtK G P ops o4 v3 (t.set d2 v2) Sa
 b3:StoK G ops o5 ((t.set d2 v2).set d3 v3) S Sb
 b3':StoK G ops o5 ((t.set d2 v2).set d3 v3) Sa Sab
 q:Q .normal (((t.set d1 v1).set d2 v2).set d3 v3) Sab D
theorem maskT_of {l:List Nat} {t t':List PV} (hl:t.length=t'.length) (h:∀ i,l.elem i=true→getT t i=getT t' i):dV l 0 t=dV l 0 t':=rP hl h
theorem tT {t:List PV} {d i:Nat} {v:PV} (h:i≠d):getT (t.set d v) i=getT t i:=by rw[fU,if_neg (fun hh=>h hh.1)]
theorem qR {ops:Array Oper} {o:Oper} {p:PV} {t t':List PV} {S:aD} (hl:t.length=t'.length) (h:∀ i,(fK ops o).elem i=true→getT t i=getT t' i) (hq:QtK G P ops o p t S):QtK G P ops o p t' S:=by
 unfold QtK at hq ⊢
 rw[oX,oP] at hq ⊢
 rw[← maskT_of hl h];exact hq
theorem uI {ops:Array Oper} {o:Oper} {t t':List PV} {S S':aD} (hl:t.length=t'.length) (h:∀ i,(fK ops o).elem i=true→getT t i=getT t' i) (hq:StoK G ops o t S S'):StoK G ops o t' S S':=by
 unfold StoK at hq ⊢
 rw[oX,oP] at hq ⊢
 rw[← maskT_of hl h];exact hq
theorem QtK_TOp (hG:jI P G) {ops:Array Oper} {o:Oper} {p:PV} {d:Nat} {t:List PV} {S:aD} {D:List DA} {Q:bQ} (hq:kV o.op=true) (hd:o.dst=some d) (h:QtK G P ops o p t S) :
  TOp P r o (fun t1 S1 D1=>t1=t.set d p∧S1=S∧D1=D) Q t S D:=by
 intro a w fr m hs next R hn hR
 have h1:=QtK_ok (r:=r) (D:=D) hG h
 refine fP (Qt_use h1 a w fr m hs next fun v w' fr' m' hv hrel hst=>?_) (fun _ _ h=>h) (fun _ _ _ h=>h.elim)
 refine hn _ _ _ _ _ _ _ ⟨rfl,rfl,rfl⟩ ?_ hst
 have:=(hs.step hst hrel).put o.dst hv
 rw[hd] at this ⊢
 exact this
theorem TA_app (hG:jI P G) {ops:Array Oper} {b:Nat} (hg:gridOk b 2 3 ops=true) (hsep:sepOk b ops=true) {Q:bQ} {D:List DA} {t:List PV} {S:aD} {o1 o2 o3 o4 o5:Oper} {d1 d2 d3:Nat} {v1 v2 v3:PV} {Sa Sb Sab:aD}
  (e1:ops[b]?=some o1) (e2:ops[b+1]?=some o2) (e3:ops[b+2]?=some o3) (e4:ops[b+3]?=some o4) (e5:ops[b+4]?=some o5) (f1:o1.dst=some d1) (f3:o3.dst=some d2) (f4:o4.dst=some d3)
  (h:AppE G P ops b Q D t S o1 o2 o3 o4 o5 d1 d2 d3 v1 v2 v3 Sa Sb Sab) (fuel:Nat) (hf:5≤fuel):TA P r ops fuel (iQ b 2 ops.size 0 0) Q t S D:=by
 unfold sepOk at hsep
 rw[e1,e2,e3,e4,e5] at hsep
 simp only[f1,f3,f4,Bool.and_eq_true,Bool.not_eq_true',Option.isNone_iff_eq_none] at hsep
 obtain⟨⟨⟨⟨⟨⟨⟨⟨⟨⟨q1,q3⟩,q4⟩,g1⟩,g2⟩,g3⟩,g4⟩,g5⟩,k2⟩,k5⟩,⟨⟨⟨⟨⟨⟨⟨⟨⟨⟨⟨⟨⟨n12,n13⟩,n23⟩,m1⟩,m2⟩,m3⟩,m4⟩,m5⟩,m6⟩,m7⟩,m8⟩,m9⟩,m10⟩,m11⟩⟩:=hsep
 have ne12:d1≠d2:=fun e=>by subst e;simp at n12
 have ne13:d1≠d3:=fun e=>by subst e;simp at n13
 have ne23:d2≠d3:=fun e=>by subst e;simp at n23
 have nm:∀ {o:Oper} {d i:Nat},(fK ops o).elem d=false→(fK ops o).elem i=true→i≠d:=fun h1 h2 e=>by subst e;rw[h1] at h2;cases h2
 let TT:Nat→Nat→List PV:=fun i j=>
  let x:=if i=0 then t else t.set d1 v1
  let y:=if j=0 then x else x.set d2 v2
  if j≤1 then y else y.set d3 v3
 let SS:Nat→Nat→aD:=fun i j=>if i=2 then (if j=3 then Sab else Sa) else (if j=3 then Sb else S)
 have TTl:∀ i j,(TT i j).length=t.length:=fun i j=>by simp only[TT];split <;> split <;> (try split) <;> simp
 have TTg:∀ i j u,u≠d2→u≠d3→getT (TT i j) u=getT (if i=0 then t else t.set d1 v1) u:=fun i j u h1 h2=>by
  simp only[TT]
  split <;> split <;> first | rfl | simp only[tT h1,tT h2]
 have cong:∀ {X Y:List PV} {d:Nat} {v:PV} {u:Nat},X.length=Y.length→getT X u=getT Y u→getT (X.set d v) u=getT (Y.set d v) u:=fun {X Y d v u} hl h=>by
  simp only[fU,hl,h]
 have hx:∀ i u,u≠d1→getT (if i=0 then t else t.set d1 v1) u=getT t u:=fun i u h1=>by
  split
  ·rfl
  ·exact tT h1
 have hxl:∀ i:Nat,(if i=0 then t else t.set d1 v1).length=t.length:=fun i=>by split <;> simp
 have TTh:∀ i j u,u≠d1→getT (TT i j) u=getT (if j=0 then t else if j≤1 then t.set d2 v2 else (t.set d2 v2).set d3 v3) u:=fun i j u h1=>by
  simp only[TT]
  by_cases ej:j=0
  ·subst ej
   simp only[Nat.zero_le,if_true]
   exact hx i u h1
  ·by_cases ej1:j≤1
   ·simp only[if_pos ej1,if_neg ej]
    exact cong (hxl i) (hx i u h1)
   ·simp only[if_neg ej1,if_neg ej]
    exact cong (by simp only[List.length_set];exact hxl i) (cong (hxl i) (hx i u h1))
 have T1:∀ j,(TT 0 j).set d1 v1=TT 1 j:=fun j=>by
  simp only[TT]
  by_cases ej:j=0
  ·subst ej;rfl
  ·by_cases ej1:j≤1
   ·simp only[if_pos ej1,if_neg ej,if_true,Nat.one_ne_zero,if_false]
    rw[List.set_comm _ _ (Ne.symm ne12)]
   ·simp only[if_neg ej1,if_neg ej,if_true,Nat.one_ne_zero,if_false]
    rw[List.set_comm _ _ (Ne.symm ne13),List.set_comm _ _ (Ne.symm ne12)]
 have T2:∀ j,TT 2 j=TT 1 j:=fun j=>rfl
 have U1:∀ i,(TT i 0).set d2 v2=TT i 1:=fun i=>rfl
 have U2:∀ i,(TT i 1).set d3 v3=TT i 2:=fun i=>rfl
 have U3:∀ i,TT i 3=TT i 2:=fun i=>rfl
 have grid:=TA_grid (P:=P) (r:=r) (G:=G) hg (Q:=Q) (D:=D) (fun i j=>(TT i j,SS i j)) ?_ ?_ ?_
 ·have:=grid fuel 0 0 (by omega) (by omega) (by omega)
  simpa[TT,SS] using this
 ·intro i j hi hj
  have hi':i=0∨i=1:=by omega
  rcases hi' with rfl | rfl
  ·refine⟨o1,e1,g1,?_⟩
   have hq:QtK G P ops o1 v1 (TT 0 j) (SS 0 j):=by
    have hs:SS 0 j=if j=3 then Sb else S:=rfl
    rw[hs]
    split
    ·exact qR (TTl 0 j).symm (fun u hu=>(TTg 0 j u (nm m1 hu) (nm m2 hu)).symm) h.a1'
    ·exact qR (TTl 0 j).symm (fun u hu=>(TTg 0 j u (nm m1 hu) (nm m2 hu)).symm) h.a1
   have:=QtK_TOp (r:=r) (D:=D) (Q:=Q) hG q1 f1 hq
   rw[T1] at this
   exact this
  ·refine⟨o2,e2,g2,?_⟩
   have hq:StoK G ops o2 (TT 1 j) (SS 1 j) (SS 2 j):=by
    have hs:SS 1 j=if j=3 then Sb else S:=rfl
    have hs2:SS 2 j=if j=3 then Sab else Sa:=rfl
    rw[hs,hs2]
    split
    ·exact uI (by simpa using (TTl 1 j).symm) (fun u hu=>(TTg 1 j u (nm m3 hu) (nm m4 hu)).symm) h.a2'
    ·exact uI (by simpa using (TTl 1 j).symm) (fun u hu=>(TTg 1 j u (nm m3 hu) (nm m4 hu)).symm) h.a2
   exact StoK_ok (r:=r) (D:=D) (Q:=Q) hG k2 hq
 ·intro i j hi hj
  have hj':j=0∨j=1∨j=2:=by omega
  have hs:∀ j,j≠3→SS i j=if i=2 then Sa else S:=fun j hj=>by simp only[SS,if_neg hj]
  rcases hj' with rfl | rfl | rfl
  ·refine⟨o3,e3,g3,?_⟩
   have hq:QtK G P ops o3 v2 (TT i 0) (SS i 0):=by
    rw[hs 0 (by omega)]
    split
    ·exact qR (TTl i 0).symm (fun u hu=>(TTh i 0 u (nm m5 hu)).symm) h.b1'
    ·exact qR (TTl i 0).symm (fun u hu=>(TTh i 0 u (nm m5 hu)).symm) h.b1
   have:=QtK_TOp (r:=r) (D:=D) (Q:=Q) hG q3 f3 hq
   rw[U1] at this
   show TOp P r o3 (fun t' S' D'=>t'=TT i 1∧S'=SS i 1∧D'=D) Q (TT i 0) (SS i 0) D
   rw[hs 1 (by omega),← hs 0 (by omega)];exact this
  ·refine⟨o4,e4,g4,?_⟩
   have hq:QtK G P ops o4 v3 (TT i 1) (SS i 1):=by
    rw[hs 1 (by omega)]
    split
    ·exact qR (by simpa using (TTl i 1).symm) (fun u hu=>(TTh i 1 u (nm m6 hu)).symm) h.b2'
    ·exact qR (by simpa using (TTl i 1).symm) (fun u hu=>(TTh i 1 u (nm m6 hu)).symm) h.b2
   have:=QtK_TOp (r:=r) (D:=D) (Q:=Q) hG q4 f4 hq
   rw[U2] at this
   show TOp P r o4 (fun t' S' D'=>t'=TT i 2∧S'=SS i 2∧D'=D) Q (TT i 1) (SS i 1) D
   rw[hs 2 (by omega),← hs 1 (by omega)];exact this
  ·refine⟨o5,e5,g5,?_⟩
   have hs3:SS i 3=if i=2 then Sab else Sb:=by simp only[SS,if_true]
   have hq:StoK G ops o5 (TT i 2) (SS i 2) (SS i 3):=by
    rw[hs 2 (by omega),hs3]
    split
    ·exact uI (by simpa using (TTl i 2).symm) (fun u hu=>(TTh i 2 u (nm m7 hu)).symm) h.b3'
    ·exact uI (by simpa using (TTl i 2).symm) (fun u hu=>(TTh i 2 u (nm m7 hu)).symm) h.b3
   exact StoK_ok (r:=r) (D:=D) (Q:=Q) hG k5 hq
 ·show Q .normal (TT 2 3) (SS 2 3) D
  simpa[TT,SS] using h.q
def zU (G:List TI) (P:Program) (ops:Array Oper) (b:Nat) (Q:bQ) (D:List DA) (t:List PV) (S:aD):Prop:=
 match jJ ops.toList b,jJ ops.toList (b+1),jJ ops.toList (b+2),jJ ops.toList (b+3),jJ ops.toList (b+4) with
 | some o1,some o2,some o3,some o4,some o5=>match o1.dst,o3.dst,o4.dst with
  | some d1,some d2,some d3=>∃ v1 v2 v3 Sa Sb Sab,AppE G P ops b Q D t S o1 o2 o3 o4 o5 d1 d2 d3 v1 v2 v3 Sa Sb Sab
  | _,_,_=>False
 | _,_,_,_,_=>False
def AppK (G:List TI) (P:Program) (r:Option Nat) (ops:Array Oper) (k:Nat) (Q:bQ) (S:aD) (D:List DA) (t:List PV):Prop:=
 match jJ ops.toList k with
 | some o=>o.guard=none∧sA G P r o (fun t1 S1 D1=>D1=D∧zU G P ops (k+1) Q D t1 S1) Q t S D
 | none=>False
theorem oJ (hG:jI P G) (hm:P.follows .mixedOrders=true) {id:Nat} {ops:Array Oper} {Q:bQ} {t:List PV} {S:aD} {D:List DA} (k:Nat) (hk:drawOkH k ops=true) (hg:gridOk (k+1) 2 3 ops=true) (hsep:sepOk (k+1) ops=true)
  (hone:((Region.ready .any ops (iQ k 0 ops.size 0 0)).all fun u=>Nat.beq u k)=true) (hone':(Region.ready .any ops (iQ k 0 ops.size 0 0)).isEmpty=false) (h:DrawA G P ops S (AppK G P r ops k Q S D) k 0 t):T P r (.region id ops true) Q t S D:=by
 refine T_any hm ?_
 obtain⟨ps,ts,h1,h2,h3⟩:=DrawA_ok (r:=r) (D:=D) hG h
 rw[Nat.zero_add] at h3
 intro a w fr m hs'
 have hkl:=wH hk
 have hgsz:ops.size=k+1+2+3:=Nat.eq_of_beq_eq_true (Bool.and_eq_true_iff.1 hg).1
 have ht:∀ i,i≤k→ts i=bI ops ps (fun j=>!([]:List Nat).elem j) t i:=by
  intro i
  induction i with
  | zero=>intro _;exact h1
  | succ i ih=>
   intro hi
   obtain⟨o,ho,hts,_⟩:=h2 i (Nat.zero_le _) (by omega)
   rw[hts,ih (by omega),bI,if_pos (by rfl)]
   simp[ho]
 refine any_headA hk (P:=P) (r:=r) (ps:=ps) (ts:=ts) (t:=t) (S:=S) (D:=D) ht (fun i hi _=>h2 i (Nat.zero_le _) (by omega)) (w0:=w) (fr0:=fr) (m0:=m) (R:=dF w fr m S Q) ?_ ops.size _ a w fr m (by simp) (fun j oj _ hj=>by rw[dE] at hj;cases hj) (fun i _=>dE) (fun i hi=>by cases hi) oI ?_ (.refl _ _ _ _)
 ·intro fuel listed a' w' fr' m' hsz hc hl hu hst hstep
  have el:listed=iQ k 0 ops.size 0 0:=arr_ext (by rw[hsz,iI]) fun u hu'=>by
   rw[hl u (by omega),iV (by omega)]
   simp only[rI,rB]
   by_cases e:u<k
   ·simp[e]
   ·simp[e] <;> omega
  subst el
  unfold AppK at h3
  cases hgo:jJ ops.toList k with
  | none=>rw[hgo] at h3;exact h3.elim
  | some o=>
   rw[hgo] at h3
   obtain⟨hgd,h3⟩:=h3
   have ho:ops[k]?=some o:=by rw[fW] at hgo;simpa using hgo
   have hfu:6≤fuel:=by
    have hcount:fI ops.size (iQ k 0 ops.size 0 0)=6:=by
     unfold fI
     have hf:(fun i=>!(iQ k 0 ops.size 0 0).getD i true)=fun i=>!(iQ k 0 ops.size 0 0).getD i true:=rfl
     have:(List.range ops.size).filter (fun i=>!(iQ k 0 ops.size 0 0).getD i true)=(List.range ops.size).filter (fun i=>decide (k≤i)):=by
      apply List.filter_congr
      intro u hu'
      have hu':=List.mem_range.1 hu'
      rw[iV hu']
      simp only[rI,rB]
      by_cases e:u<k
      ·simp[e] <;> omega
      ·simp[e] <;> omega
     rw[this,hgsz]
     have hr:List.range (k+1+2+3)=List.range k++(List.range 6).map (k + ·):=by
      rw[show k+1+2+3=k+6 by omega,List.range_add]
     rw[hr,List.filter_append,List.length_append]
     have e1:(List.range k).filter (fun i=>decide (k≤i))=[]:=by
      rw[List.filter_eq_nil_iff];intro x hx;have:=List.mem_range.1 hx;simp;omega
     have e2:((List.range 6).map (k + ·)).filter (fun i=>decide (k≤i))=(List.range 6).map (k + ·):=by
      rw[List.filter_eq_self];intro x hx;obtain⟨y,_,rfl⟩:=List.mem_map.1 hx;simp
     rw[e1,e2];simp
    omega
   obtain⟨fuel,rfl⟩:∃ f,fuel=f+1:=⟨fuel - 1,by omega⟩
   refine⟨fun h0=>?_,fun u hu'=>?_⟩
   ·rw[h0] at hone';cases hone'
   ·have eu:u=k:=Nat.eq_of_beq_eq_true (List.all_eq_true.1 hone u hu')
    subst eu
    have egr:(iQ u 0 ops.size 0 0).setIfInBounds u true=iQ (u+1) 2 ops.size 0 0:=by
     have:=gridL_j (b:=u) (n:=0) (i:=0) (j:=0) (sz:=ops.size) (by omega)
     simp only[Nat.add_zero] at this
     rw[this]
     refine arr_ext (by simp[iI]) fun v hv=>?_
     rw[iI] at hv
     rw[iV hv,iV hv]
     simp only[rI,rB]
     rw[Bool.eq_iff_iff];simp;omega
    unfold wpOpIn
    rw[ho]
    dsimp only
    simp only[Region.wanted,hgd,if_true]
    refine⟨fun _ _=>trivial,(opW_ok hG h3) a' w' fr' m' hst _ _ ?_ (fun e a w hp=>dF.trans hstep hp)⟩
    rintro t1 S1 D1 a1 w1 fr1 m1 ⟨rfl,hx⟩ hs1 hst1
    unfold zU at hx
    split at hx
    ·rename_i o1 o2 o3 o4 o5 x1 x2 x3 x4 x5
     split at hx
     ·rename_i d1 d2 d3 y1 y2 y3
      obtain⟨v1,v2,v3,Sa,Sb,Sab,hE⟩:=hx
      rw[fW] at x1 x2 x3 x4 x5
      have hTA:=TA_app (r:=r) hG hg hsep (by simpa using x1) (by simpa using x2) (by simpa using x3) (by simpa using x4) (by simpa using x5) y1 y2 y3 hE fuel (by omega)
      rw[egr]
      have h6:=hTA a1 w1 fr1 m1 hs1
      have key:∀ (fuel:Nat) (listed:Array Bool) (a:Act) (w':World) {Q Q':Exit→Act→World→Prop},(∀ e a w,Q e a w→Q' e a w)→wpAnyIn (FR r) 0 P .any ops Q fuel listed a w'→wpAnyIn (FR r) 0 P .any ops Q' fuel listed a w':=by
       intro fuel
       induction fuel with
       | zero=>exact fun _ _ _ _ _ hq h=>⟨h.1,hq _ _ _ h.2⟩
       | succ fuel ih=>
        intro listed a w' Q Q' hq h
        refine⟨fun h0=>hq _ _ _ (h.1 h0),fun i hi=>?_⟩
        have h2:=h.2 i hi
        unfold wpOpIn at h2 ⊢
        split
        ·rename_i e;rw[e] at h2;exact ih _ _ _ hq h2
        ·rename_i o e
         rw[e] at h2
         dsimp only at h2
         split
         ·rename_i hw
          rw[if_pos hw] at h2
          exact⟨h2.1,fP h2.2 (fun _ _ h=>ih _ _ _ hq h) hq⟩
         ·rename_i hw
          rw[if_neg hw] at h2
          exact⟨h2.1,ih _ _ _ hq h2.2⟩
      exact key _ _ _ _ (fun _ _ _ h=>dF.trans (hstep.trans hst1) h) h6
     ·exact hx.elim
    ·exact hx.elim
 ·have:∀ n,bI ops ps (fun j=>(Array.replicate ops.size false).getD j false && !([]:List Nat).elem j) t n=t:=by
   intro n
   induction n with
   | zero=>rfl
   | succ n ih=>rw[bI,if_neg (by rw[dE];simp)];exact ih
  rw[this k]
  exact hs'
end
end Go.Proofs.YtbojdflgjpjbiaaGreat.L
