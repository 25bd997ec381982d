/- A logic over the machine, and what the functions of the seat come to: part 4. No claim stands here; the theorems are used by the row. -/
import Derived.Test.YtbojdflgjpjbiaaGreatJ3
set_option linter.unusedSimpArgs false
set_option linter.unnecessarySimpa false
set_option linter.unusedVariables false
namespace Go.Proofs.YtbojdflgjpjbiaaGreat.L
open Go
section
variable {P:Program} {G:List TI} {r:Option Nat}
theorem Qt_frame {o:Oper} {p:PV} {t:List PV} {S S2:aD} {D:List DA} (h:Qt P r o p t S D) (hs2:bV S2 S):Qt P r o p t S2 D:=by
 intro a w fr m hs next hn
 refine h a w fr m (hs.weak (aZ t) hs2) next fun v w' fr' m' hv hr hst=>?_
 obtain⟨g1,g2,_⟩:=sZ hs.rel hs2 hr hst
 have hm:jD S2 S S=S2:=by
  funext g
  simp only[jD]
  cases e1:S g with
  | none=>simp
  | some x=>simp[hs2 g x e1]
 rw[hm] at g1 g2
 exact hn v w' fr' m' hv g1 g2
def Gt (P:Program) (r:Option Nat) (o:Oper) (R:PV→aD→aD→Prop) (t:List PV) (S:aD) (D:List DA):Prop:=
 ∀ S2,bV S2 S→∀ a w fr m,kZ a w fr m t S2 D→∀ next:Act→World→Prop,(∀ p S3 v w' fr' m',R p S2 S3→Rep w' fr' m' v p→RelS w' fr' m' S3→bZ w fr m S2 w' fr' m' S3→next (a.put o.dst v) w') →
  o.uponIn (FR r) 0 P a next (fun _ _ _=>False) ((o.semAt (FR r).round a.eval).run P w)
def RowFn (P:Program) (n:Nat) (args:List PV) (R:PV→aD→aD→Prop):Prop:=
 ∃ R0,Fn P n args E R0∧∀ (S2:aD) o S',R0 o S'→(∀ g,(S' g).isSome=true→S2 g=none)→∃ p,o=.ret p∧R p S2 (jD S2 E S')
theorem Gt_call {o:Oper} {R:PV→aD→aD→Prop} {t:List PV} {S:aD} {D:List DA} {f:Operand} {args:Array Operand} {at':Array Nat} (ho:o.op=.call { callee:=.value f,args:=args,argTypes:=at' })
  (h:iP t f fun c=>vB t args.toList fun vs=>match c with
   | .fn (.func n) first cap=>RowFn P n (first++vs++cap) R
   | _=>False):Gt P r o R t S D:=by
 intro S2 hs2 a w fr m hs next hn
 obtain⟨q,hq,h⟩:=bP hs h
 obtain⟨ps,hps,h⟩:=yR hs h
 split at h
 ·rename_i n first cap
  revert hq;generalize he:a.eval f=vf;intro hq
  cases hq with
  | fn _ fa fc _ _ h1 h2 h3 h4=>
   obtain⟨R0,⟨hc,hf⟩,hk⟩:=h
   rw[fQ (by rw[ho];simp),call_run ho he hc]
   refine⟨(fun h=>by cases h),callsIn_wide.2 ((hf w fr m _ (hs.rel.weak (aM _)) (sU ⟨h1,h3⟩ hps ⟨h2,h4⟩)).mono ?_)⟩
   rintro e w' ⟨out,S',fr',m',hR,h5,h6,h7⟩
   obtain⟨g1,g2,g3⟩:=sZ hs.rel (aM _) h6 h7
   obtain⟨p,rfl,hR3⟩:=hk S2 out S' hR fun g hg=>by
    rcases g3 g hg with h | h
    ·cases h
    ·exact h
   cases e with
   | returned v=>exact hn p _ v w' fr' m' hR3 h5 g1 g2
   | panicked ch=>exact (by unfold nQ at h5;split at h5 <;> simp_all)
   | outgrown=>exact h5.elim
 ·exact h.elim
theorem Gt_use {o:Oper} {R:PV→aD→aD→Prop} {t:List PV} {S:aD} {D:List DA} {l:List Nat} (h:Gt P r o R (dV l 0 t) S D):Gt P r o R t S D:=
 fun S2 hs2 a w fr m hs=>h S2 hs2 a w fr m (hs.weak (tN l 0 t) (aB S2))
def rowOk1 (k:Nat) (ops:Array Oper) (i:Nat):Bool:=Nat.blt i k && match ops[i]? with
 | some oi=>(match oi.dst with
  | some u=>(List.range k).all fun j=>j == i || (match ops[j]? with | some oj=>!((fK ops oj).elem u) && !(oj.dst == some u) | none=>false)
  | none=>false)
 | none=>false
def vL (k:Nat) (ops:Array Oper):List Nat→Bool
 | []=>true
 | i::l=>(rowOk1 k ops i && l.all fun j=>!(j == i) && ((prs ops 0 ops.toList []).getD j []).elem i) && vL k ops l
theorem yV {k:Nat} {ops:Array Oper}:∀ {l:List Nat} {i:Nat},vL k ops l=true→i∈l→rowOk1 k ops i=true
 | j::l,i,h,hi=>by
  simp only[vL,Bool.and_eq_true] at h
  rcases List.mem_cons.1 hi with rfl | hi
  ·exact h.1.1
  ·exact yV h.2 hi
theorem tL {k:Nat} {ops:Array Oper} {i:Nat} (h:rowOk1 k ops i=true):i<k∧∃ oi u,ops[i]?=some oi∧oi.dst=some u∧∀ j,j<k→j≠i→∃ oj,ops[j]?=some oj∧(fK ops oj).elem u=false∧oj.dst≠some u:=by
 simp only[rowOk1,Bool.and_eq_true] at h
 obtain⟨h1,h⟩:=h
 have h1:=Nat.le_of_ble_eq_true h1
 cases ho:ops[i]? with
 | none=>rw[ho] at h;cases h
 | some oi=>
  rw[ho] at h
  dsimp only at h
  cases hd:oi.dst with
  | none=>rw[hd] at h;cases h
  | some u=>
   rw[hd] at h
   refine⟨h1,oi,u,rfl,hd,fun j hj hne=>?_⟩
   have h2:=List.all_eq_true.1 h j (List.mem_range.2 hj)
   cases hoj:ops[j]? with
   | none=>rw[hoj] at h2;simp[hne] at h2
   | some oj=>
    rw[hoj] at h2
    simp only[Bool.or_eq_true,beq_iff_eq,hne,false_or,Bool.and_eq_true,Bool.not_eq_true',beq_eq_false_iff_ne] at h2
    exact⟨oj,rfl,h2.1,h2.2⟩
theorem oE {ops:Array Oper} {ps ps':Nat→PV} {f f':Nat→Bool} {t:List PV} {u:Nat}:∀ k,(∀ j,j<k→(ops[j]?).bind (·.dst)=some u→f j=f' j∧(f j=true→ps j=ps' j))→getT (bI ops ps f t k) u=getT (bI ops ps' f' t k) u
 | 0,_=>rfl
 | k+1,h=>by
  have ih:=oE k (fun j hj=>h j (by omega)) (f:=f) (f':=f') (ps:=ps) (ps':=ps') (t:=t)
  simp only[bI]
  by_cases hd:(ops[k]?).bind (·.dst)=some u
  ·obtain⟨h1,h2⟩:=h k (by omega) hd
   by_cases e:f k=true
   ·rw[if_pos e,if_pos (by rw[← h1];exact e),h2 e]
    exact tP (by rw[bG,bG]) ih
   ·rw[if_neg e,if_neg (by rw[← h1];exact e)];exact ih
  ·have e1:∀ (g:Nat→Bool) (q:Nat→PV),getT (if g k then jH (bI ops q g t k) ((ops[k]?).bind (·.dst)) (q k) else bI ops q g t k) u=getT (bI ops q g t k) u:=by
    intro g q;split
    ·exact oZ hd
    ·rfl
   rw[e1 f ps,e1 f' ps',ih]
def RK (Rs:Nat→PV→aD→aD→Prop) (K:(Nat→PV)→aD→Prop):List Nat→(Nat→PV)→aD→Prop
 | [],pv,S=>K pv S
 | i::l,pv,S=>∀ p S3,Rs i p S S3→RK Rs K l (fun j=>if j=i then p else pv j) S3
section
variable {k:Nat} {ops:Array Oper} (hk:rT k [] ops=true) {rc:List Nat} (hrc:vL k ops rc=true)
include hk hrc
theorem any_rows {ps:Nat→PV} {ts:Nat→List PV} {t:List PV} {S:aD} {D:List DA} {Rs:Nat→PV→aD→aD→Prop} {K:(Nat→PV)→aD→Prop}
    (hRs:∀ i p S2 S3,Rs i p S2 S3→bV S2 S→bV S3 S) (ht:∀ i,i≤k→ts i=bI ops ps (fun _=>true) t i)
    (hst:∀ i,i<k→∃ o,ops[i]?=some o∧o.guard=none∧(i∈rc→Gt P r o (Rs i) (dV (fK ops o) 0 (ts i)) S D)∧(i∉rc→Qt P r o (ps i) (dV (fK ops o) 0 (ts i)) S D))
    {w0:World} {fr0:Nat→Prop} {m0:aQ} {R:Exit→Act→World→Prop}
    (hR:∀ pv S2 a w fr m,K pv S2→kZ a w fr m (bI ops pv (fun _=>true) t k) S2 D→bZ w0 fr0 m0 S w fr m S2→wpOpsIn (FR r) 0 P ops R (List.range' k (ops.size - k)) a w) :
    ∀ (fuel:Nat) (listed:Array Bool) (a:Act) (w:World) (fr:Nat→Prop) (m:aQ) (l:List Nat) (pv:Nat→PV) (S2:aD),listed.size=ops.size→gZ ops listed→(∀ i,k≤i→listed.getD i false=false) →
      (∀ i∈l,listed.getD i false=false)→(∀ i∈rc,i∉l→listed.getD i false=true)→(∀ i∈l,i∈rc)→vL k ops l=true→(∀ i,i∉rc→pv i=ps i)→bV S2 S→RK Rs K l pv S2 →
      fI ops.size listed≤fuel→kZ a w fr m (bI ops pv (fun j=>listed.getD j false) t k) S2 D→bZ w0 fr0 m0 S w fr m S2→wpAnyIn (FR r) 0 P .any ops R fuel listed a w:=by
  intro fuel
  have hkl:=uH hk
  have fin:∀ (fuel:Nat) (listed:Array Bool) (a:Act) (w:World) (fr:Nat→Prop) (m:aQ) (l:List Nat) (pv:Nat→PV) (S2:aD),listed.size=ops.size→gZ ops listed→(∀ i,k≤i→listed.getD i false=false) →
      (∀ i∈l,listed.getD i false=false)→vL k ops l=true→RK Rs K l pv S2 →
      fI ops.size listed≤fuel→kZ a w fr m (bI ops pv (fun j=>listed.getD j false) t k) S2 D→bZ w0 fr0 m0 S w fr m S2→(∀ i,i<k→listed.getD i false=true)→wpAnyIn (FR r) 0 P .any ops R fuel listed a w:=by
    intro fuel listed a w fr m l pv S2 hs hc htl hlu hlo hrk hu hstr hstep hall
    have hl0:l=[]:=by
      cases l with
      | nil=>rfl
      | cons i l=>
        have h1:=hlu i (by simp)
        have h2:=(tL (yV hlo (List.mem_cons_self (a:=i) (l:=l)))).1
        rw[hall i h2] at h1;cases h1
    subst hl0
    refine any_tail hk fuel k listed a w hs hc (fun i hi=>?_) (Nat.le_refl _) hkl hu (hR pv S2 a w fr m hrk ?_ hstep)
    · by_cases e:i<k
      · rw[hall i e];simp[e]
      · rw[htl i (by omega)];simp[e]
    · have:bI ops pv (fun j=>listed.getD j false) t k=bI ops pv (fun _=>true) t k:=
        fL (by rw[bG,bG]) fun u=>iF k fun j hj _=>hall j hj
      rw[← this];exact hstr
  induction fuel with
  | zero=>
    intro listed a w fr m l pv S2 hs hc htl hlu hlx hlr hlo hpv hS2 hrk hu hstr hstep
    refine fin 0 listed a w fr m l pv S2 hs hc htl hlu hlo hrk hu hstr hstep fun i hi=>?_
    by_cases e:listed.getD i false=true
    · exact e
    · have:=oO (n:=ops.size) (i:=i) (listed:=listed) (by omega) (by rw[cY (by omega) true false];simpa using e)
      omega
  | succ fuel ih=>
    intro listed a w fr m l pv S2 hs hc htl hlu hlx hlr hlo hpv hS2 hrk hu hstr hstep
    by_cases hall:∀ i,i<k→listed.getD i false=true
    · exact fin _ listed a w fr m l pv S2 hs hc htl hlu hlo hrk hu hstr hstep hall
    obtain⟨i0,hall'⟩:=Classical.not_forall.1 hall
    obtain⟨hi0,hu0⟩:=Classical.not_imp.1 hall'
    obtain⟨j',hj',hr'⟩:=vW hk hs i0 (by omega) (by simpa using hu0)
    refine⟨fun h0=>absurd hr' (by rw[h0];simp),fun i hi=>?_⟩
    obtain⟨h1,o,ho,hafter⟩:=mem_ready.1 hi
    have hil:i<ops.size:=(Array.getElem?_eq_some_iff.1 ho).1
    have hc':=hc.set hi
    have hui:listed.getD i false=false:=(cY (by omega) _ _).trans h1
    have hik:i<k:=by
      by_cases e:i<k
      · exact e
      · have h2:=(jV hk (i:=i0) (j:=i) (oi:=ops[i0]'(by omega)) rfl rfl (by omega) (Array.getElem?_eq_getElem _) ho hc' (bD (by omega))).2 (by omega)
        rw[getD_set_ne false (by omega)] at h2
        exact absurd h2 hu0
    obtain⟨o',ho',hgd,hgt,hqt⟩:=hst i hik
    rw[ho] at ho';cases ho'
    have hbefore:∀ j oj,ops[j]?=some oj→j<i→lR ops oj o=true→listed.getD j false=true:=fun j oj hoj hlt hcl=>by
      have h2:=(jV hk (fs:=[]) rfl rfl hlt hoj ho hc' (bD (by omega))).1 hcl
      rwa [getD_set_ne false (by omega)] at h2
    have hbehind:∀ j oj,ops[j]?=some oj→i<j→lR ops o oj=true→listed.getD j false=false:=fun j oj hoj hlt hcl=>by
      cases e:listed.getD j false with
      | false=>rfl
      | true=>
        have h2:=(jV hk (fs:=[]) rfl rfl hlt ho hoj hc e).1 hcl
        rw[hui] at h2;cases h2
    have hdeps:∀ u,(fK ops o).elem u=true→getT (bI ops pv (fun j=>listed.getD j false) t k) u=getT (ts i) u:=fun u hu'=>by
      rw[ht i (by omega),← pM (q:=fun _=>true) (i:=i) k (by omega)]
      refine oE k fun j hj hd=>?_
      cases hoj:ops[j]? with
      | none=>rw[hoj] at hd;simp at hd
      | some oj=>
        rw[hoj] at hd
        simp only[Option.bind_some] at hd
        have hjrc:j≠i→j∉rc:=fun hne hjr=>by
          obtain⟨_,oj',u',e1,e2,e3⟩:=tL (yV hrc hjr)
          rw[hoj] at e1;cases e1
          rw[hd] at e2;cases e2
          obtain⟨oi',e4,e5,_⟩:=e3 i hik (Ne.symm hne)
          rw[ho] at e4;cases e4
          rw[hu'] at e5;cases e5
        simp only[Bool.and_true]
        by_cases e:j<i
        · rw[hbefore j oj hoj e (by simp only[lR,hd,hu',Bool.true_or])]
          exact⟨by simp[e],fun _=>hpv j (hjrc (by omega))⟩
        · by_cases e2:j=i
          · subst e2;rw[hui];simp
          · rw[hbehind j oj hoj (by omega) (by simp only[lR,hd,hu',Bool.or_true])];simp[e]
    have hlen:(bI ops pv (fun j=>listed.getD j false) t k).length=(ts i).length:=by rw[bG,ht i (by omega),bG]
    have hmask:dV (fK ops o) 0 (ts i)=dV (fK ops o) 0 (bI ops pv (fun j=>listed.getD j false) t k):=rP hlen.symm fun u hu'=>(hdeps u hu').symm
    have hnew:∀ (pv':Nat→PV),(∀ j,j≠i→pv' j=pv j)→jH (bI ops pv (fun j=>listed.getD j false) t k) o.dst (pv' i)=bI ops pv' (fun j=>(listed.setIfInBounds i true).getD j false) t k:=fun pv' hpv'=>by
      refine fL (by rw[tQ,bG,bG]) fun u=>?_
      by_cases hd:o.dst=some u
      · rw[oY (i:=i) (by rw[bD (by omega)]) (by rw[ho];exact hd) k hik]
        · rw[hd]
          simp only[jH,fU,bG,true_and]
          split
          · rfl
          · rename_i hlt
            rw[iR _ _ (by rw[bG];exact hlt),iR _ _ hlt]
        · intro j hij hjk hdj
          rw[getD_set_ne false (by omega)]
          cases hoj:ops[j]? with
          | none=>rw[hoj] at hdj;simp at hdj
          | some oj=>
            rw[hoj] at hdj
            simp only[Option.bind_some] at hdj
            rw[hbehind j oj hoj hij (by simp[lR,hd,hdj])]
      · rw[oZ hd]
        refine oE k fun j hj hdj=>?_
        have hne:j≠i:=by rintro rfl;rw[ho] at hdj;exact hd hdj
        rw[getD_set_ne false (Ne.symm hne)]
        exact⟨rfl,fun _=>(hpv' j hne).symm⟩
    have hundo:fI ops.size (listed.setIfInBounds i true)≤fuel:=by
      have:=mN hs hil h1;omega
    have htl':∀ j,k≤j→(listed.setIfInBounds i true).getD j false=false:=fun j hj=>by rw[getD_set_ne false (by omega)];exact htl j hj
    unfold wpOpIn
    rw[ho]
    dsimp only
    simp only[Region.wanted,hgd,if_true]
    by_cases hin:i∈rc
    · have hg:=hgt hin
      rw[hmask] at hg

      have hil':i∈l:=by
        by_cases e:i∈l
        · exact e
        · have:=hlx i hin e
          rw[hui] at this;cases this
      cases l with
      | nil=>simp at hil'
      | cons j l=>
        have hlo0:=hlo
        simp only[vL,Bool.and_eq_true] at hlo
        have hij:i=j:=by
          rcases List.mem_cons.1 hil' with h | h
          · exact h
          · have h2:=tV hc' (j:=i) (i:=j) (bD (by omega)) (by have h3:=List.all_eq_true.1 hlo.1.2 i h;simp only[Bool.and_eq_true] at h3;exact h3.2)
            by_cases e:i=j
            · exact e
            · rw[getD_set_ne false e,hlu j (by simp)] at h2;cases h2
        subst hij
        have hnl:i∉l:=fun h=>by
          have h2:=List.all_eq_true.1 hlo.1.2 i h
          simp at h2
        refine⟨fun _ _=>trivial,fP (Gt_use hg S2 hS2 a w fr m hstr (wpAnyIn (FR r) 0 P .any ops R fuel (listed.setIfInBounds i true)) fun p S3 v w' fr' m' hRp hv hrel hst'=>?_) (fun _ _ h=>h) (fun _ _ _ h=>h.elim)⟩
        have hn:=hnew (fun j=>if j=i then p else pv j) (fun j hj=>if_neg hj)
        simp only[if_true] at hn
        refine ih _ _ _ _ _ l (fun j=>if j=i then p else pv j) S3 (by simpa using hs) hc' htl' (fun j hj=>?_) (fun j hj hjl=>?_) (fun j hj=>hlr j (List.mem_cons_of_mem _ hj)) hlo.2 (fun j hj=>?_) (hRs i p S2 S3 hRp hS2) (hrk p S3 hRp) hundo (hn ▸ ((hstr.step hst' hrel).put o.dst hv)) (hstep.trans hst')
        · rw[getD_set_ne false (by rintro rfl;exact hnl hj)]
          exact hlu j (List.mem_cons_of_mem _ hj)
        · by_cases e:j=i
          · subst e;exact bD (by omega)
          · rw[getD_set_ne false (Ne.symm e)]
            exact hlx j hj (by simp[e,hjl])
        · rw[if_neg (by rintro rfl;exact hj hin)]
          exact hpv j hj
    · have hq:=hqt hin
      rw[hmask] at hq
      refine⟨fun _ _=>trivial,fP (Qt_frame (Qt_use hq) hS2 a w fr m hstr (wpAnyIn (FR r) 0 P .any ops R fuel (listed.setIfInBounds i true)) fun v w' fr' m' hv hrel hst'=>?_) (fun _ _ h=>h) (fun _ _ _ h=>h.elim)⟩
      have hn:=hnew pv (fun _ _=>rfl)
      rw[hpv i hin] at hn
      refine ih _ _ _ _ _ l pv S2 (by simpa using hs) hc' htl' (fun j hj=>?_) (fun j hj hjl=>?_) hlr hlo hpv hS2 hrk hundo (hn ▸ ((hstr.step hst' hrel).put o.dst hv)) (hstep.trans hst')
      · rw[getD_set_ne false (by rintro rfl;exact hin (hlr _ hj))]
        exact hlu j hj
      · by_cases e:j=i
        · subst e;exact absurd hj hin
        · rw[getD_set_ne false (Ne.symm e)];exact hlx j hj hjl
end
def yI (sz:Nat) (z:List PV):PV→aD→aD→Prop:=fun p S S3=>∃ g,S g=none∧p=.ptr g 0 0 0 sz∧S3=aK S g (.row 0 sz 0 [z])
theorem yI.sle {sz:Nat} {z:List PV} {S S2 S3:aD} {p:PV} (h:yI sz z p S2 S3) (hs:bV S2 S):bV S3 S:=by
 obtain⟨g,h1,_,rfl⟩:=h
 exact fun x y hy=>by rw[aC (by rintro rfl;rw[hs x y hy] at h1;cases h1)];exact hs x y hy
theorem Gt_alloc (hG:jI P G) {o:Oper} {t:List PV} {S:aD} {D:List DA} {ty:Nat} (ho:o.op=.alloc ty) (hz:(aH G ty).size≠0):Gt P r o (yI (aH G ty).size (aH G ty).zero) t S D:=by
 intro S2 hs2 a w fr m hs next hn
 obtain⟨z,hz1,hz2,hz3,hz4⟩:=uV hG hz w
 have hnw:rJ S2 (.row 0 (aH G ty).size 0 [(aH G ty).zero]) (fun g S'=>S2 g=none):=aG fun g hg=>hg
 obtain⟨g,h1,h2,h3⟩:=yX hs.rel hnw (.cells z.cells ty) (wO hs.rel (by simp) (fun i hi=>by
  have:i=0:=by simp at hi;omega
  subst this;exact hz3) (by simp[hz2]) (fun i j hi hj=>by
  have:i=0:=by simp at hi;omega
  subst this
  simp only[List.getElem_cons_zero] at hj ⊢
  obtain⟨v,h5,h6⟩:=(hz4 fr m).get hj
  exact⟨v,by simpa using h5,h6⟩) 0 _ (fun m' hm=>oK hs.rel _ hm))
 have hrun:(execOp a.eval o).run P w=.ok (.value (.pointer (some ⟨w.heap.size,0,none⟩))) { w with heap:=w.heap.push (.cells z.cells ty) }:=by
  simp[execOp,ho,Instr.alloc,hz1,newVar,newRow]
 rw[fQ (by rw[ho];simp),hrun]
 have:=sW (w':={ w with heap:=w.heap.push (.cells z.cells ty) }) (fr:=fr) (m:=m) g w.heap.size 0 0 (aH G ty).size 0
 have h9:Rep { w with heap:=w.heap.push (.cells z.cells ty) } fr (eY m g (0,some w.heap.size)) (.pointer (some ⟨w.heap.size,0,none⟩)) (.ptr g 0 0 0 (aH G ty).size):=by simpa using this
 exact hn _ _ _ _ _ _ ⟨g,h1,rfl,rfl⟩ h9 h2 h3
def GtW (G:List TI) (P:Program) (o:Oper) (R:PV→aD→aD→Prop) (t:List PV):Prop:=
 match o.op with
 | .alloc ty=>(aH G ty).size≠0∧R=yI (aH G ty).size (aH G ty).zero
 | .call { callee:=.value f,args,.. }=>iP t f fun c=>vB t args.toList fun vs=>match c with
   | .fn (.func n) first cap=>sX first vs fun l1=>sX l1 cap fun l2=>RowFn P n l2 R
   | _=>False
 | _=>False
theorem GtW_ok (hG:jI P G) {o:Oper} {R:PV→aD→aD→Prop} {t:List PV} {S:aD} {D:List DA} (h:GtW G P o R t):Gt P r o R t S D:=by
 unfold GtW at h
 split at h
 ·rename_i ty he
  obtain⟨h1,rfl⟩:=h
  exact Gt_alloc hG he h1
 ·rename_i f args at' he
  simp only[iS] at h
  exact Gt_call he h
 ·exact h.elim
def GtK (G:List TI) (P:Program) (ops:Array Oper) (o:Oper) (R:PV→aD→aD→Prop) (t:List PV):Prop:=natsK (fK ops o) fun l=>zP l 0 t fun t'=>GtW G P o R t'
theorem GtK_ok (hG:jI P G) {ops:Array Oper} {o:Oper} {R:PV→aD→aD→Prop} {t:List PV} {S:aD} {D:List DA} (h:GtK G P ops o R t):Gt P r o R (dV (fK ops o) 0 t) S D:=by
 unfold GtK at h
 rw[oX,oP] at h
 exact GtW_ok hG h
def yT (n sz e:Nat) (xs:List (List PV)):PV→aD→aD→Prop:=fun p S S3=>∃ g ver,S g=none∧p=.row g ver 0 n sz∧S3=aK S g (.row ver sz e xs)
theorem RowFn.of {n:Nat} {args:List PV} {k sz e:Nat} {xs:List (List PV)} (h:Fn P n args E fun o S'=>∃ g ver,o=.ret (.row g ver 0 k sz)∧S'=aK E g (.row ver sz e xs)):RowFn P n args (yT k sz e xs):=by
 refine⟨_,h,?_⟩
 rintro S2 o S' ⟨g,ver,rfl,rfl⟩ hd
 refine⟨_,rfl,g,ver,hd g (by rw[aA];rfl),rfl,?_⟩
 funext x
 by_cases e:x=g
 ·subst e;simp[jD,aA]
 ·simp[jD,aC e,E]
theorem yT.sle {n sz e:Nat} {xs:List (List PV)} {S S2 S3:aD} {p:PV} (h:yT n sz e xs p S2 S3) (hs:bV S2 S):bV S3 S:=by
 obtain⟨g,ver,h1,_,rfl⟩:=h
 exact fun x y hy=>by rw[aC (by rintro rfl;rw[hs x y hy] at h1;cases h1)];exact hs x y hy
def RowsW (K:List PV→aD→Prop):List (Option Nat × (PV→aD→aD→Prop))→List PV→aD→Prop
 | [],t,S=>K t S
 | (d,R)::l,t,S=>∀ p S3,R p S S3→gX t d p fun t'=>RowsW K l t' S3
def rZ (G:List TI) (P:Program) (ops:Array Oper) (S:aD) (K:List PV→aD→Prop):List (Option Nat × (PV→aD→aD→Prop))→List Nat→Nat→Nat→List PV→Prop
 | acc,[],0,_,t=>RowsW K acc t S
 | _,_::_,0,_,_=>False
 | acc,[],n+1,i,t=>match jJ ops.toList i with
  | none=>False
  | some o=>match o.guard with
   | some _=>False
   | none=>∃ p,QtK G P ops o p t S∧gX t o.dst p fun t'=>rZ G P ops S K acc [] n (i+1) t'
 | acc,j::rc,n+1,i,t=>match jJ ops.toList i with
  | none=>False
  | some o=>match o.guard with
   | some _=>False
   | none=>match Nat.beq i j with
     | true=>∃ R,GtK G P ops o R t∧(∀ p S2 S3,R p S2 S3→bV S2 S→bV S3 S)∧gX t o.dst .any fun t'=>rZ G P ops S K (acc++[(o.dst,R)]) rc n (i+1) t'
     | false=>∃ p,QtK G P ops o p t S∧gX t o.dst p fun t'=>rZ G P ops S K acc (j::rc) n (i+1) t'
theorem DrawR_ok (hG:jI P G) {ops:Array Oper} {S:aD} {D:List DA} {K:List PV→aD→Prop}:∀ {n i:Nat} {t:List PV} {rc:List Nat} {acc:List (Option Nat × (PV→aD→aD→Prop))},rZ G P ops S K acc rc n i t →
  ∃ (ps:Nat→PV) (ts:Nat→List PV) (Rs:Nat→PV→aD→aD→Prop),ts i=t∧(∀ j,i≤j→j<i+n→∃ o,ops[j]?=some o∧o.guard=none∧ts (j+1)=jH (ts j) o.dst (ps j) ∧
   (j∈rc→Gt P r o (Rs j) (dV (fK ops o) 0 (ts j)) S D∧∀ p S2 S3,Rs j p S2 S3→bV S2 S→bV S3 S)∧(j∉rc→Qt P r o (ps j) (dV (fK ops o) 0 (ts j)) S D)) ∧
   (∀ j∈rc,i≤j∧j<i+n)∧RowsW K (acc++rc.map fun j=>((ops[j]?).bind (·.dst),Rs j)) (ts (i+n)) S
 | 0,i,t,[],acc,h=>⟨fun _=>.any,fun _=>t,fun _ _ _ _=>False,rfl,fun j h1 h2=>by omega,by simp,by simpa[rZ] using h⟩
 | 0,i,t,_::_,acc,h=>by simp only[rZ] at h
 | n+1,i,t,rc,acc,h=>by

  have kV:∀ o p,jJ ops.toList i=some o→o.guard=none→QtK G P ops o p t S→rZ G P ops S K acc rc n (i+1) (jH t o.dst p)→∃ (ps:Nat→PV) (ts:Nat→List PV) (Rs:Nat→PV→aD→aD→Prop),ts i=t∧(∀ j,i≤j→j<i+(n+1)→∃ o,ops[j]?=some o∧o.guard=none∧ts (j+1)=jH (ts j) o.dst (ps j) ∧
   (j∈rc→Gt P r o (Rs j) (dV (fK ops o) 0 (ts j)) S D∧∀ p S2 S3,Rs j p S2 S3→bV S2 S→bV S3 S)∧(j∉rc→Qt P r o (ps j) (dV (fK ops o) 0 (ts j)) S D)) ∧
   (∀ j∈rc,i≤j∧j<i+(n+1))∧RowsW K (acc++rc.map fun j=>((ops[j]?).bind (·.dst),Rs j)) (ts (i+(n+1))) S:=fun o p ho hg hq h=>by
   have ho':ops[i]?=some o:=by rw[fW] at ho;simpa using ho
   obtain⟨ps,ts,Rs,h1,h2,h3,h4⟩:=DrawR_ok hG (D:=D) h
   have hni:i∉rc:=fun hi=>by have:=(h3 i hi).1;omega
   exact⟨fun j=>if j=i then p else ps j,fun j=>if j=i then t else ts j,Rs,by simp,fun j hij hj=>by
    by_cases e:j=i
    ·subst e
     exact⟨o,ho',hg,by simp[h1],fun hin=>absurd hin hni,fun _=>by simp only[if_true];exact QtK_ok hG hq⟩
    ·obtain⟨o',g1,g2,g3,g4,g5⟩:=h2 j (by omega) (by omega)
     exact⟨o',g1,g2,by simp only[if_neg e,if_neg (show ¬ j+1=i by omega)];exact g3,fun hin=>by simp only[if_neg e];exact g4 hin,fun hin=>by simp only[if_neg e];exact g5 hin⟩,
    fun j hj=>by have:=h3 j hj;omega,by
     have e:¬ i+(n+1)=i:=by omega
     simp only[if_neg e]
     rw[show i+(n+1)=i+1+n by omega];exact h4⟩
  cases ho:jJ ops.toList i with
  | none=>cases rc <;> simp[rZ,ho] at h
  | some o=>
   have ho':ops[i]?=some o:=by rw[fW] at ho;simpa using ho
   cases hg:o.guard with
   | some g=>cases rc <;> simp[rZ,ho,hg] at h
   | none=>
    cases rc with
    | nil=>
     simp only[rZ,ho,hg] at h
     obtain⟨p,hq,h⟩:=h
     rw[cD] at h
     exact kV o p ho hg hq h
    | cons j rc=>
     simp only[rZ,ho,hg] at h
     cases hb:Nat.beq i j with
     | false=>
      rw[hb] at h
      obtain⟨p,hq,h⟩:=h
      rw[cD] at h
      exact kV o p ho hg hq h
     | true=>
      rw[hb] at h
      have hij:=Nat.eq_of_beq_eq_true hb
      subst hij
      obtain⟨R,hq,hR,h⟩:=h
      rw[cD] at h
      obtain⟨ps,ts,Rs,h1,h2,h3,h4⟩:=DrawR_ok hG (D:=D) h
      have hni:i∉rc:=fun hi=>by have:=(h3 i hi).1;omega
      refine⟨fun j=>if j=i then .any else ps j,fun j=>if j=i then t else ts j,fun j=>if j=i then R else Rs j,by simp,fun j hij hj=>?_,fun j hj=>?_,?_⟩
      ·by_cases e:j=i
       ·subst e
        refine⟨o,ho',hg,by simp[h1],fun _=>?_,fun hin=>absurd (by simp) hin⟩
        simp only[if_true]
        exact⟨GtK_ok hG hq,hR⟩
       ·obtain⟨o',g1,g2,g3,g4,g5⟩:=h2 j (by omega) (by omega)
        refine⟨o',g1,g2,by simp only[if_neg e,if_neg (show ¬ j+1=i by omega)];exact g3,fun hin=>?_,fun hin=>?_⟩
        ·simp only[if_neg e]
         exact g4 (by simpa[e] using hin)
        ·simp only[if_neg e]
         exact g5 (fun h=>hin (by simp[h]))
      ·rcases List.mem_cons.1 hj with rfl | hj
       ·omega
       ·have:=h3 j hj;omega
      ·have e:¬ i+(n+1)=i:=by omega
       simp only[if_neg e]
       rw[show i+(n+1)=i+1+n by omega]
       have e2:(i::rc).map (fun j=>((ops[j]?).bind (·.dst),if j=i then R else Rs j))=(o.dst,R)::rc.map fun j=>((ops[j]?).bind (·.dst),Rs j):=by
        rw[List.map_cons]
        congr 1
        ·simp[ho']
        ·refine List.map_congr_left fun j hj=>?_
         rw[if_neg (by rintro rfl;exact hni hj)]
       rw[e2]
       simpa using h4
theorem RK_of {k:Nat} {ops:Array Oper} {Rs:Nat→PV→aD→aD→Prop} {K:List PV→aD→Prop} {t0:List PV}:∀ {rc:List Nat} {pv:Nat→PV} {S:aD},vL k ops rc=true→RowsW K (rc.map fun j=>((ops[j]?).bind (·.dst),Rs j)) (bI ops pv (fun _=>true) t0 k) S →
  RK Rs (fun pv S2=>K (bI ops pv (fun _=>true) t0 k) S2) rc pv S
 | [],pv,S,_,h=>h
 | i::l,pv,S,hr,h=>fun p S3 hp=>by
  simp only[List.map_cons,RowsW] at h
  have h1:=h p S3 hp
  rw[cD] at h1
  have hr0:=hr
  simp only[vL,Bool.and_eq_true] at hr
  refine RK_of hr.2 ?_
  obtain⟨hik,oi,u,e1,e2,e3⟩:=tL hr.1.1
  have key:bI ops (fun j=>if j=i then p else pv j) (fun _=>true) t0 k=jH (bI ops pv (fun _=>true) t0 k) ((ops[i]?).bind (·.dst)) p:=by
   have hd:(ops[i]?).bind (·.dst)=some u:=by rw[e1];exact e2
   rw[hd]
   refine fL (by rw[tQ,bG,bG]) fun v=>?_
   by_cases e:v=u
   ·subst e
    rw[oY (i:=i) rfl hd k hik]
    ·simp only[jH,fU,bG,true_and,if_true]
     split
     ·rfl
     ·rename_i hlt
      rw[iR _ _ hlt,iR _ _ (by rw[bG];exact hlt)]
    ·intro j hij hjk hdj
     obtain⟨oj,f1,_,f3⟩:=e3 j hjk (by omega)
     rw[f1] at hdj
     exact absurd hdj f3
   ·rw[oZ (by simpa using Ne.symm e)]
    refine oE k fun j hj hdj=>⟨rfl,fun _=>?_⟩
    rw[if_neg]
    rintro rfl
    rw[hd] at hdj
    cases hdj;exact e rfl
  rw[key]
  exact h1
theorem T_drawR (hG:jI P G) (hm:P.follows .mixedOrders=true) {id:Nat} {ops:Array Oper} {Q:bQ} {t:List PV} {S:aD} {D:List DA} (k:Nat) (rc:List Nat) (hk:rT k [] ops=true) (hrc:vL k ops rc=true)
  (h:rZ G P ops S (fun t S=>TL P r ops k Q t S D) [] rc k 0 t):T P r (.region id ops true) Q t S D:=by
 refine T_any hm ?_
 obtain⟨ps,ts,Rs,h1,h2,h3,h4⟩:=DrawR_ok (r:=r) (D:=D) hG h
 rw[Nat.zero_add,List.nil_append] at h4
 intro a w fr m hs'
 have ht:∀ i,i≤k→ts i=bI ops ps (fun _=>true) t i:=by
  intro i
  induction i with
  | zero=>intro _;exact h1
  | succ i ih=>
   intro hi
   obtain⟨o,ho,_,hts,_⟩:=h2 i (Nat.zero_le _) (by omega)
   rw[hts,ih (by omega),bI,if_pos rfl]
   simp[ho]
 rw[ht k (Nat.le_refl _)] at h4
 have hdone:∀ n,bI ops ps (fun j=>(Array.replicate ops.size false).getD j false) t n=t:=by
  intro n
  induction n with
  | zero=>rfl
  | succ n ih=>rw[bI,if_neg (by rw[dE];simp)];exact ih
 refine any_rows hk hrc (P:=P) (r:=r) (ps:=ps) (ts:=ts) (t:=t) (S:=S) (D:=D) (Rs:=fun i p S2 S3=>i∈rc∧Rs i p S2 S3) (K:=fun pv S2=>TL P r ops k Q (bI ops pv (fun _=>true) t k) S2 D) (fun i p S2 S3 hR hle=>?_) ht (fun i hi=>?_)
  (w0:=w) (fr0:=fr) (m0:=m) (R:=dF w fr m S Q) ?_ ops.size _ a w fr m rc ps S (by simp) (fun j oj _ hj=>by rw[dE] at hj;cases hj) (fun i _=>dE) (fun i _=>dE) (fun i h1 h2=>absurd h1 h2) (fun i h=>h) hrc (fun _ _=>rfl) (aB S) ?_ oI ?_ (.refl _ _ _ _)
 ·obtain⟨hin,hR⟩:=hR
  obtain⟨_,_,_,_,hg,_⟩:=h2 i (Nat.zero_le _) (by have:=(h3 i hin).2;omega)
  exact (hg hin).2 p S2 S3 hR hle
 ·obtain⟨o,ho,hgd,_,hg,hq⟩:=h2 i (Nat.zero_le _) (by omega)
  refine⟨o,ho,hgd,fun hin=>?_,hq⟩
  intro S2 hs2 a w fr m hs next hn
  exact (hg hin).1 S2 hs2 a w fr m hs next fun p S3 v w' fr' m' hR=>hn p S3 v w' fr' m' ⟨hin,hR⟩
 ·intro pv S2 a' w' fr' m' hK hs2 hst2
  exact gO (fun _ _ _ h=>dF.trans hst2 h) (hK a' w' fr' m' hs2)
 ·have key:∀ (l:List Nat) (pv:Nat→PV) (S2:aD),RK Rs (fun pv S2=>TL P r ops k Q (bI ops pv (fun _=>true) t k) S2 D) l pv S2→RK (fun i p S2 S3=>i∈rc∧Rs i p S2 S3) (fun pv S2=>TL P r ops k Q (bI ops pv (fun _=>true) t k) S2 D) l pv S2:=by
   intro l
   induction l with
   | nil=>intro pv S2 h;exact h
   | cons i l ih=>intro pv S2 h p S3 hR;exact ih _ _ (h p S3 hR.2)
  exact key rc ps S (RK_of hrc h4)
 ·rw[hdone k];exact hs'
end
section
variable {P:Program} {G:List TI} {r:Option Nat}
def readyO (ops:Array Oper) (done:List Nat) (i:Nat):Bool:=!done.elem i && match jJ ops.toList i with
 | some o=>o.after.toList.all fun e=>!Region.binds .any e || done.elem e.on
 | none=>false
def yQ (ops:Array Oper) (done:List Nat):List Nat:=(List.range ops.size).filter (readyO ops done)
theorem rH {ops:Array Oper} {done:List Nat} {listed:Array Bool} (hs:listed.size=ops.size) (hl:∀ i,listed.getD i false=done.elem i) (i:Nat):i∈Region.ready .any ops listed↔i∈yQ ops done:=by
 unfold yQ
 rw[List.mem_filter,List.mem_range,mem_ready]
 unfold readyO
 constructor
 ·rintro⟨h1,o,ho,h2⟩
  have hi:i<ops.size:=(Array.getElem?_eq_some_iff.1 ho).1
  have h3:listed.getD i false=false:=(cY (by omega) _ _).trans h1
  rw[hl i] at h3
  have ho':jJ ops.toList i=some o:=by rw[fW];simpa using ho
  refine⟨hi,?_⟩
  rw[h3,ho']
  simp only[Bool.not_false,Bool.true_and,List.all_eq_true,Bool.or_eq_true,Bool.not_eq_true']
  intro e he
  by_cases hb:Region.binds .any e=true
  ·right;rw[← hl];exact h2 e (Array.mem_toList_iff.1 he) hb
  ·left;simpa using hb
 ·rintro⟨hi,h⟩
  simp only[Bool.and_eq_true,Bool.not_eq_true'] at h
  obtain⟨h1,h2⟩:=h
  cases ho:jJ ops.toList i with
  | none=>rw[ho] at h2;cases h2
  | some o=>
   rw[ho] at h2
   have ho':ops[i]?=some o:=by rw[fW] at ho;simpa using ho
   refine⟨?_,o,ho',fun e he hb=>?_⟩
   ·rw[← hl] at h1
    exact (cY (by omega) _ _).trans h1
   ·have:=List.all_eq_true.1 h2 e (Array.mem_toList_iff.2 he)
    rw[hb] at this
    rw[hl]
    simpa using this
def AllW:List Nat→(Nat→Prop)→Prop
 | [],_=>True
 | [i],f=>f i
 | i::j::l,f=>f i∧AllW (j::l) f
theorem AllW_mem {f:Nat→Prop}:∀ {l:List Nat},AllW l f→∀ i∈l,f i
 | [],_,i,h=>by simp at h
 | [j],h,i,hi=>by rw[List.mem_singleton] at hi;subst hi;exact h
 | j::k::l,h,i,hi=>by
  rcases List.mem_cons.1 hi with rfl | hi
  ·exact h.1
  ·exact AllW_mem h.2 i hi
def AnyW (G:List TI) (P:Program) (r:Option Nat) (ops:Array Oper) (Q:bQ):Nat→List Nat→List PV→aD→List DA→Prop
 | 0,done,t,S,D=>match yQ ops done with
  | []=>Q .normal t S D
  | _::_=>False
 | f+1,done,t,S,D=>match yQ ops done with
  | []=>Q .normal t S D
  | i::l=>AllW (i::l) fun j=>match jJ ops.toList j with
   | some o=>(match o.guard with
    | none=>(match kV o.op with
     | true=>nG G o.op t S fun p=>gX t o.dst p fun t'=>AnyW G P r ops Q f (j::done) t' S D
     | false=>sA G P r o (fun t' S' D'=>AnyW G P r ops Q f (j::done) t' S' D') Q t S D)
    | some _=>False)
   | none=>False
theorem wP {ops:Array Oper}:∀ (fuel:Nat) (listed:Array Bool) (a:Act) (w':World) {Q Q':Exit→Act→World→Prop},(∀ e a w,Q e a w→Q' e a w)→wpAnyIn (FR r) 0 P .any ops Q fuel listed a w'→wpAnyIn (FR r) 0 P .any ops Q' fuel listed a w':=by
 intro fuel
 induction fuel with
 | zero=>exact fun _ _ _ _ _ hq h=>⟨h.1,hq _ _ _ h.2⟩
 | succ fuel ih=>
  intro listed a w' Q Q' hq h
  refine⟨fun h0=>hq _ _ _ (h.1 h0),fun i hi=>?_⟩
  have h2:=h.2 i hi
  unfold wpOpIn at h2 ⊢
  split
  ·rename_i e;rw[e] at h2;exact ih _ _ _ hq h2
  ·rename_i o e
   rw[e] at h2
   dsimp only at h2
   split
   ·rename_i hw
    rw[if_pos hw] at h2
    exact⟨h2.1,fP h2.2 (fun _ _ h=>ih _ _ _ hq h) hq⟩
   ·rename_i hw
    rw[if_neg hw] at h2
    exact⟨h2.1,ih _ _ _ hq h2.2⟩
theorem AnyW_ok (hG:jI P G) {ops:Array Oper} {Q:bQ}:∀ {fuel:Nat} {done:List Nat} {t:List PV} {S:aD} {D:List DA} {listed:Array Bool},AnyW G P r ops Q fuel done t S D→listed.size=ops.size→(∀ i,listed.getD i false=done.elem i)→TA P r ops fuel listed Q t S D:=by
 intro fuel
 induction fuel with
 | zero=>
  intro done t S D listed h hs hl a w fr m hst
  simp only[AnyW] at h
  cases e:yQ ops done with
  | nil=>
   rw[e] at h
   refine wpAnyIn_done (List.eq_nil_iff_forall_not_mem.2 fun i hi=>?_) ?_ _
   ·have:=(rH hs hl i).1 hi
    rw[e] at this;simp at this
   ·exact⟨.normal,t,S,D,fr,m,h,trivial,hst,.refl _ _ _ _⟩
  | cons i l=>rw[e] at h;exact h.elim
 | succ f ih=>
  intro done t S D listed h hs hl a w fr m hst
  simp only[AnyW] at h
  cases e:yQ ops done with
  | nil=>
   rw[e] at h
   refine wpAnyIn_done (List.eq_nil_iff_forall_not_mem.2 fun i hi=>?_) ?_ _
   ·have:=(rH hs hl i).1 hi
    rw[e] at this;simp at this
   ·exact⟨.normal,t,S,D,fr,m,h,trivial,hst,.refl _ _ _ _⟩
  | cons i0 l=>
   rw[e] at h
   refine wpAnyIn_all rfl (fun h0=>?_) fun i hi=>?_
   ·have:=(rH hs hl i0).2 (by rw[e];simp)
    rw[h0] at this;simp at this
   ·have hi2:=(rH hs hl i).1 hi
    rw[e] at hi2
    have h3:=AllW_mem h i hi2
    obtain⟨_,o,ho,_⟩:=mem_ready.1 hi
    have hil:i<ops.size:=(Array.getElem?_eq_some_iff.1 ho).1
    have ho':jJ ops.toList i=some o:=by rw[fW];simpa using ho
    rw[ho'] at h3
    dsimp only at h3
    cases hgd:o.guard with
    | some g=>rw[hgd] at h3;exact h3.elim
    | none=>
     rw[hgd] at h3
     unfold wpOpIn
     rw[ho]
     dsimp only
     simp only[Region.wanted,hgd,if_true]
     have hl':∀ j,(listed.setIfInBounds i true).getD j false=(i::done).elem j:=fun j=>by
      by_cases ej:i=j
      ·subst ej;rw[bD (by omega)];simp
      ·rw[getD_set_ne false ej,hl j];simp[Ne.symm ej]
     dsimp only at h3
     cases hq:kV o.op with
     | true=>
      rw[hq] at h3
      obtain⟨v,p,h4,h5,h6⟩:=xO (w:=w) (fr:=fr) (m:=m) hG hst h3
      rw[cD] at h6
      refine⟨fun _ _=>trivial,?_⟩
      rw[rN hq,h4]
      exact ih (listed:=listed.setIfInBounds i true) h6 (by simpa using hs) hl' _ _ fr m (hst.put o.dst h5)
     | false=>
     rw[hq] at h3
     refine⟨fun _ _=>trivial,(opW_ok hG h3) a w fr m hst _ _ ?_ (fun e a w hp=>hp)⟩
     rintro t1 S1 D1 a1 w1 fr1 m1 hx hs1 hst1
     have h6:=ih (listed:=listed.setIfInBounds i true) hx (by simpa using hs) hl' a1 w1 fr1 m1 hs1
     exact wP _ _ _ _ (fun _ _ _ h=>dF.trans hst1 h) h6
theorem T_drawN (hG:jI P G) (hm:P.follows .mixedOrders=true) {id:Nat} {ops:Array Oper} {Q:bQ} {t:List PV} {S:aD} {D:List DA} (h:AnyW G P r ops Q ops.size [] t S D):T P r (.region id ops true) Q t S D:=
 T_any hm (AnyW_ok hG h (by simp) fun i=>by rw[dE];rfl)
end
section
variable {P:Program} {G:List TI} {r:Option Nat}
theorem T_drawS (hG:jI P G) (hm:P.follows .mixedOrders=true) {id:Nat} {ops:Array Oper} {Q:bQ} {t:List PV} {S:aD} {D:List DA} (k:Nat) (hk:rT k [] ops=true) (h:DrawA G P ops S (fun t=>TL P r ops k Q t S D) k 0 t):T P r (.region id ops true) Q t S D:=by
 obtain⟨ps,ts,h1,h2,h3⟩:=DrawA_ok (r:=r) (D:=D) hG h
 rw[Nat.zero_add] at h3
 exact T_any hm (TA_draw hk (by simp) (fun j oj _ hj=>by rw[dE] at hj;cases hj) (fun i=>by rw[dE];rfl) oI h1 (fun i hi _=>h2 i (Nat.zero_le _) (by omega)) (fun i hi hf=>by simp at hf) h3)
def edgeB (ops:Array Oper) (j k:Nat):Bool:=match jJ ops.toList j with
 | some o=>o.after.toList.any fun e=>Region.binds .any e && Nat.beq e.on k
 | none=>false
def edgesOk (ops:Array Oper):Bool:=(List.range ops.size).all fun j=>oH ops j
def addD (d:Nat→Bool) (i:Nat):Nat→Bool:=fun j=>Nat.beq j i || d j
def vC (b:Bool) (p:PV):PV:=match b with
 | true=>p
 | false=>.any
def OpI (G:List TI) (P:Program) (r:Option Nat) (ops:Array Oper) (i:Nat) (K:List PV→aD→List DA→Prop) (Q:bQ) (t:List PV) (S:aD) (D:List DA):Prop:=match jJ ops.toList i with
 | some o=>(match o.guard with
  | none=>(match kV o.op with
   | true=>nG G o.op t S fun p=>gX t o.dst p fun t'=>K t' S D
   | false=>sA G P r o K Q t S D)
  | some _=>False)
 | none=>False
theorem ready_least {ops:Array Oper} {listed:Array Bool} (hs:listed.size=ops.size) (he:edgesOk ops=true):∀ i,i<ops.size→listed.getD i false=false→∃ j,j∈Region.ready .any ops listed:=by
 intro i
 induction i using Nat.strongRecOn with
 | _ i ih=>
  intro hi hu
  by_cases hex:∃ j,j<i∧listed.getD j false=false
  ·obtain⟨j,h1,h2⟩:=hex
   exact ih j h1 (by omega) h2
  ·refine⟨i,mem_ready.2 ⟨(cY (by omega) _ _).trans hu,ops[i],Array.getElem?_eq_getElem hi,fun e hm hb=>?_⟩⟩
   have h1:=List.all_eq_true.1 he i (List.mem_range.2 hi)
   unfold oH at h1
   rw[Array.getElem?_eq_getElem hi] at h1
   have h2:=List.all_eq_true.1 h1 e (Array.mem_toList_iff.2 hm)
   unfold xR at h2
   rw[hb] at h2
   have h3:e.on<i:=by simpa using h2
   cases e4:listed.getD e.on false with
   | true=>rfl
   | false=>exact absurd ⟨e.on,h3,e4⟩ hex
theorem T_drawI (hG:jI P G) (hm:P.follows .mixedOrders=true) {id:Nat} {ops:Array Oper} {Q:bQ} {t:List PV} {S:aD} {D:List DA} {X:Type} (he:edgesOk ops=true)
  (tm:(Nat→Bool)→X→List PV) (st:(Nat→Bool)→X→aD) (ok:(Nat→Bool)→X→Prop) (x0:X) (hok:ok (fun _=>false) x0) (ht:yH t (tm (fun _=>false) x0)) (hS:bV S (st (fun _=>false) x0))
  (hstep:∀ d x,ok d x→(∀ j k,edgeB ops j k=true→d j=true→d k=true)→∀ i,i<ops.size→d i=false→(∀ k,edgeB ops i k=true→d k=true) →
   OpI G P r ops i (fun t' S' D'=>D'=D∧∃ x',ok (addD d i) x'∧yH t' (tm (addD d i) x')∧bV S' (st (addD d i) x')) Q (tm d x) (st d x) D)
  (hend:∀ d x,ok d x→(∀ i,i<ops.size→d i=true)→Q .normal (tm d x) (st d x) D):T P r (.region id ops true) Q t S D:=by
 refine T_any hm ?_
 have main:∀ (fuel:Nat) (listed:Array Bool) (x:X),listed.size=ops.size→gZ ops listed→fI ops.size listed≤fuel→ok (fun j=>listed.getD j false) x →
   TA P r ops fuel listed Q (tm (fun j=>listed.getD j false) x) (st (fun j=>listed.getD j false) x) D:=by
  intro fuel
  induction fuel with
  | zero=>
   intro listed x hs hc hu hx a w fr m hst
   have hall:∀ i,i<ops.size→listed.getD i false=true:=fun i hi=>by
    by_cases e:listed.getD i false=true
    ·exact e
    ·have:=oO (n:=ops.size) (i:=i) (listed:=listed) (by omega) (by rw[cY (by omega) true false];simpa using e)
     omega
   refine wpAnyIn_done (List.eq_nil_iff_forall_not_mem.2 fun i hi=>?_) ⟨.normal,_,_,D,fr,m,hend _ x hx hall,trivial,hst,.refl _ _ _ _⟩ _
   obtain⟨h1,o,ho,_⟩:=mem_ready.1 hi
   have hi':i<ops.size:=(Array.getElem?_eq_some_iff.1 ho).1
   have h2:=(cY (show i<listed.size by omega) true false).trans (hall i hi')
   rw[h1] at h2;cases h2
  | succ fuel ih=>
   intro listed x hs hc hu hx a w fr m hst
   by_cases hall:∀ i,i<ops.size→listed.getD i false=true
   ·refine wpAnyIn_done (List.eq_nil_iff_forall_not_mem.2 fun i hi=>?_) ⟨.normal,_,_,D,fr,m,hend _ x hx hall,trivial,hst,.refl _ _ _ _⟩ _
    obtain⟨h1,o,ho,_⟩:=mem_ready.1 hi
    have hi':i<ops.size:=(Array.getElem?_eq_some_iff.1 ho).1
    have h2:=(cY (show i<listed.size by omega) true false).trans (hall i hi')
    rw[h1] at h2;cases h2
   obtain⟨i0,hall'⟩:=Classical.not_forall.1 hall
   obtain⟨hi0,hu0⟩:=Classical.not_imp.1 hall'
   obtain⟨j',hj'⟩:=ready_least hs he i0 hi0 (by simpa using hu0)
   refine⟨fun h0=>absurd hj' (by rw[h0];simp),fun i hi=>?_⟩
   obtain⟨h1,o,ho,hafter⟩:=mem_ready.1 hi
   have hil:i<ops.size:=(Array.getElem?_eq_some_iff.1 ho).1
   have hc':=hc.set hi
   have hui:listed.getD i false=false:=(cY (by omega) _ _).trans h1
   have hundo:fI ops.size (listed.setIfInBounds i true)≤fuel:=by
    have:=mN hs hil h1;omega
   have hd:(fun j=>(listed.setIfInBounds i true).getD j false)=addD (fun j=>listed.getD j false) i:=by
    funext j
    unfold addD
    by_cases e:i=j
    ·subst e;rw[bD (by omega)];simp
    ·rw[getD_set_ne false e]
     have:Nat.beq j i=false:=by
      cases e2:Nat.beq j i with
      | false=>rfl
      | true=>exact absurd (Nat.eq_of_beq_eq_true e2).symm e
     rw[this];rfl
   have hO:=hstep (fun j=>listed.getD j false) x hx (fun j k hjk hj=>by
    unfold edgeB at hjk
    cases ho2:jJ ops.toList j with
    | none=>rw[ho2] at hjk;cases hjk
    | some oj=>
     rw[ho2] at hjk
     obtain⟨e,h2,h3⟩:=List.any_eq_true.1 hjk
     simp only[Bool.and_eq_true] at h3
     have hoj:ops[j]?=some oj:=by rw[fW] at ho2;simpa using ho2
     have:=hc j oj hoj hj e (Array.mem_toList_iff.1 h2) h3.1
     rw[Nat.eq_of_beq_eq_true h3.2] at this
     exact this) i hil hui (fun k hk=>by
    unfold edgeB at hk
    have ho2:jJ ops.toList i=some o:=by rw[fW];simpa using ho
    rw[ho2] at hk
    obtain⟨e,h2,h3⟩:=List.any_eq_true.1 hk
    simp only[Bool.and_eq_true] at h3
    have h4:=hafter e (Array.mem_toList_iff.1 h2) h3.1
    rw[Nat.eq_of_beq_eq_true h3.2] at h4
    exact h4)
   unfold OpI at hO
   have ho2:jJ ops.toList i=some o:=by rw[fW];simpa using ho
   rw[ho2] at hO
   dsimp only at hO
   cases hgd:o.guard with
   | some g=>rw[hgd] at hO;exact hO.elim
   | none=>
    rw[hgd] at hO
    unfold wpOpIn
    rw[ho]
    dsimp only
    simp only[Region.wanted,hgd,if_true]
    dsimp only at hO
    cases hq:kV o.op with
    | true=>
     rw[hq] at hO
     obtain⟨v,p,h4,h5,h6⟩:=xO (w:=w) (fr:=fr) (m:=m) hG hst hO
     rw[cD] at h6
     obtain⟨_,x',hx',ht',hs'⟩:=h6
     refine⟨fun _ _=>trivial,?_⟩
     rw[rN hq,h4]
     have h7:=ih (listed.setIfInBounds i true) x' (by simpa using hs) hc' hundo (by rw[hd];exact hx')
     rw[hd] at h7
     exact wP _ _ _ _ (fun _ _ _ h=>dF.trans (bZ.weak w fr m hs') h) (h7 _ _ fr m ((hst.put o.dst h5).weak ht' hs'))
    | false=>
     rw[hq] at hO
     refine⟨fun _ _=>trivial,(opW_ok hG hO) a w fr m hst _ _ ?_ (fun e a w hp=>hp)⟩
     rintro t1 S1 D1 a1 w1 fr1 m1 ⟨rfl,x',hx',ht',hs'⟩ hs1 hst1
     have h7:=ih (listed.setIfInBounds i true) x' (by simpa using hs) hc' hundo (by rw[hd];exact hx')
     rw[hd] at h7
     exact wP _ _ _ _ (fun _ _ _ h=>dF.trans (hst1.trans (bZ.weak w1 fr1 m1 hs')) h) (h7 a1 w1 fr1 m1 (hs1.weak ht' hs'))
 have hd0:(fun j=>(Array.replicate ops.size false).getD j false)=fun _=>false:=by funext j;exact dE
 have:=main ops.size (Array.replicate ops.size false) x0 (by simp) (fun j oj _ hj=>by rw[dE] at hj;cases hj) oI (by rw[hd0];exact hok)
 rw[hd0] at this
 intro a w fr m hst
 exact wP _ _ _ _ (fun _ _ _ h=>dF.trans (bZ.weak w fr m hS) h) (this a w fr m (hst.weak ht hS))
end
section
attribute [local irreducible] T TL
set_option maxRecDepth 10000
theorem rK:∀ {l:List PV} {i:Nat} (h:i<l.length),getT l i=l[i]
 | _::_,0,_=>rfl
 | _::l,i+1,h=>by simp only[getT,List.getElem_cons_succ];exact rK (by simpa using h)
theorem getT_past:∀ {l:List PV} {i:Nat},l.length≤i→getT l i=.any
 | [],_,_=>rfl
 | _::l,0,h=>by simp at h
 | _::l,i+1,h=>by simp only[getT];exact getT_past (by simpa using h)
theorem Fn_freeze {P:Program} {f:Nat} {args args':List PV} {S:aD} {g ver sz e:Nat} {xs:List (List PV)} {p:PV} (h:FnP P f args' p) (hg:S g=some (.row ver sz e xs)) (hl:args.length=args'.length)
  (hz:∀ i,FzV g ver sz e xs (getT args i) (getT args' i)):Fn P f args S fun o S'=>o=.ret p∧S'=E:=by
 refine⟨h.1,fun w fr m vs rel ha=>?_⟩
 have hst:kZ ({ tmps:=vs,defers:=[] }:Act) w fr m args S []:=⟨rel,ha.1,fun i=>by
  by_cases hi:i<args.length
  ·rw[rK hi]
   have:=ha.2 i (by rw[ha.1];exact hi) hi
   simpa[Array.getD,ha.1,hi] using this
  ·rw[getT_past (by omega)];exact .any _,by simp[DsR]⟩
 obtain⟨fr',m',h1,h2⟩:=sM hg hl hz _ w fr m [] hst
 have h1':=h1.weak (aZ _) (aM _)
 have h2':=h2.trans (bZ.weak w fr' m' (aM (iZ S g)))
 refine (h.2 w fr' m' vs h1'.rel ⟨h1'.len,fun i i1 i2=>?_⟩).mono ?_
 ·have:=h1'.tmp i
  rw[rK i2] at this
  simpa[Array.getD,i1] using this
 ·rintro e w' ⟨o,S',fr'',m'',hr,ho,r',st⟩
  exact⟨o,S',fr'',m'',hr,ho,r',by obtain⟨_,rfl⟩:=hr;exact h2'.trans st⟩
theorem callW_freeze {P:Program} {f:Nat} {args args':List PV} {S:aD} {g ver sz e:Nat} {xs:List (List PV)} {p:PV} {kr kp:PV→aD→Prop} (h:FnP P f args' p) (hg:S g=some (.row ver sz e xs)) (hl:args.length=args'.length)
  (hz:∀ i,FzV g ver sz e xs (getT args i) (getT args' i)) (hk:kr p (iZ S g)):kJ P f args S kr kp:=by
 unfold kJ
 refine⟨aK E g (.row ver sz e xs),_,Fn_freeze h (aA _ _ _) hl hz,fun k x hx=>?_,?_⟩
 ·by_cases hkg:k=g
  ·subst hkg;rw[aA] at hx;rw[hg,hx]
  ·rw[aC hkg] at hx;cases hx
 ·rintro o S' ⟨rfl,rfl⟩ _
  have hm:jD S (aK E g (.row ver sz e xs)) E=iZ S g:=by
   funext k
   by_cases hkg:k=g
   ·subst hkg;simp[jD,iZ,E,aA]
   ·have:aK E g (AO.row ver sz e xs) k=none:=by rw[aC hkg];rfl
    simp[jD,iZ,E,hkg,this]
  simpa[hm] using hk
def remD (d:Nat→Bool) (i:Nat):Nat→Bool:=fun j=>!Nat.beq j i && d j
theorem cA {d:Nat→Bool} {i:Nat} (h:d i=true):∃ d',d=addD d' i:=⟨d,by
 funext j
 unfold addD
 cases e:Nat.beq j i with
 | false=>rfl
 | true=>rw[Nat.eq_of_beq_eq_true e,h];rfl⟩
theorem fY {d:Nat→Bool} {i:Nat} (h:d i=false):∃ d',d=remD d' i:=⟨d,by
 funext j
 unfold remD
 cases e:Nat.beq j i with
 | false=>rfl
 | true=>rw[Nat.eq_of_beq_eq_true e,h];rfl⟩
theorem kK {ops:Array Oper} {d:Nat→Bool} (cl:∀ j k,edgeB ops j k=true→d j=true→d k=true) {j k:Nat} (he:edgeB ops j k=true) (h:d k=false):d j=false:=by
 cases e:d j with
 | false=>rfl
 | true=>rw[cl j k he e] at h;cases h
end
def lpsC:Code→List Code
 | .seq a b=>lpsC a++lpsC b
 | .block _ c=>lpsC c
 | .loop c=>c::lpsC c
 | .scope c=>lpsC c
 | .cond _ a b=>lpsC a++lpsC b
 | _=>[]
noncomputable def nthL (f:Func) (n:Nat):Code:=match f.body with
 | some c=>(lpsC c).getD n .skip
 | none=>.skip
def rgC (n:Nat):Code→Option Code
 | .seq a b=>(rgC n a).orElse fun _=>rgC n b
 | .block _ c=>rgC n c
 | .loop c=>rgC n c
 | .scope c=>rgC n c
 | .cond _ a b=>(rgC n a).orElse fun _=>rgC n b
 | .region m o d=>if m=n then some (.region m o d) else none
 | _=>none
noncomputable def rgn (f:Func) (n:Nat):Code:=match f.body with
 | some c=>(rgC n c).getD .skip
 | none=>.skip
end Go.Proofs.YtbojdflgjpjbiaaGreat.L
