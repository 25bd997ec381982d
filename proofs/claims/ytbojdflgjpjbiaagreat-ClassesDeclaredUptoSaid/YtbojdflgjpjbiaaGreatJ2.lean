/- A logic over the machine, and what the functions of the seat come to: part 2. No claim stands here; the theorems are used by the row. -/
import Derived.Test.YtbojdflgjpjbiaaGreatJ1
set_option linter.unusedSimpArgs false
set_option linter.unnecessarySimpa false
set_option linter.unusedVariables false
namespace Go.Proofs.YtbojdflgjpjbiaaGreat.L
open Go
section
variable {P:Program} {G:List TI} {r:Option Nat} {w:World} {fr:Nat→Prop} {m:aQ} {S:aD}
theorem aN (S:aD) (g:Nat) (a b:AO):aK (aK S g a) g b=aK S g b:=by funext h;simp only[aK];split <;> rfl
theorem nil_name (rel:RelS w fr m S) (sz e:Nat):∃ g,S g=none∧RelS w fr (eY m g (0,none)) (aK S g (.row 0 sz e []))∧bZ w fr m S w fr (eY m g (0,none)) (aK S g (.row 0 sz e [])) ∧
  Rep w fr (eY m g (0,none)) (.slice none 0 0) (.row g 0 0 0 sz):=by
 obtain⟨g,hm,hS⟩:=pD rel
 obtain⟨h1,h2⟩:=nU (x':=.row 0 sz e []) (ob':=none) (w':=w) (g:=g) rel (Nat.le_refl _) (fun _ _ _=>rfl) (fun _ _ h=>h) (fun v ob e=>by rw[hm] at e;cases e) (fun b e=>by cases e) ⟨_,_,_,rfl⟩
 exact⟨g,hS,h1,h2,.row _ _ _ _ _ _ ⟨0,none,cU _ _ _,Nat.le_refl _,fun _=>⟨rfl,rfl,rfl⟩⟩⟩
theorem callW_ok {o:Oper} {K:KT} {Q:bQ} {t:List PV} {D:List DA} {f:Nat} {args:List PV} (hd:∀ c,o.op≠.defer c)
  (h:kJ P f args S (fun p S'=>gX t o.dst p fun t'=>K t' S' D) fun p S'=>Q (.panic p) t S' D) {a:Act} (hs:kZ a w fr m t S D) {vs:Array Value} (hv:gD w fr m vs args)
  (hrun:xY P f→(execOp a.eval o).run P w=.ok (.enter f vs) w) {next:Act→World→Prop} {R:Exit→Act→World→Prop}
  (hn:∀ t' S' D' a' w' fr' m',K t' S' D'→kZ a' w' fr' m' t' S' D'→bZ w fr m S w' fr' m' S'→next a' w') (hR:∀ e a' w',dF w fr m S Q e a' w'→R e a' w') :
  o.uponIn (FR r) 0 P a next R ((o.semAt (FR r).round a.eval).run P w):=by
 unfold kJ at h
 obtain⟨S1,RR,⟨hc,hf⟩,hsub,h⟩:=h
 rw[fQ hd,hrun hc]
 refine⟨(fun h=>by cases h),callsIn_wide.2 ((hf w fr m vs (hs.rel.weak hsub) hv).mono ?_)⟩
 rintro e w' ⟨out,S',fr',m',h1,h2,h3,h4⟩
 obtain⟨g1,g2,g3⟩:=sZ hs.rel hsub h3 h4
 have h5:=h out S' h1 g3
 cases e with
 | returned v=>
  cases out with
  | ret p=>
   dsimp only at h5
   rw[cD] at h5
   exact hn _ _ _ _ _ _ _ h5 ((hs.step g2 g1).put o.dst h2) g2
  | pan p=>exact h2.elim
 | panicked ch=>
  cases out with
  | ret p=>exact (by unfold nQ at h2;split at h2 <;> simp_all)
  | pan p=>
   refine hR _ _ _ ⟨.panic p,t,jD S S1 S',D,fr',m',h5,?_,hs.step g2 g1,g2⟩
   unfold nQ at h2
   split at h2
   ·rename_i e1 e2;cases e1
   ·rename_i e1 e2;cases e1;cases e2;exact h2
   ·exact h2.elim
 | outgrown=>cases out <;> exact h2.elim
theorem yldW_ok {o:Oper} {K:KT} {Q:bQ} {t:List PV} {D:List DA} {g:Nat} {args:List PV} (hd:∀ c,o.op≠.defer c)
  (h:yldW P g args S (fun p S'=>gX t o.dst p fun t'=>K t' S' D) fun p S'=>Q (.panic p) t S' D) {a:Act} (hs:kZ a w fr m t S D) {vs:Array Value} (hv:gD w fr m vs args) {vy:Value} (hy:Rep w fr m vy (.yld g))
  (hrun:∀ l x,vy=.func (.yield l) #[] #[]→(Instr.yield l vs).run P w=.ok x w→(execOp a.eval o).run P w=.ok x w) {next:Act→World→Prop} {R:Exit→Act→World→Prop}
  (hn:∀ t' S' D' a' w' fr' m',K t' S' D'→kZ a' w' fr' m' t' S' D'→bZ w fr m S w' fr' m' S'→next a' w') (hR:∀ e a' w',dF w fr m S Q e a' w'→R e a' w') :
  o.uponIn (FR r) 0 P a next R ((o.semAt (FR r).round a.eval).run P w):=by
 unfold yldW at h
 obtain⟨S1,RR,⟨⟨st,pd,fn,tt,ps,asg,bd,d,hS1⟩,hf⟩,hsub,h⟩:=h
 obtain⟨ob,hm1,hob⟩:=hs.rel.obj g _ (hsub g _ hS1)
 have hm0:m g=some (0,ob):=hm1
 cases hy with
 | yld _ _ hat=>
  obtain⟨v',b',e1,e2,e3⟩:=hat
  rw[hm0] at e1
  cases e1
  obtain⟨l,rfl,rfl⟩:=e3 rfl
  obtain⟨f,tmps,as',bd',hrun1,hround⟩:=hf r w fr m vs l (hs.rel.weak hsub) hv hm0
  rw[fQ hd,hrun l _ rfl hrun1]
  refine⟨(fun h=>by cases h),hround.mono ?_⟩
  rintro e w' ⟨out,S',fr',m',h1,h2,h3,h4⟩
  obtain⟨g1,g2,g3⟩:=sZ hs.rel hsub h3 h4
  have h5:=h out S' h1 g3
  cases e with
  | returned v=>
   cases out with
   | ret p=>
    dsimp only at h5
    rw[cD] at h5
    exact hn _ _ _ _ _ _ _ h5 ((hs.step g2 g1).put o.dst h2) g2
   | pan p=>exact h2.elim
  | panicked ch=>
   cases out with
   | ret p=>exact (by unfold nQ at h2;split at h2 <;> simp_all)
   | pan p=>
    refine hR _ _ _ ⟨.panic p,t,jD S S1 S',D,fr',m',h5,?_,hs.step g2 g1,g2⟩
    unfold nQ at h2
    split at h2
    ·rename_i e1 e2;cases e1
    ·rename_i e1 e2;cases e1;cases e2;exact h2
    ·exact h2.elim
  | outgrown=>cases out <;> exact h2.elim
theorem call_run {ρ:Operand→Value} {o:Oper} {f:Operand} {args:Array Operand} {at':Array Nat} {n:Nat} {fa fc:Array Value} (ho:o.op=.call { callee:=.value f,args:=args,argTypes:=at' }) (hf:ρ f=.func (.func n) fa fc) (hc:xY P n) :
  (execOp ρ o).run P w=.ok (.enter n (fa++args.map ρ++fc)) w:=by
 obtain⟨fn,h1,h2,h3⟩:=hc
 have h2':¬ fn.name="runtime.NumGoroutine":=by simpa using h2
 have h3':¬ fn.body=none:=by intro e;rw[e] at h3;cases h3
 simp[execOp,ho,resolve,hf,Deferred.ofValue,invoke,callFunc,h1,h2',h3']
theorem sU {a b c:Array Value} {pa pb pc:List PV} (ha:gD w fr m a pa) (hb:gD w fr m b pb) (hc:gD w fr m c pc):gD w fr m (a++b++c) (pa++pb++pc):=by
 have two:∀ {x y:Array Value} {px py:List PV},gD w fr m x px→gD w fr m y py→gD w fr m (x++y) (px++py):=by
  intro x y px py hx hy
  refine⟨by simp[hx.1,hy.1],fun i h1 h2=>?_⟩
  have:=hx.1
  by_cases h:i<x.size
  ·rw[Array.getElem_append_left h,List.getElem_append_left (by omega)]
   exact hx.2 i h (by omega)
  ·rw[Array.getElem_append_right (by omega),List.getElem_append_right (by omega)]
   have h3:=hy.2 (i - x.size) (by simp at h1;omega) (by simp at h2;omega)
   have e:i - px.length=i - x.size:=by omega
   simpa[e] using h3
 exact two (two ha hb) hc
theorem opW_store (hG:jI P G) {o:Oper} {K:KT} {Q:bQ} {t:List PV} {D:List DA} {ty:Nat} {x v:Operand} (ho:o.op=.store ty x v) (h:sA G P r o K Q t S D):TOp P r o K Q t S D:=by
 refine kX (by rw[ho];simp) fun a w fr m hs=>?_
 simp only[sA,ho] at h
 obtain⟨hz,h⟩:=h
 obtain⟨p,hp,h⟩:=bP hs h
 obtain⟨q,hq,h⟩:=bP hs h
 split at h
 ·obtain⟨c,hc,hl,hsol,h⟩:=xZ hs.rel hq h
  obtain⟨w',m',S',h1,h2,h3,h4⟩:=st_ok hG hs.rel hp hz hc hl hsol h
  rw[cD] at h4
  exact⟨undef,w',m',S',.any,.inr ⟨by simp[execOp,ho,h1],rfl⟩,.any _,h2,h3,h4⟩
 ·exact h.elim
theorem opW_alloc (hG:jI P G) {o:Oper} {K:KT} {Q:bQ} {t:List PV} {D:List DA} {ty:Nat} (ho:o.op=.alloc ty) (h:sA G P r o K Q t S D):TOp P r o K Q t S D:=by
  refine kX (by rw[ho];simp) fun a w fr m hs=>?_
  simp only[sA,ho] at h
  obtain⟨hz,h⟩:=h
  obtain⟨z,hz1,hz2,hz3,hz4⟩:=uV hG hz w
  obtain⟨g,h1,h2,h3⟩:=yX hs.rel h (.cells z.cells ty) (wO hs.rel (by simp) (fun i hi=>by
     have:i=0:=by simp at hi;omega
     subst this;exact hz3) (by simp[hz2]) (fun i j hi hj=>by
    have:i=0:=by simp at hi;omega
    subst this
    simp only[List.getElem_cons_zero] at hj ⊢
    obtain⟨v,h5,h6⟩:=(hz4 fr m).get hj
    exact⟨v,by simpa using h5,h6⟩) 0 _ (fun m' hm=>oK hs.rel _ hm))
  rw[cD] at h1
  refine⟨.pointer (some ⟨w.heap.size,0,none⟩),_,_,_,_,.inl ?_,?_,h2,h3,h1⟩
  · simp[execOp,ho,Instr.alloc,hz1,newVar,newRow]
  · have:=sW (w':={ w with heap:=w.heap.push (.cells z.cells ty) }) (fr:=fr) (m:=m) g w.heap.size 0 0 (aH G ty).size 0
    have h9:Rep { w with heap:=w.heap.push (.cells z.cells ty) } fr (eY m g (0,some w.heap.size)) (.pointer (some ⟨w.heap.size,0,none⟩)) (.ptr g 0 0 0 (aH G ty).size):=by simpa using this
    exact h9
theorem opW_box {o:Oper} {K:KT} {Q:bQ} {t:List PV} {D:List DA} {ty:Nat} {x:Operand} (ho:o.op=.box ty x) (h:sA G P r o K Q t S D):TOp P r o K Q t S D:=by
  refine kX (by rw[ho];simp) fun a w fr m hs=>?_
  simp only[sA,ho] at h
  obtain⟨p,hp,h⟩:=bP hs h
  obtain⟨c,hc,h⟩:=xZ hs.rel hp h
  obtain⟨g,h1,h2,h3⟩:=yX hs.rel h (.cells (a.eval x).cells ty) (wO hs.rel (by simp) (fun i hi=>by
     have:i=0:=by simp at hi;omega
     subst this;rfl) (by simp[hc.1]) (fun i j hi hj=>by
    have:i=0:=by simp at hi;omega
    subst this
    simp only[List.getElem_cons_zero] at hj ⊢
    obtain⟨v,h5,h6⟩:=hc.get hj
    exact⟨v,by simpa using h5,h6⟩) 0 _ (fun m' hm=>oK hs.rel _ hm))
  rw[cD] at h1
  refine⟨.pointer (some ⟨w.heap.size,0,none⟩),_,_,_,_,.inl ?_,?_,h2,h3,h1⟩
  · simp[execOp,ho,Instr.box,newVar,newRow]
  · have:=sW (w':={ w with heap:=w.heap.push (.cells (a.eval x).cells ty) }) (fr:=fr) (m:=m) g w.heap.size 0 0 c.length 0
    have h9:Rep { w with heap:=w.heap.push (.cells (a.eval x).cells ty) } fr (eY m g (0,some w.heap.size)) (.pointer (some ⟨w.heap.size,0,none⟩)) (.ptr g 0 0 0 c.length):=by simpa using this
    exact h9
theorem opW_makeMap (hG:jI P G) {o:Oper} {K:KT} {Q:bQ} {t:List PV} {D:List DA} {ty:Nat} (ho:o.op=.makeMap ty none) (h:sA G P r o K Q t S D):TOp P r o K Q t S D:=by
 refine kX (by rw[ho];simp) fun a w fr m hs=>?_
 simp only[sA,ho] at h
 split at h
 ·split at h
  ·rename_i b hb
   obtain⟨g,h1,h2,h3⟩:=yX hs.rel h (.map #[] 0) (fun m' hm=>⟨#[],0,[],rfl,rfl,by simp,fun k=>by simp[OptR]⟩)
   rw[cD] at h1
   refine⟨.map (some w.heap.size),_,_,_,_,.inl ?_,.map _ _ ⟨0,some w.heap.size,cU _ _ _,Nat.le_refl _,fun _=>⟨_,rfl,rfl⟩⟩,h2,h3,h1⟩
   simp[execOp,ho,Instr.makeMap]
  ·exact h.elim
 ·exact h.elim
theorem opW_mapUpd (hG:jI P G) {o:Oper} {K:KT} {Q:bQ} {t:List PV} {D:List DA} {ty:Nat} {mp k v:Operand} (ho:o.op=.mapUpdate ty mp k v∨o.op=.insert ty mp k v) (h:sA G P r o K Q t S D):TOp P r o K Q t S D:=by
 refine kX (by rcases ho with ho | ho <;> rw[ho] <;> simp) fun a w fr m hs=>?_
 have h':match (aH G ty).kind with
  | .map kt _=>iP t mp fun a=>iP t k fun b=>iP t v fun c=>keyW b fun key=>zO G kt key∧match a with
   | .map g=>mapW S g key.isS fun f=>gX t o.dst .any fun t'=>K t' (aK S g (.map key.isS (fD f key c))) D
   | _=>False
  | _=>False:=by
  rcases ho with ho | ho <;> (simp only[sA,ho] at h;exact h)
 split at h'
 ·rename_i kt et hk
  obtain⟨p,hp,h'⟩:=bP hs h'
  obtain⟨q,hq,h'⟩:=bP hs h'
  obtain⟨c,hc,h'⟩:=bP hs h'
  obtain⟨key,he,ht,h'⟩:=key_ok hq h'
  split at h'
  ·obtain⟨w',m',f,h1,h2,h3,h4⟩:=mapUpd_ok (P:=P) hG hs.rel hk hp ht hc h'
   rw[cD] at h4
   refine⟨undef,w',m',_,.any,.inr ⟨?_,rfl⟩,.any _,h2,h3,h4⟩
   rcases ho with ho | ho <;> simp[execOp,ho,he,h1]
  ·exact h'.elim
 ·exact h'.elim
theorem bsW_ok (rel:RelS w fr m S) {size:Nat} {ρ:Operand→Value} {k:List (List PV)→Prop}:∀ (parts:List (Nat × Operand)) (vs:List PV) (a:Array Value) (xs:List (List PV)),vs.length=parts.length →
  (∀ (i:Nat) (h1:i<parts.length) (h2:i<vs.length),Rep w fr m (ρ parts[i].2) vs[i])→xs.length*size=a.size→(∀ (i:Nat) (h:i<xs.length),xs[i].length=size) →
  (∀ (i j:Nat) (hi:i<xs.length) (hj:j<xs[i].length),∃ v,a[i*size+j]?=some v∧Rep w fr m v xs[i][j])→bsW S size (zipL parts vs) xs k →
  ∃ (a':Array Value) (xs':List (List PV)),Instr.fill (fun i=>some (i*size,size)) a (parts.map fun x=>(x.1,ρ x.2))=some a'∧a'.size=a.size∧xs'.length=xs.length∧(∀ (i:Nat) (h:i<xs'.length),xs'[i].length=size) ∧
   (∀ (i j:Nat) (hi:i<xs'.length) (hj:j<xs'[i].length),∃ v:Value,a'[i*size+j]?=some v∧Rep w fr m v (xs'[i][j]))∧k xs'
 | [],[],a,xs,_,_,_,h1,h2,hk=>⟨a,xs,rfl,rfl,rfl,h1,h2,hk⟩
 | (n,x)::parts,v::vs,a,xs,hl,hr,hsz,h1,h2,hk=>by
  have hv:=hr 0 (by simp) (by simp)
  simp only[List.getElem_cons_zero] at hv
  have hr':∀ (i:Nat) (h1:i<parts.length) (h2:i<vs.length),Rep w fr m (ρ parts[i].2) vs[i]:=fun i h1 h2=>hr (i+1) (by simpa using h1) (by simpa using h2)
  simp only[zipL,bsW] at hk
  obtain⟨c,hc,hcl,hn,hk⟩:=xZ rel hv hk
  have hsetLK:∀ (l:List (List PV)) (n:Nat) (v:List PV) (k:List (List PV)→Prop),setLK l n v k=k (l.set n v):=by
   intro l
   induction l with
   | nil=>intros;rfl
   | cons y l ih=>intro n v k;cases n with
    | zero=>rfl
    | succ n=>simp only[setLK,ih,List.set]
  rw[hsetLK] at hk
  let a1:=((ρ x).cells.toList.zipIdx).foldl (fun cs (y:Value × Nat)=>cs.setIfInBounds (n*size+y.2) y.1) a
  have ha1:a1.size=a.size:=jX _ _ _ _
  have hvl:(ρ x).cells.toList.length=size:=by rw[← hcl];simpa using hc.1
  have hend:(n+1)*size≤a.size:=by rw[← hsz];exact Nat.mul_le_mul_right _ hn
  rw[Nat.add_mul,Nat.one_mul] at hend
  have hget:∀ i,a1[i]?=if n*size≤i∧i<n*size+size then (ρ x).cells.toList[i - n*size]? else a[i]?:=by
   intro i
   have:=iW (n*size) (ρ x).cells.toList 0 a i (by rw[hvl];omega)
   rw[hvl] at this
   simpa using this
  obtain⟨a',xs',e1,e2,e3,e4,e5,e6⟩:=bsW_ok rel parts vs a1 (xs.set n c) (by simpa using hl) hr' (by rw[ha1];simpa using hsz) (fun i hi=>by
    rw[List.getElem_set]
    split
    ·exact hcl
    ·exact h1 i (by simpa using hi)) (fun i j hi hj=>by
    have hi2:i<xs.length:=by simpa using hi
    by_cases hin:i=n
    ·subst hin
     simp only[List.getElem_set_self] at hj ⊢
     have hj2:j<size:=by rw[← hcl];exact hj
     refine⟨(ρ x).cells.toList[j]'(by rw[hvl];exact hj2),?_,?_⟩
     ·rw[hget,if_pos (by omega),show i*size+j - i*size=j by omega,List.getElem?_eq_getElem]
     ·rw[Array.getElem_toList]
      exact hc.2 j (by have:=hc.1;omega) hj
    ·have hset:(xs.set n c)[i]=xs[i]:=List.getElem_set_ne (Ne.symm hin) _
     have hj2:j<xs[i].length:=by rw[hset] at hj;exact hj
     obtain⟨v,f1,f2⟩:=h2 i j hi2 hj2
     refine⟨v,?_,by simpa[hset] using f2⟩
     rw[hget,if_neg]
     ·exact f1
     ·have hx:=h1 i hi2
      intro hcon
      rcases Nat.lt_or_gt_of_ne hin with hlt | hlt
      ·have:(i+1)*size≤n*size:=Nat.mul_le_mul_right _ hlt
       rw[Nat.add_mul] at this;omega
      ·have:(n+1)*size≤i*size:=Nat.mul_le_mul_right _ hlt
       rw[Nat.add_mul] at this;omega) hk
  refine⟨a',xs',?_,by rw[e2,ha1],by simpa using e3,e4,e5,e6⟩
  simp only[List.map_cons,Instr.fill]
  have hvs:(ρ x).cells.size=size:=by simpa using hvl
  rw[if_neg (by simp[hvs];omega)]
  have e7:∀ f:Array Value→Value × Nat→Array Value,(ρ x).cells.zipIdx.foldl f a=(ρ x).cells.toList.zipIdx.foldl f a:=fun f=>by
   rw[← Array.foldl_toList,Array.toList_zipIdx]
  rw[e7]
  exact e1
 | [],_::_,_,_,hl,_,_,_,_,_=>by simp at hl
 | _::_,[],_,_,hl,_,_,_,_,_=>by simp at hl
end
section
variable {P:Program} {G:List TI} {r:Option Nat} {w:World} {fr:Nat→Prop} {m:aQ} {S:aD}
theorem repK_eq {α:Type}:∀ (n:Nat) (x:α) (k:List α→Prop),repK n x k=k (List.replicate n x)
 | 0,_,_=>rfl
 | n+1,x,k=>by simp only[repK,repK_eq n x,List.replicate_succ]
theorem yU {z:Array Value} {n size:Nat} (hz:z.size=size) (i j:Nat) (hi:i<n) (hj:j<size):((Array.range (n*size)).map (z[· % z.size]!))[i*size+j]?=z[j]?:=by
  have hlt:i*size+j<n*size:=by
    have:(i+1)*size≤n*size:=Nat.mul_le_mul_right _ hi
    rw[Nat.add_mul] at this;omega
  have hm:(i*size+j) % z.size=j:=by rw[hz,Nat.mul_comm,Nat.mul_add_mod,Nat.mod_eq_of_lt hj]
  have hj':j<z.size:=by omega
  rw[Array.getElem?_map,Array.getElem?_range,if_pos hlt,Option.map_some,hm,getElem!_pos z j hj',Array.getElem?_eq_getElem hj']
theorem freeze_ok (rel:RelS w fr m S) {e sz:Nat} {xs:List (List PV)} {arr:Array Value} {el:Nat} (he:xs.length*e≤cap47) (hs:∀ (i:Nat) (h:i<xs.length),xs[i].length=sz) (hl:xs.length*sz≤arr.size)
  (hr:∀ (i j:Nat) (hi:i<xs.length) (hj:j<xs[i].length),∃ v,arr[i*sz+j]?=some v∧Rep w fr m v xs[i][j]) :
  ∃ fr',Rep { w with heap:=w.heap.push (.cells arr el) } fr' m (.slice (some ⟨w.heap.size,0,none⟩) xs.length xs.length) (.list e xs)∧RelS { w with heap:=w.heap.push (.cells arr el) } fr' m S∧bZ w fr m S { w with heap:=w.heap.push (.cells arr el) } fr' m S:=by
 let w':World:={ w with heap:=w.heap.push (.cells arr el) }
 let fr':Nat→Prop:=fun b=>fr b∨b=w.heap.size
 have hk:iT w fr m w' fr' m:=⟨fun _ h=>.inl h,fun b hb=>nD w _ b (rel.frz b hb),kQ w _,Nle.refl m⟩
 have hnew:w'.heap[w.heap.size]?=some (.cells arr el (0,0)):=by simp[w']
 refine⟨fr',?_,⟨?_,?_,rel.inj,?_,rel.bnd⟩,⟨by simp,fun _ h=>.inl h,?_,fun b h=>.inl h,fun g h=>.inl h,fun b hb _=>nD w _ b hb,kQ w _,Nle.refl m,fun _ _ _=>rfl,rfl,rfl⟩⟩
 ·refine .list w.heap.size 0 xs.length e sz xs (fun i j=>arr.getD (i*sz+j) undef) (.inr rfl) (Nat.le_refl _) he hs (fun i j hi hj=>?_) (fun i j hi hj=>?_)
  ·have hlt:i*sz+j<arr.size:=by
    have:(i+1)*sz≤xs.length*sz:=Nat.mul_le_mul_right _ hi
    rw[Nat.add_mul] at this;omega
   simp only[World.cell?,Nat.zero_add]
   rw[show ({ w with heap:=w.heap.push (.cells arr el) }:World).heap[w.heap.size]?=some (.cells arr el (0,0)) from hnew]
   simp[Array.getD_eq_getD_getElem?,hlt]
  ·obtain⟨v,h1,h2⟩:=hr i j hi hj
   simp only[Array.getD_eq_getD_getElem?,h1,Option.getD_some]
   exact h2.keep hk
 ·intro g x hx
  obtain⟨ob,h1,h2⟩:=rel.obj g x hx
  refine⟨ob,h1,?_⟩
  cases ob with
  | none=>exact h2
  | some b=>
   obtain⟨o,ho,h3⟩:=h2
   exact⟨o,(nD w _ b (Array.getElem?_eq_some_iff.1 ho).1).trans ho,h3.keep hk⟩
 ·rintro b (hb | rfl) ho
  ·exact rel.apart b hb ho
  ·exact Nat.lt_irrefl _ (rel.lt ho)
 ·rintro b (hb | rfl)
  ·exact Nat.lt_of_lt_of_le (rel.frz b hb) (by simp)
  ·simp
 ·rintro b (hb | rfl)
  ·exact .inl hb
  ·exact .inr (.inr (Nat.le_refl _))
theorem opW_bs (hG:jI P G) {o:Oper} {K:KT} {Q:bQ} {t:List PV} {D:List DA} {ty n:Nat} {parts:Array (Nat × Operand)} (ho:o.op=.buildSlice ty n parts) (h:sA G P r o K Q t S D):TOp P r o K Q t S D:=by
  intro a w fr m hs next R hn hR
  simp only[sA,ho] at h
  split at h
  · rename_i e hk
    obtain⟨hz,h24,h47,h⟩:=h
    have h24':=Nat.le_of_ble_eq_true h24
    have h47':=Nat.le_of_ble_eq_true h47
    obtain⟨ps,hl,hr,h⟩:=uC hs h
    rw[repK_eq] at h
    have hu:=cV hG hk
    have hne:=bY hG hz
    obtain⟨z,hz1,hz2,hz3,hz4⟩:=uV hG hz w
    let arr0:=(Array.range (n*(aH G e).size)).map (z.cells[· % z.cells.size]!)
    obtain⟨a',xs',e1,e2,e3,e4,e5,e6⟩:=bsW_ok (w:=w) (fr:=fr) (m:=m) (ρ:=a.eval) hs.rel parts.toList ps arr0 (List.replicate n (aH G e).zero) (by simpa using hl)
      (fun i h1 h2=>by have:=hr i (by simpa using h1) h2;rw[List.getElem_map] at this;exact this) (by simp[arr0]) (fun i hi=>by simp[hz3])
      (fun i j hi hj=>by
        simp only[List.getElem_replicate] at hj ⊢
        simp only[List.length_replicate] at hi
        obtain⟨v,h1,h2⟩:=(hz4 fr m).get hj
        exact⟨v,by rw[← h1];exact yU hz2 i j hi (by omega),h2⟩) h
    have e3':xs'.length=n:=by simpa using e3
    have hasz:a'.size=n*(aH G e).size:=by rw[e2];simp[arr0]
    have hrun:(execOp a.eval o).run P w=.ok (.value (.slice (some ⟨w.heap.size,0,none⟩) n n)) { w with heap:=w.heap.push (.cells a' e) }:=by
      have h24'':¬ 2 ^ 24<n*(aH G e).size:=by
        have:(2:Nat) ^ 24=16777216:=by decide
        omega
      simp only[execOp,ho,Instr.buildSlice,Sem.run_bind,underlying,run_program,hu,Result.andThen_ok,Sem.run_pure,bJ hG hne]
      rw[if_neg h24'']
      have e1':Instr.fill (fun i=>some (i*(aH G e).size,(aH G e).size)) ((Array.range (n*(aH G e).size)).map (z.cells[· % z.cells.size]!)) (parts.map fun (x:Nat × Operand)=>(x.1,a.eval x.2)).toList=some a':=by
        rw[Array.toList_map];exact e1
      by_cases hn0:n*(aH G e).size=0
      · have hn1:n=0:=by rcases Nat.mul_eq_zero.1 hn0 with h | h;exact h;exact absurd h hz
        subst hn1
        rw[if_pos hn0]
        simp only[Sem.run_pure,Result.andThen_ok,Sem.run_bind]
        have e1'':Instr.fill (fun i=>some (i*(aH G e).size,(aH G e).size)) ((Array.range (0*(aH G e).size)).map ((#[]:Array Value)[· % (#[]:Array Value).size]!)) (parts.map fun (x:Nat × Operand)=>(x.1,a.eval x.2)).toList=some a':=by
          have e0:∀ (α:Type) (f:Nat→α),(Array.range (0*(aH G e).size)).map f=#[]:=by intro α f;simp
          rw[e0] at e1' ⊢;exact e1'
        rw[e1'']
        simp[newRow]
      · rw[if_neg hn0]
        simp only[Sem.run_bind,hz1,Result.andThen_ok,Sem.run_pure]
        rw[e1']
        simp[newRow]
    rw[fQ (by rw[ho];simp),hrun]
    rcases e6 with e6 | e6
    · obtain⟨fr',f1,f2,f3⟩:=freeze_ok (el:=e) hs.rel (by rw[e3'];exact h47') e4 (by rw[e3',hasz];exact Nat.le_refl _) e5
      rw[cD] at e6
      rw[e3'] at f1
      exact hn _ _ _ _ _ _ _ e6 ((hs.step f3 f2).put o.dst f1) f3
    · obtain⟨g,h1,h2,h3⟩:=yX hs.rel e6 (.cells a' e) (wO hs.rel (by rw[e3'];exact h47') e4 (by rw[e3',hasz];exact Nat.le_refl _) e5 0 _ (fun m' hm=>oK hs.rel _ hm))
      rw[cD] at h1
      have hnew:({ w with heap:=w.heap.push (.cells a' e) }:World).heap[w.heap.size]?=some (.cells a' e (0,0)):=by simp
      have h9:=kU (w':={ w with heap:=w.heap.push (.cells a' e) }) (fr:=fr) (m:=m) g w.heap.size 0 n n (aH G e).size (n*(aH G e).size) 0 (Nat.le_refl _) (by rw[iH hnew,hasz]) (by simp)
      have h10:Rep { w with heap:=w.heap.push (.cells a' e) } fr (eY m g (0,some w.heap.size)) (.slice (some ⟨w.heap.size,0,none⟩) n n) (.row g 0 0 n (aH G e).size):=by simpa using h9
      exact hn _ _ _ _ _ _ _ h1 ((hs.step h3 h2).put o.dst h10) h3
  · exact h.elim
theorem opW_makeSlice (hG:jI P G) {o:Oper} {K:KT} {Q:bQ} {t:List PV} {D:List DA} {ty:Nat} {ln cp:Operand} (ho:o.op=.makeSlice ty ln cp) (h:sA G P r o K Q t S D):TOp P r o K Q t S D:=by
  refine kX (by rw[ho];simp) fun a w fr m hs=>?_
  simp only[sA,ho] at h
  split at h
  · rename_i e hk
    obtain⟨hz,h⟩:=h
    obtain⟨p,hp,h⟩:=bP hs h
    obtain⟨q,hq,h⟩:=bP hs h
    split at h
    · rename_i k1 n k2 n'
      obtain⟨rfl,h0,h47,h62,h⟩:=h
      obtain⟨c,rfl⟩:=Int.eq_ofNat_of_zero_le h0
      simp only[Int.toNat_natCast] at h h47
      have hu:=cV hG hk
      have hne:=bY hG hz
      obtain⟨z,hz1,hz2,hz3,hz4⟩:=uV hG hz w
      obtain⟨fi,hfi,hfs,hfb⟩:=uT hG hne
      let arr:=(Array.range (c*(aH G e).size)).map (z.cells[· % z.cells.size]!)
      have hasz:arr.size=c*(aH G e).size:=by simp[arr]
      obtain⟨g,h1,h2,h3⟩:=yX hs.rel h (.cells arr e) (wO hs.rel (by simpa using h47) (fun i hi=>by simp[hz3]) (by simp[hasz]) (fun i j hi hj=>by
        simp only[List.getElem_replicate] at hj ⊢
        simp only[List.length_replicate] at hi
        obtain⟨v,h1,h2⟩:=(hz4 fr m).get hj
        exact⟨v,by rw[← h1];exact yU hz2 i j hi (by omega),h2⟩) 0 _ (fun m' hm=>oK hs.rel _ hm))
      rw[cD] at h1
      have hnew:({ w with heap:=w.heap.push (.cells arr e) }:World).heap[w.heap.size]?=some (.cells arr e (0,0)):=by simp
      have h9:=kU (w':={ w with heap:=w.heap.push (.cells arr e) }) (fr:=fr) (m:=m) g w.heap.size 0 c c (aH G e).size (c*(aH G e).size) 0 (Nat.le_refl _) (by rw[iH hnew,hasz]) (by simp)
      have h10:Rep { w with heap:=w.heap.push (.cells arr e) } fr (eY m g (0,some w.heap.size)) (.slice (some ⟨w.heap.size,0,none⟩) c c) (.row g 0 0 c (aH G e).size):=by simpa using h9
      refine⟨_,_,_,_,_,.inl ?_,h10,h2,h3,by simpa using h1⟩
      have hw:IntKind.i64.wrap (c:Int)=(c:Int):=IntWalk.i64_in _ (by omega)
      have hea:∃ kk,a.eval ln=.int kk c:=by revert hp;generalize a.eval ln=v;intro hp;cases hp;exact⟨_,rfl⟩
      have heb:∃ kk,a.eval cp=.int kk c:=by revert hq;generalize a.eval cp=v;intro hq;cases hq;exact⟨_,rfl⟩
      obtain⟨ka,hea⟩:=hea
      obtain⟨kb,heb⟩:=heb
      have hb1:¬ ((fi.bytes:Int)*(c:Int) > 2 ^ 48):=by
        have h1:(fi.bytes:Int)*(c:Int)=((c*fi.bytes:Nat):Int):=by rw[Nat.mul_comm];simp
        have h2:c*fi.bytes≤cap47:=by rw[hfb];exact h47
        have h3:(2:Int) ^ 48=281474976710656:=by decide
        rw[h1,h3];unfold cap47 at h2;omega
      have hc0:¬ ((c:Int)<0):=by omega
      rw[show (execOp a.eval o)=(do pure (.value (← Instr.makeSlice ty (.int ka c) (.int kb c)))) from by simp[execOp,ho,hea,heb]]
      simp only[Sem.run_bind,Instr.makeSlice,underlying,run_program,hu,Result.andThen_ok,Sem.run_pure,asInt,asIntOf,typeInfo,hfi,hw]
      have hcond:((decide ((c:Int)<0) || decide ((fi.bytes:Int)*(c:Int) > 2 ^ 48)) || decide ((c:Int)<0) || decide ((c:Int) > (c:Int)))=false:=by
        simp only[decide_eq_false hb1,decide_eq_false hc0,Bool.or_false,Bool.false_or]
        simp
      rw[hcond]
      simp only[Bool.false_eq_true,if_false,Sem.run_bind,Sem.run_pure,Result.andThen_ok,run_askRoom,bJ hG hne,Int.toNat_natCast]
      by_cases hn0:c*(aH G e).size=0
      · rw[if_pos hn0]
        have e0:arr=#[]:=Array.eq_empty_of_size_eq_zero (by rw[hasz];exact hn0)
        rw[e0]
        simp[newRow,hn0]
        congr 2
        apply Array.eq_empty_of_size_eq_zero
        simp
      · rw[if_neg hn0]
        simp only[Sem.run_bind,hz1,Result.andThen_ok,Sem.run_pure,newRow,run_newObj]
        rfl
    · exact h.elim
  · exact h.elim
theorem opW_append (hG:jI P G) {o:Oper} {K:KT} {Q:bQ} {t:List PV} {D:List DA} {s x:Operand} {ty tx:Nat} (ho:o.op=.call { callee:=.builtin .append,args:=#[s,x],argTypes:=#[ty,tx] }) (h:sA G P r o K Q t S D):TOp P r o K Q t S D:=by
 refine kX (by rw[ho];simp) fun a w fr m hs=>?_
 simp only[sA,ho] at h
 split at h
 ·rename_i e e' hk hk'
  obtain⟨hz,hby,h⟩:=h
  obtain⟨p,hp,h⟩:=bP hs h
  obtain⟨q,hq,h⟩:=bP hs h
  obtain⟨ys,f,hsrc,hys,h⟩:=src_ok (size:=(aH G e).size) hs.rel hq h (fun ys hh c hc=>(hh.1 c hc).1)
  have hex:∀ v:Value,(execOp a.eval o)=(do pure (.value (← Builtin.append_ #[ty,tx] o.type #[a.eval s,a.eval x]))):=by
   intro v
   simp[execOp,ho,resolve,invoke,builtin]
  split at h
  ·rename_i g ver len sz
   obtain⟨rfl,h⟩:=h
   unfold rowW at h
   obtain⟨e0,xs,hS,hlen,rfl,hb,h⟩:=h
   obtain⟨v',w',m',h1,h2,h3,h4⟩:=append_row (P:=P) (rty:=o.type) hG hs.rel hk ⟨_,hk'⟩ hz hby hp hsrc hys hS hlen hb
   rw[cD] at h
   exact⟨v',w',m',_,_,.inl (by rw[hex undef];simp[h1]),h2,h3,h4,h⟩
  ·obtain⟨hb,h⟩:=h
   unfold rJ at h
   have hnil:a.eval s=.slice none 0 0:=by
    revert hp;generalize a.eval s=vs;intro hp;cases hp;rfl
   obtain⟨g,hg,h1,h2,h3⟩:=nil_name hs.rel (aH G e).size (aH G e).bytes
   have hk1:=h2.keep hs.rel
   have hsrc':SrcR w fr (eY m g (0,none)) (a.eval x) (aH G e).size ys f:=⟨hsrc.shape,fun i j hi hj=>(hsrc.rep i j hi hj).keep hk1⟩
   have hys':∀ c∈ys,c.length=(aH G e).size∧dS (aK S g (.row 0 (aH G e).size (aH G e).bytes [])) c:=by
    intro c hc
    refine⟨(hys c hc).1,?_⟩
    have h5:=(hys c hc).2
    have lv:∀ g' v,dK S g' v→dK (aK S g (.row 0 (aH G e).size (aH G e).bytes [])) g' v:=by
     intro g' v hl
     unfold dK at hl ⊢
     obtain⟨y,hy,hv⟩:=hl
     refine⟨y,?_,hv⟩
     rw[aC];exact hy
     rintro rfl;rw[hg] at hy;cases hy
    clear hc
    induction c with
    | nil=>trivial
    | cons y c ih=>
     refine⟨?_,ih h5.2⟩
     have h6:=h5.1
     cases y <;> first | exact h6 | exact lv _ _ h6
   obtain⟨v',w',m',g1,g2,g3,g4⟩:=append_row (P:=P) (rty:=o.type) hG h1 hk ⟨_,hk'⟩ hz hby h3 hsrc' hys' (aA _ _ _) rfl (by simpa using hb)
   rw[aN] at g3 g4
   have h7:=h g hg
   dsimp only at h7
   rw[cD] at h7
   refine⟨v',w',m',_,_,.inl (by rw[hex undef,hnil];simp[g1]),by simpa using g2,by simpa using g3,h2.trans (by simpa using g4),h7⟩
  ·exact h.elim
 ·exact h.elim
theorem clrL_len {xs:List (List PV)} {off len:Nat} {z:List PV} (h:off+len≤xs.length):(clrL xs off len z).length=xs.length:=by simp[clrL];omega
theorem clrL_get {xs:List (List PV)} {off len:Nat} {z:List PV} (h:off+len≤xs.length) (i:Nat):(clrL xs off len z)[i]?=if off≤i∧i<off+len then some z else xs[i]?:=by
 unfold clrL
 by_cases h1:i<off
 ·rw[List.getElem?_append_left (by simp;omega),if_neg (by omega),List.getElem?_take,if_pos h1]
 ·have ht:(xs.take off).length=off:=by simp;omega
  rw[List.getElem?_append_right (by omega),ht]
  by_cases h2:i<off+len
  ·rw[List.getElem?_append_left (by simp;omega),if_pos (by omega),List.getElem?_replicate,if_pos (by omega)]
  ·rw[List.getElem?_append_right (by simp;omega),if_neg (by omega),List.length_replicate,List.getElem?_drop]
   congr 1;omega
theorem zeroCells_get {z:Array Value} {n i j:Nat} (hi:i<n) (hj:j<z.size):(Builtin.zeroCells z n)[i*z.size+j]?=some z[j]:=by
 have hlt:i*z.size+j<n*z.size:=by
  have:(i+1)*z.size≤n*z.size:=Nat.mul_le_mul_right _ hi
  rw[Nat.add_mul] at this;omega
 have hm:(i*z.size+j) % z.size=j:=by rw[Nat.mul_comm,Nat.mul_add_mod,Nat.mod_eq_of_lt hj]
 simp[Builtin.zeroCells,hlt,hm,hj]
theorem opW_clear (hG:jI P G) {o:Oper} {K:KT} {Q:bQ} {t:List PV} {D:List DA} {s:Operand} {ty:Nat} (ho:o.op=.call { callee:=.builtin .clear,args:=#[s],argTypes:=#[ty] }) (h:sA G P r o K Q t S D):TOp P r o K Q t S D:=by
 refine kX (by rw[ho];simp) fun a w fr m hs=>?_
 simp only[sA,ho] at h
 split at h
 ·rename_i e hk
  obtain⟨hz,h⟩:=h
  obtain⟨p,hp,h⟩:=bP hs h
  split at h
  ·rename_i g ver off len sz
   obtain⟨rfl,h⟩:=h
   unfold rowW at h
   obtain⟨e0,xs,hS,hlen,hsol,h⟩:=h
   rw[cD] at h
   have hund:=cV hG hk
   have hex:(execOp a.eval o)=(do pure (.value (← Builtin.clear_ #[ty] o.type #[a.eval s]))):=by simp[execOp,ho,resolve,invoke,builtin]
   have hlive:dK S g ver:=by unfold dK;exact⟨_,hS,rfl⟩
   have hu:∀ w',(underlying ty).run P w'=.ok (.slice e) w':=fun w'=>by simp[underlying,hund]
   have hzero:len=0→aK S g (.row ver (aH G e).size e0 (clrL xs off len (aH G e).zero))=S:=fun hl=>by
    subst hl
    have e1:clrL xs off 0 (aH G e).zero=xs:=by simp[clrL]
    rw[e1]
    funext x;simp only[aK];split
    ·rename_i hx;rw[hx];exact hS.symm
    ·rfl
   rcases pL hs.rel hp hlive with ⟨hm,hv,rfl,rfl⟩ | ⟨b,cap,N,hm,hv,hc1,hc2,hc3⟩
   ·rw[hzero rfl] at h
    exact⟨.tuple #[],w,m,S,.any,.inl (by rw[hex,hv];simp[Builtin.clear_,hu]),.any _,hs.rel,.refl _ _ _ _,h⟩
   ·by_cases hl:len=0
    ·rw[hzero hl] at h
     subst hl
     exact⟨.tuple #[],w,m,S,.any,.inl (by rw[hex,hv];simp[Builtin.clear_,hu]),.any _,hs.rel,.refl _ _ _ _,h⟩
    ·obtain⟨z,hz1,hz2,hz3,hz4⟩:=uV hG hz w
     obtain⟨ob,hm',hob⟩:=hs.rel.obj g _ hS
     rw[hm] at hm';cases hm'
     obtain⟨ob',hoh,he,arr,el,rfl,hsz,hal,hcs⟩:=hob
     have hend:(off+len)*(aH G e).size≤arr.size:=Nat.le_trans (Nat.mul_le_mul_right _ hlen) hal
     have hvl:(Builtin.zeroCells z.cells len).toList.length=len*(aH G e).size:=by simp[Builtin.zeroCells,hz2]
     have hmul:(off+len)*(aH G e).size=off*(aH G e).size+len*(aH G e).size:=Nat.add_mul _ _ _
     have hz5:=vM hs.rel (vs:=z.cells.toList) (c:=(aH G e).zero) (by simp[hz2,hz3]) (fun i h1 h2=>by have:=(hz4 fr m).2 i (by simpa using h1) h2;rwa [Array.getElem_toList]) hsol
     have hpos:0<(aH G e).size:=by omega
     have hone:∀ v∈(Builtin.zeroCells z.cells len).toList,v.oneCell'=true:=by
      intro v hv
      simp only[Builtin.zeroCells,Array.toList_map,Array.toList_range,List.mem_map,List.mem_range] at hv
      obtain⟨k,hk,rfl⟩:=hv
      have hj:k % z.cells.size<z.cells.size:=Nat.mod_lt _ (by omega)
      refine hz5 _ ?_
      rw[getElem!_pos z.cells _ hj]
      exact Array.mem_toList_iff.2 (Array.getElem_mem hj)
     have hcell:∀ x,x<arr.size→w.cell? ⟨b,x,none⟩=some arr[x]!:=fun x hx=>by simp[World.cell?,hoh,hx]
     have hrun:=run_storeCells_cells (P:=P) b (off*(aH G e).size) (Builtin.zeroCells z.cells len).toList 0 w (fun x hx=>by rw[Nat.add_zero,hcell _ (by rw[hvl] at hx;omega)];rfl)
      (fun x hx=>by simp[World.frozen?,hoh]) hone
     rw[Nat.add_zero] at hrun
     obtain⟨b1,b2,b3⟩:=lK (Builtin.zeroCells z.cells len).toList (off*(aH G e).size) w b arr el hoh
     have hsa:=jX (off*(aH G e).size) (Builtin.zeroCells z.cells len).toList 0 arr
     have hget:=fun x=>iW (off*(aH G e).size) (Builtin.zeroCells z.cells len).toList 0 arr x (by rw[hvl];omega)
     have hsh:=uE hoh b1 hsa b3
     have hnle:Nle m (eY m g (ver,some b)):=by
      intro h v b' e'
      by_cases hh:h=g
      ·subst hh;rw[hm] at e';cases e';exact⟨_,_,cU _ _ _,Nat.le_refl _,fun _=>rfl⟩
      ·exact⟨v,b',by rw[gM hh];exact e',Nat.le_refl _,fun _=>rfl⟩
     have hkeep:iT w fr m (w.setCells b (off*(aH G e).size) (Builtin.zeroCells z.cells len).toList) fr (eY m g (ver,some b)):=
      ⟨fun _ h=>h,fun b' hb'=>b3 b' (fun e=>by subst e;exact hs.rel.apart _ hb' ⟨g,_,_,hS,hm⟩),hsh,hnle⟩
     have hclen:=clrL_len (z:=(aH G e).zero) hlen
     have hres:=nU (x':=.row ver (aH G e).size e0 (clrL xs off len (aH G e).zero)) (ob':=some b) (w':=w.setCells b (off*(aH G e).size) (Builtin.zeroCells z.cells len).toList) (g:=g) hs.rel (by rw[b2];exact Nat.le_refl _)
      (fun b' hb' hne=>b3 b' (fun e=>by subst e;exact hne _ hm)) hsh
      (fun v ob e'=>by rw[hm] at e';cases e';exact⟨by rw[hS];rfl,Nat.le_refl _,fun _=>rfl⟩)
      (fun b' e'=>by cases e';exact .inl ⟨_,hm⟩)
      ⟨_,b1,by rw[hclen];exact he,_,el,rfl,fun i hi=>by
       have hg:=clrL_get (z:=(aH G e).zero) hlen i
       rw[List.getElem?_eq_getElem hi] at hg
       split at hg
       ·rw[Option.some.inj hg];exact hz3
       ·rw[List.getElem?_eq_getElem (by omega)] at hg;rw[Option.some.inj hg];exact hsz i (by omega),by rw[hclen,hsa];exact hal,fun i j hi hj=>?_⟩
     ·refine⟨.tuple #[],_,_,_,.any,.inl ?_,.any _,hres.1,hres.2,h⟩
      rw[hex,hv]
      obtain⟨len',rfl⟩:∃ n,len=n+1:=⟨len - 1,by omega⟩
      simp[Builtin.clear_,hu,hz1,hrun]
     ·have hi2:i<xs.length:=by omega
      have hg:=clrL_get (z:=(aH G e).zero) hlen i
      rw[List.getElem?_eq_getElem hi] at hg
      have hbd:∀ a c:Nat,a<c→a*(aH G e).size+(aH G e).size≤c*(aH G e).size:=fun a c hac=>by
       have:=Nat.mul_le_mul_right (aH G e).size (Nat.succ_le_of_lt hac);rwa [Nat.succ_mul] at this
      split at hg
      ·rename_i hin
       have hgi:=Option.some.inj hg
       have hj2:j<(aH G e).zero.length:=by rw[hgi] at hj;exact hj
       have hjz:j<z.cells.size:=by omega
       have h1:=hbd i (off+len) hin.2
       have h2:off*(aH G e).size≤i*(aH G e).size:=Nat.mul_le_mul_right _ hin.1
       refine⟨z.cells[j],?_,?_⟩
       ·rw[hget,if_pos (by rw[hvl];omega)]
        have h3:=zeroCells_get (z:=z.cells) (n:=len) (i:=i - off) (j:=j) (by omega) hjz
        rw[hz2,Nat.sub_mul] at h3
        rw[show i*(aH G e).size+j - (off*(aH G e).size+0)=i*(aH G e).size - off*(aH G e).size+j by omega,Array.getElem?_toList]
        exact h3
       ·have h4:=((hz4 fr m).2 j hjz hj2).keep hkeep
        have h5:∀ (l:List PV) (hl:l=(aH G e).zero) (h6:j<l.length),Rep (w.setCells b (off*(aH G e).size) (Builtin.zeroCells z.cells len).toList) fr (eY m g (ver,some b)) z.cells[j] l[j]:=fun l hl h6=>by subst hl;exact h4
        exact h5 _ hgi hj
      ·rename_i hout
       rw[List.getElem?_eq_getElem hi2] at hg
       have hgi:=Option.some.inj hg
       have hj2:j<xs[i].length:=by rw[hgi] at hj;exact hj
       obtain⟨v,hv1,hv2⟩:=hcs i j hi2 hj2
       have hjs:j<(aH G e).size:=by rw[hsz i hi2] at hj2;exact hj2
       refine⟨v,?_,?_⟩
       ·rw[hget,if_neg]
        ·exact hv1
        ·rw[hvl]
         intro hcon
         rcases Nat.lt_or_ge i off with h1 | h1
         ·have:=hbd i off h1;omega
         ·have h2:(off+len)*(aH G e).size≤i*(aH G e).size:=Nat.mul_le_mul_right _ (by omega)
          omega
       ·have h5:∀ (l:List PV) (hl:l=xs[i]) (h6:j<l.length),Rep (w.setCells b (off*(aH G e).size) (Builtin.zeroCells z.cells len).toList) fr (eY m g (ver,some b)) v l[j]:=fun l hl h6=>by subst hl;exact hv2.keep hkeep
        exact h5 _ hgi hj
  ·exact h.elim
 ·exact h.elim
theorem opW_ok (hG:jI P G) {o:Oper} {K:KT} {Q:bQ} {t:List PV} {D:List DA} (h:sA G P r o K Q t S D):TOp P r o K Q t S D:=by
 obtain⟨dst,op,rty,pos,after,guard⟩:=o
 cases op with
 | store ty x v=>exact opW_store hG rfl h
 | alloc ty=>exact opW_alloc hG rfl h
 | box ty x=>exact opW_box rfl h
 | buildSlice ty n parts=>exact opW_bs hG rfl h
 | makeMap ty rs=>
  cases rs with
  | none=>exact opW_makeMap hG rfl h
  | some x=>exact (by simp only[sA] at h)
 | makeSlice ty ln cp=>exact opW_makeSlice hG rfl h
 | mapUpdate ty mp k v=>exact opW_mapUpd hG (.inl rfl) h
 | insert ty mp k v=>exact opW_mapUpd hG (.inr rfl) h
 | panic x=>
  intro a w fr m hs next R hn hR
  simp only[sA] at h
  obtain⟨p,hp,h⟩:=bP hs h
  split at h
  ·rename_i u p
   revert hp;generalize he:a.eval x=vx;intro hp
   cases hp with
   | iface u v p hv=>
    rw[fQ (by simp)]
    have:(execOp a.eval { dst,op:=.panic x,type:=rty,pos,after,guard }).run P w=.halt (.panic (.iface u v)) w:=by simp[execOp,he,Instr.panic]
    rw[this]
    exact hR _ _ _ ⟨.panic (.iface u p),t,S,D,fr,m,h,.iface _ _ _ hv,hs,.refl _ _ _ _⟩
  ·exact h.elim
 | call c=>
  obtain⟨callee,args,argTypes⟩:=c
  cases callee with
  | value f=>
   intro a w fr m hs next R hn hR
   simp only[sA] at h
   obtain⟨p,hp,h⟩:=bP hs h
   obtain⟨ps,hps,h⟩:=yR hs h
   split at h
   ·rename_i n first cap
    revert hp;generalize he:a.eval f=vf;intro hp
    cases hp with
    | fn _ fa fc _ _ h1 h2 h3 h4=>
     simp only[iS] at h
     exact callW_ok (by simp) h hs (sU ⟨h1,h3⟩ hps ⟨h2,h4⟩) (call_run rfl he) hn hR
   ·rename_i g
    refine yldW_ok (by simp) h hs hps hp (fun l x e1 e2=>?_) hn hR
    simp only[execOp,resolve,e1,Deferred.ofValue,Sem.run_bind,Sem.run_pure,Result.andThen_ok,invoke]
    simpa using e2
   ·exact h.elim
  | invoke rcv nm=>simp only[sA] at h
  | builtin b=>
   cases b <;> try (simp only[sA] at h;done)
   case append=>
    simp only[sA] at h
    split at h
    ·rename_i s x ty tx h1 h2
     have e1:args=#[s,x]:=by apply Array.ext';simpa using h1
     have e2:argTypes=#[ty,tx]:=by apply Array.ext';simpa using h2
     subst e1;subst e2
     exact opW_append hG rfl h
    ·exact h.elim
   case clear=>
    simp only[sA] at h
    split at h
    ·rename_i s ty h1 h2
     have e1:args=#[s]:=by apply Array.ext';simpa using h1
     have e2:argTypes=#[ty]:=by apply Array.ext';simpa using h2
     subst e1;subst e2
     exact opW_clear hG rfl h
    ·exact h.elim
   case panic=>
    intro a w fr m hs next R hn hR
    simp only[sA] at h
    split at h
    ·rename_i x h1
     have e1:args=#[x]:=by apply Array.ext';simpa using h1
     subst e1
     obtain⟨p,hp,h⟩:=bP hs h
     split at h
     ·rename_i u p
      revert hp;generalize he:a.eval x=vx;intro hp
      cases hp with
      | iface u v p hv=>
       rw[fQ (by simp)]
       have:(execOp a.eval { dst,op:=.call { callee:=.builtin .panic,args:=#[x],argTypes:=argTypes },type:=rty,pos,after,guard }).run P w=.halt (.panic (.iface u v)) w:=by
        simp[execOp,resolve,invoke,builtin,he,Instr.panic]
       rw[this]
       exact hR _ _ _ ⟨.panic (.iface u p),t,S,D,fr,m,h,.iface _ _ _ hv,hs,.refl _ _ _ _⟩
     ·exact h.elim
    ·exact h.elim
 | defer c=>
  obtain⟨callee,args,argTypes⟩:=c
  cases callee with
  | value f=>
   intro a w fr m hs next R hn hR
   simp only[sA] at h
   obtain⟨rfl,h⟩:=h
   obtain⟨p,hp,h⟩:=bP hs h
   obtain⟨ps,hps,h⟩:=yR hs h
   split at h
   ·rename_i n first cap _
    revert hp;generalize he:a.eval f=vf;intro hp
    cases hp with
    | fn _ fa fc _ _ h1 h2 h3 h4=>
     have:(execOp a.eval { dst,op:=.defer { callee:=.value f,args:=args,argTypes:=argTypes },type:=rty,pos,after,guard }).run P w=.ok (.defer { target:=.fn (.func n) fc,args:=fa++args.map a.eval }) w:=by
      simp[execOp,resolve,he,Deferred.ofValue]
     rw[show Oper.semAt (FR none).round a.eval { dst,op:=.defer { callee:=.value f,args:=args,argTypes:=argTypes },type:=rty,pos,after,guard }=execOp a.eval { dst,op:=.defer { callee:=.value f,args:=args,argTypes:=argTypes },type:=rty,pos,after,guard } from rfl,this]
     simp only[iS,cD] at h
     have hst:kZ { a with defers:={ target:=.fn (.func n) fc,args:=fa++args.map a.eval }::a.defers } w fr m t S (.call n (first++ps++cap)::D):=
      ⟨hs.rel,hs.len,hs.tmp,⟨fc,rfl,sU ⟨h1,h3⟩ hps ⟨h2,h4⟩⟩,hs.dfr⟩
     exact hn _ _ _ _ _ _ _ h (hst.put dst (.any undef)) (.refl _ _ _ _)
   ·exact h.elim
  | invoke rcv nm=>simp only[sA] at h
  | builtin b=>simp only[sA] at h
 | _=>simp only[sA] at h
end
section
variable {P:Program} {G:List TI} {r:Option Nat}
def kV:Op→Bool
 | .move _ | .assign _ | .pick .. | .nilCheck _ | .binOp .. | .unOp .. | .makeInterface .. | .makeFunc .. | .fieldAddr .. | .field .. | .indexAddr .. | .index .. | .slice .. | .extract .. | .build .. | .load .. | .lookup .. | .typeAssert .. | .convert ..=>true
 | .call { callee:=.builtin .len,.. }=>true
 | .call { callee:=.builtin .max,.. }=>true
 | _=>false
def TL (P:Program) (r:Option Nat) (ops:Array Oper) (n:Nat) (Q:bQ) (t:List PV) (S:aD) (D:List DA):Prop:=
 TO P r ops (List.range' n (ops.size - n)) Q t S D
def jJ:List Oper→Nat→Option Oper
 | [],_=>none
 | x::_,0=>some x
 | _::l,n+1=>jJ l n
theorem fW:∀ (l:List Oper) (n:Nat),jJ l n=l[n]?
 | [],_=>by simp[jJ]
 | _::_,0=>rfl
 | _::l,n+1=>by simp[jJ,fW l n]
def OpsW (G:List TI) (P:Program) (r:Option Nat) (ops:Array Oper) (Q:bQ):List Oper→Nat→List PV→aD→List DA→Prop
 | [],_,t,S,D=>Q .normal t S D
 | o::l,n,t,S,D=>match o.guard with
  | none=>(match kV o.op with
   | true=>nG G o.op t S fun p=>gX t o.dst p fun t'=>OpsW G P r ops Q l (n+1) t' S D
   | false=>sA G P r o (TL P r ops (n+1) Q) Q t S D)
  | some (j,b)=>match jJ ops.toList j with
   | some oj=>(match oj.dst with
    | some d=>getK t d fun v=>match v with
     | .bool g=>(g=b→zS t d (.bool b) fun t=>match kV o.op with
       | true=>nG G o.op t S fun p=>gX t o.dst p fun t'=>OpsW G P r ops Q l (n+1) t' S D
       | false=>sA G P r o (TL P r ops (n+1) Q) Q t S D) ∧
      (g=!b→zS t d (.bool (!b)) fun t=>gX t o.dst (.tup []) fun t'=>OpsW G P r ops Q l (n+1) t' S D)
     | .tup []=>gX t o.dst (.tup []) fun t'=>OpsW G P r ops Q l (n+1) t' S D
     | _=>False
    | none=>False)
   | none=>False
theorem rN {o:Oper} (h:kV o.op=true) (ρ:Operand→Value):o.semAt (FR r).round ρ=execOp ρ o:=by
 refine Oper.semAt_eq _ _ _ ?_
 intro c e
 rw[e] at h;simp[kV] at h
theorem TOp_pure (hG:jI P G) {o:Oper} (hq:kV o.op=true) {K:KT} {Q:bQ} {t:List PV} {S:aD} {D:List DA} (h:nG G o.op t S fun p=>gX t o.dst p fun t'=>K t' S D):TOp P r o K Q t S D:=by
 intro a w fr m hs next R hn hR
 obtain⟨v,p,h1,h2,h3⟩:=xO (w:=w) (fr:=fr) (m:=m) hG hs h
 rw[cD] at h3
 rw[rN hq,h1]
 exact hn _ _ _ _ _ _ _ h3 (hs.put o.dst h2) (.refl _ _ _ _)
theorem uX {w:World} {fr:Nat→Prop} {m:aQ}:Rep w fr m undef (.tup []):=.tup #[] [] rfl (fun i h1 h2=>absurd h2 (by simp))
theorem lO {ops:Array Oper} {ts:Array Value} {j d:Nat} {oj:Oper} {g:Bool} {w:World} {fr:Nat→Prop} {m:aQ} (hj:ops[j]?=some oj) (hd:oj.dst=some d) (h3:Rep w fr m (ts.getD d undef) (.bool g)):yielded ops ts j=some g:=by
 have h4:ts.getD d undef=.bool g:=by
  generalize ts.getD d undef=x at h3
  cases h3;rfl
 have h5:ts[d]?=some (.bool g):=by
  rw[Array.getD_eq_getD_getElem?] at h4
  cases e:ts[d]? with
  | none=>rw[e] at h4;simp[undef] at h4
  | some x=>rw[e] at h4;simpa using h4
 simp[yielded,hj,hd,h5]
theorem qC {ops:Array Oper} {ts:Array Value} {j d:Nat} {oj:Oper} {w:World} {fr:Nat→Prop} {m:aQ} (hj:ops[j]?=some oj) (hd:oj.dst=some d) (h3:Rep w fr m (ts.getD d undef) (.tup [])):yielded ops ts j=none:=by
 have h4:∃ cs,ts.getD d undef=.tuple cs:=by
  generalize ts.getD d undef=x at h3
  cases h3;exact⟨_,rfl⟩
 obtain⟨cs,h4⟩:=h4
 rw[Array.getD_eq_getD_getElem?] at h4
 cases e:ts[d]? with
 | none=>simp[yielded,hj,hd,e]
 | some x=>rw[e] at h4;simp only[Option.getD_some] at h4;subst h4;simp[yielded,hj,hd,e]
theorem TO_guard {ops:Array Oper} {i:Nat} {rest:List Nat} {o oj:Oper} {j d:Nat} {b g:Bool} {Q:bQ} {t:List PV} {S:aD} {D:List DA} (ho:ops[i]?=some o) (hg:o.guard=some (j,b))
  (hj:ops[j]?=some oj) (hd:oj.dst=some d) (hv:getT t d=.bool g)
  (h1:g=b→TOp P r o (TO P r ops rest Q) Q t S D) (h2:g=!b→TO P r ops rest Q (jH t o.dst (.tup [])) S D):TO P r ops (i::rest) Q t S D:=by
 intro a w fr m hs
 have hy:yielded ops a.tmps j=some g:=by
  have h3:=hs.tmp d
  rw[hv] at h3
  exact lO hj hd h3
 simp only[wpOpsIn,ho,Region.wanted,hg,hy]
 by_cases hgb:g=b
 ·subst hgb
  simp only[BEq.rfl,if_true]
  refine⟨fun _ _=>trivial,h1 rfl a w fr m hs _ _ ?_ fun _ _ _ h=>h⟩
  intro t' S' D' a' w' fr' m' hk hs' hst
  exact gO (fun _ _ _ h=>dF.trans hst h) (hk a' w' fr' m' hs')
 ·have hgb':g=!b:=by cases g <;> cases b <;> simp_all
  have:(some g == some b)=false:=by simpa using hgb
  simp only[this,Bool.false_eq_true,if_false]
  exact⟨fun _ _=>trivial,h2 hgb' _ w fr m (hs.put o.dst uX)⟩
theorem TO_skip {ops:Array Oper} {i:Nat} {rest:List Nat} {o oj:Oper} {j d:Nat} {b:Bool} {Q:bQ} {t:List PV} {S:aD} {D:List DA} (ho:ops[i]?=some o) (hg:o.guard=some (j,b))
  (hj:ops[j]?=some oj) (hd:oj.dst=some d) (hv:getT t d=.tup []) (h2:TO P r ops rest Q (jH t o.dst (.tup [])) S D):TO P r ops (i::rest) Q t S D:=by
 intro a w fr m hs
 have hy:yielded ops a.tmps j=none:=by
  have h3:=hs.tmp d
  rw[hv] at h3
  exact qC hj hd h3
 simp only[wpOpsIn,ho,Region.wanted,hg,hy]
 have:((none:Option Bool) == some b)=false:=rfl
 simp only[this,Bool.false_eq_true,if_false]
 exact⟨fun _ _=>trivial,h2 _ w fr m (hs.put o.dst uX)⟩
theorem xF {t:List PV} {d:Nat} {v:PV} (h:getT t d=v):t.set d v=t:=by
 induction t generalizing d with
 | nil=>rfl
 | cons x l ih=>
  cases d with
  | zero=>simp only[getT] at h;simp[h]
  | succ d=>simp only[getT] at h;simp[ih h]
theorem OpsW_ok (hG:jI P G) {ops:Array Oper} {Q:bQ}:∀ {l:List Oper} {n:Nat},l=ops.toList.drop n→∀ {t:List PV} {S:aD} {D:List DA},OpsW G P r ops Q l n t S D→TL P r ops n Q t S D
 | [],n,hl,t,S,D,h=>by
  have:ops.size - n=0:=by have:=congrArg List.length hl;simp at this;omega
  unfold TL
  rw[this]
  exact TO_nil h
 | o::l,n,hl,t,S,D,h=>by
  have hlen:=congrArg List.length hl
  simp at hlen
  have hn:ops[n]?=some o:=by
   have:(ops.toList.drop n)[0]?=some o:=by rw[← hl];rfl
   simpa using this
  have hl':l=ops.toList.drop (n+1):=by
   have:=congrArg List.tail hl
   simpa using this
  have ih:=fun {t S D}=>OpsW_ok (Q:=Q) hG hl' (t:=t) (S:=S) (D:=D)
  unfold TL
  rw[show ops.size - n=(ops.size - (n+1))+1 by omega,List.range'_succ]
  have key:∀ {t:List PV},(match kV o.op with
   | true=>nG G o.op t S fun p=>gX t o.dst p fun t'=>OpsW G P r ops Q l (n+1) t' S D
   | false=>sA G P r o (TL P r ops (n+1) Q) Q t S D)→TOp P r o (TL P r ops (n+1) Q) Q t S D:=by
   intro t h
   cases hq:kV o.op with
   | true=>
    rw[hq] at h
    intro a w fr m hs next R hn' hR
    exact TOp_pure hG hq h a w fr m hs next R (fun t' S' D' a' w' fr' m' hk=>hn' t' S' D' a' w' fr' m' (ih hk)) hR
   | false=>rw[hq] at h;exact opW_ok hG h
  simp only[OpsW] at h
  cases hgd:o.guard with
  | none=>rw[hgd] at h;exact TO_cons hn hgd (key h)
  | some jb=>
   obtain⟨j,b⟩:=jb
   rw[hgd] at h
   dsimp only at h
   rw[fW] at h
   cases hj:ops.toList[j]? with
   | none=>rw[hj] at h;exact h.elim
   | some oj=>
    rw[hj] at h
    dsimp only at h
    cases hd:oj.dst with
    | none=>rw[hd] at h;exact h.elim
    | some d=>
     rw[hd] at h
     dsimp only at h
     rw[mU] at h
     split at h
     ·rename_i g hv
      refine TO_guard hn hgd (by simpa using hj) hd hv (fun e=>?_) (fun e=>?_)
      ·have h1:=h.1 e
       rw[lG,xF (by rw[hv,e])] at h1
       exact key h1
      ·have h2:=h.2 e
       rw[lG,cD,xF (by rw[hv,e])] at h2
       exact ih h2
     ·rename_i hv
      rw[cD] at h
      exact TO_skip hn hgd (by simpa using hj) hd hv (ih h)
     ·exact h.elim
@[irreducible] def xE (p:Prop):Prop:=p
theorem aU {p:Prop} (h:p):xE p:=by unfold xE;exact h
theorem xE.out {p:Prop} (h:xE p):p:=by unfold xE at h;exact h
def W (G:List TI) (P:Program) (r:Option Nat):Code→bQ→List PV→aD→List DA→Prop
 | .skip,Q,t,S,D=>Q .normal t S D
 | .label _,Q,t,S,D=>Q .normal t S D
 | .exit i,Q,t,S,D=>Q (.exit i) t S D
 | .goto i,Q,t,S,D=>Q (.goto i) t S D
 | .ret,Q,t,S,D=>Q .ret t S D
 | .seq x y,Q,t,S,D=>W G P r x (uA (T P r y Q) Q) t S D
 | .cond c x y,Q,t,S,D=>iP t c fun v=>match v with
  | .bool b=>(b=true→(match c with
    | .tmp d=>zS t d (.bool true) fun t=>T P r x Q t S D
    | _=>T P r x Q t S D))∧(b=false→(match c with
    | .tmp d=>zS t d (.bool false) fun t=>T P r y Q t S D
    | _=>T P r y Q t S D))
  | _=>False
 | .block i c,Q,t,S,D=>W G P r c (blockX i Q) t S D
 | .region _ ops false,Q,t,S,D=>OpsW G P r ops Q ops.toList 0 t S D
 | c,Q,t,S,D=>xE (T P r c Q t S D)
theorem lY (hG:jI P G):∀ {c:Code} {Q:bQ} {t:List PV} {S:aD} {D:List DA},W G P r c Q t S D→T P r c Q t S D
 | .skip,Q,t,S,D,h=>T_skip h
 | .label _,Q,t,S,D,h=>T_label h
 | .exit i,Q,t,S,D,h=>T_exit h
 | .goto i,Q,t,S,D,h=>T_goto h
 | .ret,Q,t,S,D,h=>T_ret h
 | .seq x y,Q,t,S,D,h=>T_seq (lY hG h)
 | .block i c,Q,t,S,D,h=>T_block (lY hG h)
 | .region _ ops false,Q,t,S,D,h=>T_region (by
   have:=OpsW_ok (n:=0) hG (by simp) h
   unfold TL at this
   simpa[List.range_eq_range'] using this)
 | .region _ ops true,Q,t,S,D,h=>xE.out h
 | .loop c,Q,t,S,D,h=>xE.out h
 | .rangeFunc ..,Q,t,S,D,h=>xE.out h
 | .scope c,Q,t,S,D,h=>xE.out h
 | .refuse _,Q,t,S,D,h=>xE.out h
 | .cond c x y,Q,t,S,D,h=>by
  simp only[W] at h
  intro a w fr m hs
  obtain⟨p,hp,hk⟩:=bP hs h
  split at hk
  ·rename_i b
   have hb:a.eval c=.bool b:=by
    generalize a.eval c=v at hp
    cases hp;rfl
   cases b with
   | true=>
    have h1:=hk.1 rfl
    refine wpIn_cond_true hb ?_
    cases c with
    | tmp d=>
     dsimp only at h1
     rw[lG] at h1
     refine h1 a w fr m ⟨hs.rel,by simpa using hs.len,fun i=>?_,hs.dfr⟩
     rw[fU]
     split
     ·rename_i e;rw[e.1];exact (by rw[show a.tmps.getD d undef=.bool true from hb];exact .bool _)
     ·exact hs.tmp i
    | const v=>exact h1 a w fr m hs
    | func f=>exact h1 a w fr m hs
    | global g=>exact h1 a w fr m hs
   | false=>
    have h1:=hk.2 rfl
    refine wpIn_cond_false hb ?_
    cases c with
    | tmp d=>
     dsimp only at h1
     rw[lG] at h1
     refine h1 a w fr m ⟨hs.rel,by simpa using hs.len,fun i=>?_,hs.dfr⟩
     rw[fU]
     split
     ·rename_i e;rw[e.1];exact (by rw[show a.tmps.getD d undef=.bool false from hb];exact .bool _)
     ·exact hs.tmp i
    | const v=>exact h1 a w fr m hs
    | func f=>exact h1 a w fr m hs
    | global g=>exact h1 a w fr m hs
  ·exact hk.elim
theorem zM (hG:jI P G) {ops:Array Oper} {n:Nat} {Q:bQ} {t:List PV} {S:aD} {D:List DA} (h:OpsW G P r ops Q (ops.toList.drop n) n t S D):TL P r ops n Q t S D:=OpsW_ok hG rfl h
def resK (G:List TI) (t:List PV) (S:aD):List ResultVar→(List PV→Prop)→Prop
 | [],k=>k []
 | .tmp d::l,k=>getK t d fun v=>resK G t S l fun vs=>k (v::vs)
 | .cell d ty::l,k=>getK t d fun v=>match v with
  | .ptr g ver i j sz=>ldW S g ver i sz fun c=>xQ G ty c j fun v=>resK G t S l fun vs=>k (v::vs)
  | _=>False
def oneK:List PV→(PV→Prop)→Prop
 | [v],k=>k v
 | vs,k=>k (.tup vs)
def endX (G:List TI) (rs:List ResultVar) (R:iY→aD→Prop):bQ
 | .normal,t,S,D=>D=[]∧resK G t S rs fun vs=>oneK vs fun v=>∃ S',bV S S'∧R (.ret v) S'
 | .ret,t,S,D=>D=[]∧resK G t S rs fun vs=>oneK vs fun v=>∃ S',bV S S'∧R (.ret v) S'
 | .panic p,t,S,D=>D=[]∧∃ S',bV S S'∧R (.pan p) S'
 | _,_,_,_=>False
def lS:List PV→Nat→List PV
 | l,0=>l
 | [],n+1=>.any::lS [] n
 | x::l,n+1=>x::lS l n
theorem xP:∀ (l:List PV) (n:Nat),l.length≤n→(lS l n).length=n
 | l,0,h=>by simp at h;subst h;rfl
 | [],n+1,h=>by simp[lS,xP [] n (by simp)]
 | x::l,n+1,h=>by simp[lS,xP l n (by simpa using h)]
theorem xT:∀ (l:List PV) (n i:Nat),(lS l n).length=n→getT (lS l n) i=if h:i<l.length then l[i] else .any
 | l,0,i,h=>by
  have:l=[]:=by cases l with | nil=>rfl | cons x l=>simp[lS] at h
  subst this;simp[lS,getT]
 | [],n+1,0,h=>by simp[lS,getT]
 | [],n+1,i+1,h=>by
  have:=xT [] n i (by simpa[lS] using h)
  simpa[lS,getT] using this
 | x::l,n+1,0,h=>by simp[lS,getT]
 | x::l,n+1,i+1,h=>by
  have:=xT l n i (by simpa[lS] using h)
  simpa[lS,getT] using this
def resOne (tmps:Array Value):ResultVar→Sem Value
 | .tmp t=>pure (tmps.getD t undef)
 | .cell a t=>do loadVar t (← asAddr (tmps.getD a undef))
theorem results_eq (fn:Func) (tmps:Array Value):results fn tmps=(do let vs ← fn.results.mapM (resOne tmps);pure (if h:vs.size=1 then vs[0] else .tuple vs)):=by
 unfold results
 congr 2
theorem res_ok (hG:jI P G) {a:Act} {w:World} {fr:Nat→Prop} {m:aQ} {t:List PV} {S:aD} {D:List DA} (h:kZ a w fr m t S D):∀ {l:List ResultVar} {k:List PV→Prop},resK G t S l k →
  ∃ vs ps,(l.mapM (resOne a.tmps)).run P w=.ok vs w∧vs.length=ps.length∧(∀ (i:Nat) (h1:i<vs.length) (h2:i<ps.length),Rep w fr m vs[i] ps[i])∧k ps
 | [],k,hk=>⟨[],[],by simp,rfl,fun i h1=>absurd h1 (by simp),hk⟩
 | .tmp d::l,k,hk=>by
  simp only[resK,mU] at hk
  obtain⟨vs,ps,h1,h2,h3,h4⟩:=res_ok hG h hk
  refine⟨a.tmps.getD d undef::vs,_::ps,by simp only[List.mapM_cons,resOne,Sem.run_bind,Sem.run_pure,Result.andThen_ok,h1],by simp[h2],fun i i1 i2=>?_,h4⟩
  cases i with
  | zero=>exact h.tmp d
  | succ i=>exact h3 i (by simpa using i1) (by simpa using i2)
 | .cell d ty::l,k,hk=>by
  simp only[resK,mU] at hk
  have hp:=h.tmp d
  revert hp
  generalize hx:a.tmps.getD d undef=vx
  intro hp
  split at hk
  ·rename_i g ver i j sz he
   rw[he] at hp
   obtain⟨b,rfl,hm⟩:=pU h.rel hp (ld_live hk)
   obtain⟨c,_,hc,hk⟩:=ld_block h.rel (j:=0) hk hm
   obtain⟨v,p,e1,e2,e3⟩:=load_ok (P:=P) hG hc hk
   obtain⟨vs,ps,h1,h2,h3,h4⟩:=res_ok hG h e3
   refine⟨v::vs,p::ps,by simp only[List.mapM_cons,resOne,Sem.run_bind,hx,asAddr,Sem.run_pure,Result.andThen_ok,e1,h1],by simp[h2],fun i i1 i2=>?_,h4⟩
   cases i with
   | zero=>exact e2
   | succ i=>exact h3 i (by simpa using i1) (by simpa using i2)
  ·exact hk.elim
theorem wE (hG:jI P G) {a:Act} {w:World} {fr:Nat→Prop} {m:aQ} {t:List PV} {S:aD} {D:List DA} (h:kZ a w fr m t S D) (fn:Func) {k:PV→Prop} (hk:resK G t S fn.results.toList fun vs=>oneK vs k) :
  ∃ v p,(results fn a.tmps).run P w=.ok v w∧Rep w fr m v p∧k p:=by
 obtain⟨vs,ps,h1,h2,h3,h4⟩:=res_ok (P:=P) hG h hk
 have h5:(results fn a.tmps).run P w=.ok (if h:vs.toArray.size=1 then vs.toArray[0] else .tuple vs.toArray) w:=by
  rw[results_eq,Array.mapM_eq_mapM_toList]
  simp only[Sem.run_bind,Sem.run_map,h1,Result.andThen_ok,Sem.run_pure]
 refine⟨if h:vs.toArray.size=1 then vs.toArray[0] else .tuple vs.toArray,?_⟩
 match ps,h2,h3,h4 with
 | [],h2,h3,h4=>
  have:vs=[]:=by simpa using h2
  subst this
  exact⟨_,h5,.tup _ _ rfl fun i i1=>absurd i1 (by simp),h4⟩
 | [p],h2,h3,h4=>
  match vs,h2 with
  | [v],_=>exact⟨p,h5,h3 0 (by simp) (by simp),h4⟩
 | p::q::ps,h2,h3,h4=>
  refine⟨.tup (p::q::ps),h5,?_,h4⟩
  rw[dif_neg (by simp at h2 ⊢;omega)]
  exact .tup _ _ (by simpa using h2) fun i i1 i2=>by simpa using h3 i (by simpa using i1) i2
theorem aJ (hG:jI P G) {f:Nat} {fn:Func} {c:Code} {args:List PV} {S:aD} {R:iY→aD→Prop} (hf:P.funcs[f]?=some fn) (hb:fn.body=some c) (hn:(fn.name == "runtime.NumGoroutine")=false)
  (hl:Nat.ble args.length fn.ntmps=true) (h:T P none c (endX G fn.results.toList R) (lS args fn.ntmps) S []):Fn P f args S R:=by
 refine⟨⟨fn,hf,hn,by rw[hb];rfl⟩,fun w fr m vs hr ha=>?_⟩
 have hl':args.length≤fn.ntmps:=Nat.le_of_ble_eq_true hl
 have hpl:=xP args fn.ntmps hl'
 refine calls_of_wp hf hb ?_
 have h0:=h { tmps:=vs++Array.replicate (fn.ntmps - vs.size) undef,defers:=[] } w fr m ⟨hr,by simp[hpl,ha.1];omega,fun i=>?_,trivial⟩
 ·have h1:c.wp P (dF w fr m S (endX G fn.results.toList R)) { tmps:=vs++Array.replicate (fn.ntmps - vs.size) undef,defers:=[] } w:=wpIn_wide.1 h0
  refine wp_mono h1 ?_
  rintro e a' w' ⟨x,t',S',D',fr',m',hq,hx,hs,hst⟩
  have hend:∀ {D':List DA},DsR w' fr' m' a'.defers D'→D'=[]→a'.defers=[]:=by
   intro D' hd e
   subst e
   cases hd':a'.defers with
   | nil=>rfl
   | cons d ds=>rw[hd'] at hd;exact hd.elim
  have hret:(D'=[]∧resK G t' S' fn.results.toList fun vs=>oneK vs fun v=>∃ S'',bV S' S''∧R (.ret v) S'')→a'.defers=[]∧∃ v,(results fn a'.tmps).run P w'=.ok v w' ∧
    ∃ o S' fr' m',R o S'∧nQ w' fr' m' (.returned v) o∧RelS w' fr' m' S'∧bZ w fr m S w' fr' m' S':=by
   rintro⟨hD,hk⟩
   obtain⟨v,p,e1,e2,S'',e3,e4⟩:=wE (P:=P) hG hs fn hk
   exact⟨hend hs.dfr hD,v,e1,.ret p,S'',fr',m',e4,e2,hs.rel.weak e3,hst.trans (bZ.weak _ _ _ e3)⟩
  cases e with
  | normal=>have:=hx.normal;subst this;exact hret hq
  | ret=>
   have:x=.ret:=by cases x <;> simp_all [XR]
   subst this;exact hret hq
  | panic ch=>
   cases x with
   | panic p=>
    obtain⟨hD,S'',e3,e4⟩:=hq
    refine⟨hend hs.dfr hD,.pan p,S'',fr',m',e4,?_,hs.rel.weak e3,hst.trans (bZ.weak _ _ _ e3)⟩
    unfold XR at hx
    split at hx
    ·rename_i e1 e2;cases e1
    ·rename_i e1 e2;cases e1
    ·rename_i e1 e2;cases e1
    ·rename_i e1 e2;cases e1
    ·rename_i e1 e2;cases e1;cases e2;exact hx
    ·exact hx.elim
   | normal=>have:=hx.not_normal;cases this
   | exit i=>exact hq.elim
   | goto i=>exact hq.elim
   | ret=>unfold XR at hx;split at hx <;> simp_all
  | exit i=>have:=hx.exit;subst this;exact hq.elim
  | goto i=>
   have:x=.goto i:=by cases x <;> simp_all [XR]
   subst this;exact hq.elim
  | outgrown=>cases x <;> exact (by simpa[XR] using hx:False).elim
 ·rw[xT _ _ _ hpl]
  split
  ·rename_i hi
   have h2:=ha.2 i (by rw[ha.1];exact hi) hi
   have:(vs++Array.replicate (fn.ntmps - vs.size) undef).getD i undef=vs[i]'(by rw[ha.1];exact hi):=by
    rw[Array.getD_eq_getD_getElem?,Array.getElem?_append_left (by rw[ha.1];exact hi),Array.getElem?_eq_getElem (by rw[ha.1];exact hi)]
    rfl
   rw[this];exact h2
  ·exact .any _
end
end Go.Proofs.YtbojdflgjpjbiaaGreat.L
