/- A logic over the machine, and what the functions of the seat come to: part 27. No claim stands here; the theorems are used by the row. -/
import Derived.Test.YtbojdflgjpjbiaaGreatJ19
import Derived.Test.YtbojdflgjpjbiaaGreatJ23
import Derived.Test.YtbojdflgjpjbiaaGreatJ24
import Derived.Test.YtbojdflgjpjbiaaGreatJ25
set_option linter.unusedSimpArgs false
set_option linter.unnecessarySimpa false
set_option linter.unusedVariables false
namespace Go.Proofs.YtbojdflgjpjbiaaGreat.L
open Go
section
variable {w:aW}
theorem cpl_head {l:List ClassI} (h:Hier l) {i:Nat} (hi:i<l.length):∃ t,l[i].cpl=l[i].name::t:=by
 obtain⟨t,h1,_⟩:=uR h.g i (by rw[dP];exact hi) _ (cpl_lin h hi)
 rw[eJ hi] at h1
 exact⟨t,h1⟩
theorem lin_one {g:List bA} (hg:Heirs g) {i k:Nat} {s:ByteArray} (hi:i<g.length) (hs:g[i].2=[s]) (hk:oD g s=some k):iN g i=(iN g k).map (g[i].1 :: ·):=by
 obtain⟨hkl,hn⟩:=rY hk
 rw[lin_eq hg hi,hs]
 simp only[fB,hk]
 cases e:iN g k with
 | none=>rfl
 | some x=>
  obtain⟨t,h1,h2,_⟩:=uR hg k hkl x e
  have hsub:[s].Sublist x:=by
   rw[h1,← hn]
   exact List.cons_sublist_cons.2 (List.nil_sublist _)
  have:=merge_part [x] x [s] (merge_one x h2) hsub
  simp only[Option.map_some]
  rw[this];rfl
theorem cpl_one {l:List ClassI} (h:Hier l) {i k:Nat} {s:ByteArray} (hi:i<l.length) (hk:k<l.length) (hs:l[i].supers=[s]) (hat:mZ l s=some k):l[i].cpl=l[i].name::l[k].cpl:=by
 have h1:=lin_one h.g (i:=i) (k:=k) (s:=s) (by rw[dP];exact hi) (by rw[eJ hi];exact hs) hat
 rw[cpl_lin h hi,cpl_lin h hk,eJ hi] at h1
 simpa using h1
theorem defsOk_at {l:List ClassI}:∀ {cs:List ClassI} {ds:List DefT} {vs:List Int},jB l cs ds vs=true→ds.length=cs.length→vs.length=cs.length→∀ k (h1:k<cs.length) (h2:k<ds.length),defOkB l cs[k] ds[k]=true
 | [],_,_,_,_,_,k,h1,_=>by simp at h1
 | c::cs,[],_,_,hd,_,_,_,_=>by simp at hd
 | c::cs,d::ds,[],_,_,hv,_,_,_=>by simp at hv
 | c::cs,d::ds,v::vs,h,_,_,0,_,_=>by
  simp only[jB,Bool.and_eq_true] at h
  exact h.1.2
 | c::cs,d::ds,v::vs,h,hd,hv,k+1,h1,h2=>by
  simp only[jB,Bool.and_eq_true] at h
  exact defsOk_at h.2 (by simpa using hd) (by simpa using hv) k (by simpa using h1) (by simpa using h2)
structure OkW (w:aW):Prop where
 hd:w.defs.length=w.classes.length
 hv:w.versions.length=w.classes.length
 hl:Hier w.classes
 df:∀ k (h1:k<w.classes.length) (h2:k<w.defs.length),defOkB w.classes w.classes[k] w.defs[k]=true
theorem tM (h:lU w=true):OkW w:=by
 unfold lU at h
 simp only[Bool.and_eq_true,decide_eq_true_eq] at h
 obtain⟨⟨⟨h1,h2⟩,h3⟩,h4⟩:=h
 exact⟨h1,h2,pR h3,defsOk_at h4 h1 h2⟩
theorem OkW.of (o:OkW w) {k:Nat} (h1:k<w.classes.length) (h2:k<w.defs.length):gN w w.classes[k].name=w.defs[k]:=by
 unfold gN
 rw[o.hl.at h1,List.getD_eq_getElem?_getD]
 simp[List.getElem?_eq_getElem h2]
theorem wR (h0:bK w=0) {k:Nat} (hk:k<w.classes.length):cP w w.classes[k].name=0:=by
 unfold cP
 rw[if_neg (by simp[h0]),(tM (dW h0)).hl.at hk]
theorem lC (h0:bK w=0) {k:Nat} (hk:k<w.classes.length):pI w [] w.classes[k].cpl.reverse=some (bR w w.classes[k].name)∧dJ [] (bR w w.classes[k].name)=true∧(bR w w.classes[k].name).length≤64:=by
 obtain⟨out,h1,h2,h3,h4⟩:=wD (dW h0) h0 hk
 have:bR w w.classes[k].name=out:=by unfold bR;rw[pO ((tM (dW h0)).hl.at hk) hk];dsimp only;rw[h4]
 rw[this];exact⟨h1,h2,h3⟩
theorem genS_app:∀ (a b:List ByteArray) (out:List OwnT),pI w out (a++b)=match pI w out a with | some o=>pI w o b | none=>none
 | [],b,out=>rfl
 | n::a,b,out=>by
  simp only[List.cons_append,pI]
  cases pB w.classes (gN w n).name out (gN w n).slots with
  | none=>rfl
  | some o=>exact genS_app a b o
def HasN (out:List OwnT) (n:ByteArray) (o:OwnT):Prop:=∃ k,dD out n=some k∧out[k]?=some o
theorem slotI_set {out:List OwnT} {k:Nat} {x:OwnT} (n:ByteArray) (hk:k<out.length) (h:out[k].slot.name=x.slot.name):dD (out.set k x) n=dD out n:=by
 have e:∀ l:List OwnT,dD l n=(l.map (·.slot.name)).findIdx? fun m=>decide (m=n):=fun l=>by unfold dD;rw[List.findIdx?_map];rfl
 rw[e,e,List.map_set,← h]
 congr 1
 apply List.ext_getElem (by simp)
 intro i h1 h2
 rw[List.getElem_set]
 split
 ·rename_i e2;subst e2;simp
 ·rfl
theorem put_has {l:List ClassI} {out out':List OwnT} {owner:ByteArray} {s:SlotT} (h:nS l out owner s=some out'):HasN out' s.name ⟨s,owner⟩∧∀ n o,s.name≠n→HasN out n o→HasN out' n o:=by
 unfold nS at h
 cases e:dD out s.name with
 | none=>
  rw[e] at h
  cases h
  refine⟨⟨out.length,by rw[uF,e];simp,by simp⟩,fun n o hn ⟨k,h1,h2⟩=>⟨k,by rw[uF,h1],?_⟩⟩
  rw[List.getElem?_append_left (lD h1).1,h2]
 | some k=>
  obtain⟨hk,hkn⟩:=lD e
  rw[e] at h
  dsimp only at h
  rw[List.getElem?_eq_getElem hk] at h
  dsimp only at h
  split at h
  ·cases h
   refine⟨⟨k,by rw[slotI_set _ hk hkn,e],by simp[hk]⟩,fun n o hn ⟨j,h1,h2⟩=>⟨j,by rw[slotI_set _ hk hkn,h1],?_⟩⟩
   have:k≠j:=fun e2=>by
    subst e2
    obtain⟨_,h3⟩:=lD h1
    exact hn (hkn.symm.trans h3)
   rw[List.getElem?_set_ne this,h2]
  ·cases h
theorem sV {l:List ClassI}:∀ {r pre:List SlotT},gQ l pre r=true→∀ s∈r,gW l s=true∧∀ t∈pre,t.name≠s.name
 | [],_,_,s,hs=>by simp at hs
 | s0::r,pre,h,s,hs=>by
  simp only[gQ,Bool.and_eq_true] at h
  obtain⟨⟨h1,h2⟩,h3⟩:=h
  rcases List.mem_cons.1 hs with rfl | hs
  ·refine⟨h1,fun t ht e=>?_⟩
   have:(pre.any fun t=>decide (t.name=s.name))=true:=List.any_eq_true.2 ⟨t,ht,by simp[e]⟩
   rw[this] at h2;cases h2
  ·obtain⟨h4,h5⟩:=sV h3 s hs
   exact⟨h4,fun t ht=>h5 t (by simp[ht])⟩
theorem puts_has {l:List ClassI} {owner:ByteArray}:∀ {r pre:List SlotT} {out out':List OwnT},gQ l pre r=true→pB l owner out r=some out'→(∀ s∈r,HasN out' s.name ⟨s,owner⟩)∧∀ n o,(∀ s∈r,s.name≠n)→HasN out n o→HasN out' n o
 | [],_,out,out',_,h=>by cases h;exact⟨fun s hs=>by simp at hs,fun n o _ h=>h⟩
 | s0::r,pre,out,out',hok,h=>by
  simp only[pB] at h
  cases e:nS l out owner s0 with
  | none=>rw[e] at h;cases h
  | some o1=>
   rw[e] at h
   dsimp only at h
   have hk:=hok
   simp only[gQ,Bool.and_eq_true] at hk
   obtain⟨h1,h2⟩:=put_has e
   obtain⟨h3,h4⟩:=puts_has hk.2 h
   have hne:∀ s∈r,s.name≠s0.name:=fun s hs e2=>(sV hk.2 s hs).2 s0 (by simp) e2.symm
   refine⟨fun s hs=>?_,fun n o hn ho=>h4 n o (fun s hs=>hn s (by simp[hs])) (h2 n o (hn s0 (by simp)) ho)⟩
   rcases List.mem_cons.1 hs with rfl | hs
   ·exact h4 _ _ hne h1
   ·exact h3 s hs
theorem declared_has (h0:bK w=0) {k:Nat} (h1:k<w.classes.length) (h2:k<w.defs.length):∀ s∈w.defs[k].slots,HasN (bR w w.classes[k].name) s.name ⟨s,w.defs[k].name⟩:=by
 have o:=tM (dW h0)
 obtain⟨hg,_,_⟩:=lC h0 h1
 obtain⟨t,ht⟩:=cpl_head o.hl h1
 rw[ht,List.reverse_cons,genS_app] at hg
 cases e:pI w [] t.reverse with
 | none=>rw[e] at hg;cases hg
 | some o1=>
  rw[e] at hg
  simp only[pI,o.of h1 h2] at hg
  cases e2:pB w.classes w.defs[k].name o1 w.defs[k].slots with
  | none=>rw[e2] at hg;cases hg
  | some o2=>
   rw[e2] at hg
   simp only[Option.some.injEq] at hg
   rw[← hg]
   have hdf:=o.df k h1 h2
   unfold defOkB at hdf
   simp only[Bool.and_eq_true] at hdf
   exact (puts_has hdf.2 e2).1
theorem declared_name (h0:bK w=0) {k:Nat} (h1:k<w.classes.length) (h2:k<w.defs.length):w.defs[k].name=w.classes[k].name∧w.defs[k].supers=w.classes[k].supers:=by
 have hdf:=(tM (dW h0)).df k h1 h2
 unfold defOkB at hdf
 simp only[Bool.and_eq_true,decide_eq_true_eq] at hdf
 exact⟨hdf.1.1.1.1.1,hdf.1.1.1.1.2⟩
theorem declared_one (h0:bK w=0) {k:Nat} (h1:k<w.classes.length) (h2:k<w.defs.length) {s:ByteArray} (hs:w.defs[k].supers=[s]) (hn:w.defs[k].slots=[]) :
  cP w s=0∧bR w s=bR w w.classes[k].name:=by
 have o:=tM (dW h0)
 have hsc:w.classes[k].supers=[s]:=by rw[← (declared_name h0 h1 h2).2,hs]
 obtain⟨j,hj,hat⟩:=o.hl.sup h1 (s:=s) (by rw[hsc];simp)
 have hjl:j<w.classes.length:=by omega
 obtain⟨_,hjn⟩:=mF hat
 obtain⟨hg,_,_⟩:=lC h0 h1
 obtain⟨hg2,_,_⟩:=lC h0 hjl
 rw[cpl_one o.hl h1 hjl hsc hat,List.reverse_cons,genS_app,hg2] at hg
 simp only[pI,o.of h1 h2,hn,pB,Option.some.injEq] at hg
 rw[hjn] at hg
 have:=wR h0 hjl
 rw[hjn] at this
 exact⟨this,hg⟩
theorem put_all {l:List ClassI} {P:SlotT→Prop} {out out':List OwnT} {owner:ByteArray} {s:SlotT} (h:nS l out owner s=some out') (hs:P s) (ho:∀ o∈out,P o.slot):∀ o∈out',P o.slot:=by
 unfold nS at h
 cases e:dD out s.name with
 | none=>
  rw[e] at h;cases h
  intro o hm
  rcases List.mem_append.1 hm with hm | hm
  ·exact ho o hm
  ·rw[List.mem_singleton] at hm;subst hm;exact hs
 | some k=>
  obtain⟨hk,hkn⟩:=lD e
  rw[e] at h
  dsimp only at h
  rw[List.getElem?_eq_getElem hk] at h
  dsimp only at h
  split at h
  ·cases h
   intro o hm
   rcases List.mem_or_eq_of_mem_set hm with hm | rfl
   ·exact ho o hm
   ·exact hs
  ·cases h
theorem puts_all {l:List ClassI} {P:SlotT→Prop} {owner:ByteArray}:∀ {r:List SlotT} {out out':List OwnT},pB l owner out r=some out'→(∀ s∈r,P s)→(∀ o∈out,P o.slot)→∀ o∈out',P o.slot
 | [],out,out',h,_,ho=>by cases h;exact ho
 | s::r,out,out',h,hs,ho=>by
  simp only[pB] at h
  cases e:nS l out owner s with
  | none=>rw[e] at h;cases h
  | some o1=>rw[e] at h;exact puts_all h (fun x hx=>hs x (by simp[hx])) (put_all e (hs s (by simp)) ho)
theorem defOf_all {P:SlotT→Prop} (hP:∀ d∈w.defs,∀ s∈d.slots,P s) (n:ByteArray):∀ s∈(gN w n).slots,P s:=by
 unfold gN
 rw[List.getD_eq_getElem?_getD]
 cases e:w.defs[(mZ w.classes n).getD 0]? with
 | none=>intro s hs;simp at hs
 | some d=>exact hP d (List.mem_of_getElem? e)
theorem gen_all {P:SlotT→Prop} (hP:∀ d∈w.defs,∀ s∈d.slots,P s):∀ {r:List ByteArray} {out out':List OwnT},pI w out r=some out'→(∀ o∈out,P o.slot)→∀ o∈out',P o.slot
 | [],out,out',h,ho=>by cases h;exact ho
 | n::r,out,out',h,ho=>by
  simp only[pI] at h
  cases e:pB w.classes (gN w n).name out (gN w n).slots with
  | none=>rw[e] at h;cases h
  | some o1=>rw[e] at h;exact gen_all hP h (puts_all e (defOf_all hP n) ho)
theorem slots_ok (h0:bK w=0) {k:Nat} (hk:k<w.classes.length):∀ o∈bR w w.classes[k].name,gW w.classes o.slot=true:=by
 have o:=tM (dW h0)
 refine gen_all (P:=fun s=>gW w.classes s=true) (fun d hd s hs=>?_) (lC h0 hk).1 (fun o h=>by simp at h)
 obtain⟨j,hj,rfl⟩:=List.getElem_of_mem hd
 have hdf:=o.df j (by rw[← o.hd];exact hj) hj
 unfold defOkB at hdf
 simp only[Bool.and_eq_true] at hdf
 exact (sV hdf.2 s hs).1
def NdS (out:List OwnT):Prop:=(out.map (·.slot.name)).Nodup
theorem put_nd {l:List ClassI} {out out':List OwnT} {owner:ByteArray} {s:SlotT} (h:nS l out owner s=some out') (ho:NdS out):NdS out':=by
 unfold nS at h
 unfold NdS at *
 cases e:dD out s.name with
 | none=>
  rw[e] at h;cases h
  rw[List.map_append,List.nodup_append]
  refine⟨ho,by simp,fun a ha b hb=>?_⟩
  simp only[List.map_cons,List.map_nil,List.mem_singleton] at hb
  subst hb
  obtain⟨o,h1,rfl⟩:=List.mem_map.1 ha
  exact slotI_mem e o h1
 | some k=>
  obtain⟨hk,hkn⟩:=lD e
  rw[e] at h
  dsimp only at h
  rw[List.getElem?_eq_getElem hk] at h
  dsimp only at h
  split at h
  ·cases h
   have:(out.set k ⟨s,owner⟩).map (·.slot.name)=out.map (·.slot.name):=by
    rw[List.map_set]
    apply List.ext_getElem (by simp)
    intro i h1 h2
    rw[List.getElem_set]
    split
    ·rename_i e2;subst e2;simp[hkn]
    ·rfl
   rw[this];exact ho
  ·cases h
theorem puts_nd {l:List ClassI} {owner:ByteArray}:∀ {r:List SlotT} {out out':List OwnT},pB l owner out r=some out'→NdS out→NdS out'
 | [],out,out',h,ho=>by cases h;exact ho
 | s::r,out,out',h,ho=>by
  simp only[pB] at h
  cases e:nS l out owner s with
  | none=>rw[e] at h;cases h
  | some o1=>rw[e] at h;exact puts_nd h (put_nd e ho)
theorem gen_nd:∀ {r:List ByteArray} {out out':List OwnT},pI w out r=some out'→NdS out→NdS out'
 | [],out,out',h,ho=>by cases h;exact ho
 | n::r,out,out',h,ho=>by
  simp only[pI] at h
  cases e:pB w.classes (gN w n).name out (gN w n).slots with
  | none=>rw[e] at h;cases h
  | some o1=>rw[e] at h;exact gen_nd h (puts_nd e ho)
theorem slots_nd (h0:bK w=0) {k:Nat} (hk:k<w.classes.length):NdS (bR w w.classes[k].name):=gen_nd (lC h0 hk).1 (by unfold NdS;simp)
theorem slotI_at {out:List OwnT} (h:NdS out) {i:Nat} (hi:i<out.length):dD out out[i].slot.name=some i:=by
 unfold dD
 rw[List.findIdx?_eq_some_iff_getElem]
 refine⟨hi,by simp,fun j hj=>?_⟩
 unfold NdS at h
 rw[List.nodup_iff_pairwise_ne,List.pairwise_iff_getElem] at h
 have:=h j i (by simp;omega) (by simpa using hi) hj
 simpa using this
def holdB (n:ByteArray) (o:OwnT):ByteArray:=if o.slot.alloc=2 then o.owner else if o.slot.alloc=3 then n else qZ
theorem shared_at {n s:ByteArray} (hf:cP w n=0):oB w n s=match dD (bR w n) s with
  | some k=>(match (bR w n)[k]? with | some o=>(holdB n o,0) | none=>(qZ,0))
  | none=>(qZ,3):=by
 unfold oB
 rw[if_neg (by simp[hf])]
 cases dD (bR w n) s with
 | none=>rfl
 | some k=>
  dsimp only
  cases (bR w n)[k]? with
  | none=>rfl
  | some o=>
   dsimp only
   unfold holdB
   split
   ·rfl
   ·split <;> rfl
theorem keysOk_nd:∀ {out:List OwnT} {pre:List ByteArray},dJ pre out=true→(∀ o∈out,o.slot.key≠qZ→o.slot.key∉pre)∧∀ i j (hi:i<out.length) (hj:j<out.length),out[i].slot.key≠qZ→out[i].slot.key=out[j].slot.key→i=j
 | [],_,_=>⟨fun o h=>by simp at h,fun i j hi=>by simp at hi⟩
 | o::r,pre,h=>by
  simp only[dJ,Bool.and_eq_true] at h
  obtain⟨h1,h2⟩:=keysOk_nd h.2
  have h0:o.slot.key≠qZ→o.slot.key∉pre:=fun hn hm=>by
   have h3:=h.1
   have:(pre.any fun k=>decide (k=o.slot.key))=true:=List.any_eq_true.2 ⟨_,hm,by simp⟩
   rw[this] at h3
   simp[hn] at h3
  refine⟨fun x hx hn=>?_,fun i j hi hj hn e=>?_⟩
  ·rcases List.mem_cons.1 hx with rfl | hx
   ·exact h0 hn
   ·exact fun hm=>h1 x hx hn (by simp[hm])
  ·cases i with
   | zero=>cases j with
    | zero=>rfl
    | succ j=>
     simp only[List.getElem_cons_zero,List.getElem_cons_succ] at e hn
     exact absurd (by simp[e]) (h1 (r[j]'(by simpa using hj)) (List.getElem_mem _) (by rw[← e];exact hn))
   | succ i=>cases j with
    | zero=>
     simp only[List.getElem_cons_zero,List.getElem_cons_succ] at e hn
     exact absurd (by simp[e]) (h1 (r[i]'(by simpa using hi)) (List.getElem_mem _) hn)
    | succ j=>
     simp only[List.getElem_cons_succ] at e hn
     have:=h2 i j (by simpa using hi) (by simpa using hj) hn e
     omega
theorem uQ {keys:List ByteArray} {s:SlotT} (h:0≤keyF keys s):s.key≠qZ∧∃ i,∃ hi:i<keys.length,keyF keys s=(i:Nat)∧keys[i]=s.key∧cQ (nL s.key) keys=(i:Nat):=by
 unfold keyF at h ⊢
 by_cases e:s.key=qZ
 ·rw[if_pos e] at h;omega
 ·rw[if_neg e] at h ⊢
  refine⟨e,?_⟩
  rcases fJ (nL s.key) keys with ⟨h1,_⟩ | ⟨i,hi,h1,h2,_⟩
  ·rw[h1] at h;omega
  ·exact⟨i,hi,h1,(by simpa[nL] using h2:s.key=keys[i]).symm,h1⟩
end
section
set_option maxRecDepth 100000
def uO:ByteArray:=⟨#[60,112,111,105,110,116,62,64,97]⟩
def fF:ByteArray:=⟨#[60,112,105,120,101,108,62,64,97]⟩
def nmXa:ByteArray:=⟨#[120,64,97]⟩
def nmYa:ByteArray:=⟨#[121,64,97]⟩
def nmX:ByteArray:=⟨#[120]⟩
def nmY:ByteArray:=⟨#[121]⟩
def nmA:ByteArray:=⟨#[97]⟩
def nmAll:ByteArray:=⟨#[97,108,108,64,97]⟩
def numE:Ex:=.mk 1 qZ 0 (.mk 0 qZ 0 0 []) [] [] []
def nP:DefT:=⟨uO,[aP],[⟨nmXa,classT cS,nmX,1,[numE]⟩,⟨nmYa,classT cS,nmY,1,[]⟩],false,false⟩
def nR:DefT:=⟨fF,[uO],[⟨nmXa,.mk 2 qZ 0 9 [],nmX,1,[]⟩,⟨nmAll,classT aP,qZ,2,[]⟩],false,false⟩
def infoOf (d:DefT) (cpl:List ByteArray):ClassI:=⟨d.name,nmA,d.supers,cpl,false,false⟩
def exPoint:ClassI:=infoOf nP [uO,aP]
def exPixel:ClassI:=infoOf nR [fF,uO,aP]
def qF:List ClassI:=baseL++[exPoint,exPixel]
def defC (c:ClassI):DefT:=⟨c.name,c.supers,[],c.abs,c.sealed⟩
def uZ:aW:=⟨qF,baseL.map defC++[nP,nR],List.replicate 13 0,[],[],[],0⟩
theorem checked_ex:bK uZ=0:=by decide +kernel
theorem found_ex:cP uZ fF=0:=by decide +kernel
theorem slots_ex:(bR uZ fF).length=3:=by decide +kernel
theorem slot_ex:((bR uZ fF)[1]?.map (·.owner))=some uO:=by decide +kernel
theorem plan_ex:(iD uZ fF [nmY]).2=0∧(iD uZ fF [nmY]).1.map (·.key)=[-1,0,-1]:=by decide +kernel
theorem plan_ex2:(iD uZ aP []).2=92:=by decide +kernel
theorem find_ex:findV uZ fF nmAll=(2,0):=by decide +kernel
theorem mac_ex:rF uZ:=by
 intro d hd s hs
 have:d∈baseL.map defC∨d=nP∨d=nR:=by simpa[uZ] using hd
 rcases this with h | rfl | rfl
 ·obtain⟨c,_,rfl⟩:=List.mem_map.1 h
  simp[defC] at hs
 all_goals
  simp only[nP,nR,List.mem_cons,List.not_mem_nil,or_false] at hs
  rcases hs with rfl | rfl <;> exact⟨by decide,by simp only[classT,kH,numBs];decide⟩
end
section
attribute [local irreducible] T TL
set_option maxRecDepth 10000
set_option maxHeartbeats 1000000
theorem tA_nil:tA []=[]:=by rw[nX];rfl
theorem xA_nil:xA []=[]:=by rw[xA_eq];rfl
theorem nil64:NilV .nils (.list 64 (tA [])):=by rw[tA_nil];exact .nils 64
theorem nil168:NilV .nils (.list 168 (xA [])):=by rw[xA_nil];exact .nils 168
theorem classLaw_spec (n:ByteArray):FnP PP 141 [.str n] (TV (classT n)):=by
 refine cL (aJ aI Tryz.func141 rfl (by rfl) (by rfl) ?_)
 refine aF ?_;intros
 refine aG fun b hb=>?_
 refine aF ?_;intros
 exact⟨E,aM _,aO.nilv (q:=TV (classT n)) (nilA ⟨.same _,.same _,.same _,.same _,nil64,trivial⟩) (aO.same ⟨rfl,rfl⟩)⟩
instance (n:ByteArray):cH 141 [.str n] (TV (classT n)):=⟨classLaw_spec n⟩
theorem point_spec:FnP PP 99 [] (.agg (eD nP)):=by
 refine cL (aJ aI Tryz.func99 rfl (by rfl) (by rfl) ?_)
 refine aF ?_;intros
 refine aG fun b hb=>?_
 refine aF ?_;intros
 refine .inl ?_
 refine aF ?_;intros
 refine⟨E,aM _,aO.nilv (q:=.agg (eD nP)) (nilA ⟨.same _,.same _,?_,.same _,.same _,trivial⟩) (aO.same ⟨rfl,rfl⟩)⟩
 exact rA (q:=wN ⟨nmXa,classT cS,nmX,1,[numE]⟩) ⟨.same _,.same _,.same _,.same _,.same _,.same _,.same _,.same _,
   rA (q:=eX numE) ⟨.same _,.same _,.same _,.same _,.same _,.same _,.same _,nil64,.nils 80,.nils 16,nil168,trivial⟩ (.same (.list 168 [])),trivial⟩
  (rA (q:=wN ⟨nmYa,classT cS,nmY,1,[]⟩) ⟨.same _,.same _,.same _,.same _,.same _,.same _,.same _,.same _,.nils 168,trivial⟩ (.same (.list 128 [])))
instance:cH 99 [] (.agg (eD nP)):=⟨point_spec⟩
theorem pixel_spec:FnP PP 100 [] (.agg (eD nR)):=by
 refine cL (aJ aI Tryz.func100 rfl (by rfl) (by rfl) ?_)
 refine aF ?_;intros
 refine aG fun b hb=>?_
 refine aF ?_;intros
 refine .inl ?_
 refine aF ?_;intros
 refine⟨E,aM _,aO.nilv (q:=.agg (eD nR)) (nilA ⟨.same _,.same _,?_,.same _,.same _,trivial⟩) (aO.same ⟨rfl,rfl⟩)⟩
 exact rA (q:=wN ⟨nmXa,.mk 2 qZ 0 9 [],nmX,1,[]⟩) ⟨.same _,.same _,.same _,.same _,.same _,nil64,.same _,.same _,.nils 168,trivial⟩
  (rA (q:=wN ⟨nmAll,classT aP,qZ,2,[]⟩) ⟨.same _,.same _,.same _,.same _,.same _,.same _,.same _,.same _,.nils 168,trivial⟩ (.same (.list 128 [])))
instance:cH 100 [] (.agg (eD nR)):=⟨pixel_spec⟩
end
section
attribute [local irreducible] T TL
set_option maxRecDepth 10000
set_option maxHeartbeats 1000000
abbrev wC (h:List ClassI) (ds vs:PV):List PV:=[CS h,ds,vs,.nils,.nils,.nils,.int .i64 0]
def bs13 (b0:Nat) (b:Nat) (ds:List DefT) (i:Nat):List PV:=
 [.ptr b0 0 0 0 7,.ptr b 0 0 0 7,.any,.any,DS ds,.int .i64 i,.any,.any,.any,.any,.any,.any,.any,.any,.any,.any,.any,.any,.any,.any,.any,.any,.any,.any,.any,.any,.any,.any,.any,.any,.any,.any,.any,.any,.any,.any,.any,.any,.any,.any,.any,.any,.any,.any,.any,.any,.any,.any,.any,.any,.any,.any,.any,.any,.any,.any,.any,.any,.any,.any,.any,.any,.any,.any,.any,.any,.any,.any,.any,.any,.any,.any,.any,.any,.any,.any,.any,.any,.any,.any,.any,.any,.any,.any,.any,.any,.any]
def tm13 (b0:Nat) (b g v n:Nat) (ds:List DefT) (i:Nat) (x:DefT) (d:Nat→Bool) (_:Unit):List PV:=
 [.ptr b0 0 0 0 7,.ptr b 0 0 0 7,.any,.any,DS ds,.int .i64 i,.any,.any,.any,.any,.any,.any,.any,.any,.any,.any,.any,.any,.any,.any,.any,.any,.any,.any,.any,.any,.any,.any,.any,.any,.any,.any,.any,.any,.any,.any,.any,.any,.any,.any,.any,.any,.any,.any,.any,.any,.any,.any,.any,.any,.any,.any,.any,.any,.any,.any,.any,.any,.any,.any,.any,.any,.any,.any,.any,vC (d 0) (.ptr b 0 0 1 7),vC (d 1) (.row g v 0 n 5),vC (d 2) (DS ds),vC (d 3) (.int .i64 i),vC (d 4) (.fptr (eD x) 0),vC (d 5) (.agg (eD x)),vC (d 6) (.list 72 [eD x]),vC (d 7) (.row g (v+1) 0 (n+1) 5),vC (d 8) (.ptr b 0 0 1 7),.any,.any,.any,.any,.any,.any,.any,.any,.any,.any,.any,.any,.any]
def st13 (h:List ClassI) (b g v n:Nat) (X:List (List PV)) (x:DefT) (Z:aD) (d:Nat→Bool) (_:Unit):aD:=match d 9 with
 | true=>aK (aK Z g (.row (v+1) 5 72 (X++[eD x]))) b (.row 0 7 0 [wC h (.row g (v+1) 0 (n+1) 5) .nils])
 | false=>match d 7 with
  | true=>aK Z g (.row (v+1) 5 72 (X++[eD x]))
  | false=>Z
theorem region13 (b0:Nat) (h:List ClassI) (b g v n:Nat) (hn:n≤100) (X:List (List PV)) (hX:X.length=n) (ds:List DefT) (i:Nat) (hi:i<ds.length) (Z:aD) (kb:Z b=some (.row 0 7 0 [wC h (.row g v 0 n 5) .nils]))
  (kg:Z g=some (.row v 5 72 X)) (hne:g≠b) {Q:bQ}
  (hJ:∀ t,yH t (bs13 b0 b ds i)→Q .normal t (aK (aK Z g (.row (v+1) 5 72 (X++[eD ds[i]]))) b (.row 0 7 0 [wC h (.row g (v+1) 0 (n+1) 5) .nils])) []) :
  T PP none (rgn Tryz.f51 13) Q (bs13 b0 b ds i) Z []:=by
 have mds:(ds.map eD).length=ds.length:=List.length_map _
 refine T_drawI (X:=Unit) aI (by rfl) (by kernel_rfl) (tm13 b0 b g v n ds i ds[i]) (st13 h b g v n X ds[i] Z) (fun _ _=>True) () trivial (aZ _) (aB _) ?_ ?_
 ·intro d u hok cl k hk hdk hdep
  clear hok
  have hk:k<10:=hk
  obtain⟨vds,kbx⟩:∃ vds,st13 h b g v n X ds[i] Z d u b=some (.row 0 7 0 [wC h vds .nils]):=by
   unfold st13
   cases e9:d 9 with
   | true=>exact⟨_,aA _ _ _⟩
   | false=>cases e7:d 7 with
    | true=>
     refine⟨.row g v 0 n 5,?_⟩
     show aK Z g _ b=_
     rw[aC (Ne.symm hne)];exact kb
    | false=>exact⟨_,kb⟩
  obtain rfl | rfl | rfl | rfl | rfl | rfl | rfl | rfl | rfl | rfl:k=0∨k=1∨k=2∨k=3∨k=4∨k=5∨k=6∨k=7∨k=8∨k=9:=by omega
  ·clear cl hdep
   refine aF ?_;intros
   exact⟨(),trivial,aZ _,aB _⟩
  ·obtain⟨d,rfl⟩:=fY (d:=d) (i:=7) (kK cl (j:=7) (k:=1) (by kernel_rfl) hdk)
   obtain⟨d,rfl⟩:=fY (d:=d) (i:=9) (kK cl (j:=9) (k:=7) (by kernel_rfl) rfl)
   obtain⟨d,rfl⟩:=cA (d:=d) (i:=0) (hdep 0 (by kernel_rfl))
   clear cl hdep kbx
   show OpI _ _ _ _ _ _ _ _ Z _
   refine aF ?_;intros
   exact⟨(),trivial,aZ _,aB _⟩
  ·clear cl hdep
   refine aF ?_;intros
   exact⟨(),trivial,aZ _,aB _⟩
  ·clear cl hdep
   refine aF ?_;intros
   exact⟨(),trivial,aZ _,aB _⟩
  ·obtain⟨d,rfl⟩:=cA (d:=d) (i:=2) (hdep 2 (by kernel_rfl))
   obtain⟨d,rfl⟩:=cA (d:=d) (i:=3) (hdep 3 (by kernel_rfl))
   clear cl hdep
   refine aF ?_;intros
   exact⟨(),trivial,aZ _,aB _⟩
  ·obtain⟨d,rfl⟩:=cA (d:=d) (i:=4) (hdep 4 (by kernel_rfl))
   clear cl hdep
   refine aF ?_;intros
   exact⟨(),trivial,aZ _,aB _⟩
  ·obtain⟨d,rfl⟩:=cA (d:=d) (i:=5) (hdep 5 (by kernel_rfl))
   clear cl hdep
   refine aF ?_;intros
   exact⟨(),trivial,aZ _,aB _⟩
  ·obtain⟨d,rfl⟩:=fY (d:=d) (i:=9) (kK cl (j:=9) (k:=7) (by kernel_rfl) hdk)
   obtain⟨d,rfl⟩:=fY (d:=d) (i:=7) hdk
   obtain⟨d,rfl⟩:=cA (d:=d) (i:=1) (hdep 1 (by kernel_rfl))
   obtain⟨d,rfl⟩:=cA (d:=d) (i:=6) (hdep 6 (by kernel_rfl))
   clear cl hdep kbx
   show OpI _ _ _ _ _ _ _ _ Z _
   refine aF ?_;intros
   refine And.intro hX (And.intro rfl (And.intro (show (n+1)*72≤140737488355328 by omega) ?_))
   rw[cD]
   exact⟨rfl,(),trivial,aZ _,aB _⟩
  ·clear cl hdep
   refine aF ?_;intros
   exact⟨(),trivial,aZ _,aB _⟩
  ·obtain⟨d,rfl⟩:=fY (d:=d) (i:=9) hdk
   obtain⟨d,rfl⟩:=cA (d:=d) (i:=7) (hdep 7 (by kernel_rfl))
   obtain⟨d,rfl⟩:=cA (d:=d) (i:=8) (hdep 8 (by kernel_rfl))
   have kb':aK Z g (.row (v+1) 5 72 (X++[eD ds[i]])) b=some (.row 0 7 0 [wC h (.row g v 0 n 5) .nils]):=by rw[aC (Ne.symm hne)];exact kb
   clear cl hdep kbx
   show OpI _ _ _ _ _ _ _ _ (aK Z g (.row (v+1) 5 72 (X++[eD ds[i]]))) _
   refine aF ?_;intros
   exact⟨(),trivial,aZ _,aB _⟩
 ·intro d u hok hall
  have hs:st13 h b g v n X ds[i] Z d u=aK (aK Z g (.row (v+1) 5 72 (X++[eD ds[i]]))) b (.row 0 7 0 [wC h (.row g (v+1) 0 (n+1) 5) .nils]):=by unfold st13;rw[hall 9 (by decide)]
  rw[hs]
  refine hJ _ ?_
  repeat' (first | exact trivial | exact rfl | refine And.intro ?_ ?_)
end
section
attribute [local irreducible] T TL
set_option maxRecDepth 10000
set_option maxHeartbeats 1000000
def eD0 (c:ClassI):List PV:=[.str c.name,LS c.supers,.nils,.bool c.abs,.bool c.sealed]
def exX:List (List PV):=baseL.map eD0++[eD nP,eD nR]
def t14 (b0 b1:Nat):List PV:=
 [.ptr b0 0 0 0 7,.ptr b1 0 0 0 7,.any,.any,.any,.any,.any,.any,.any,.any,.any,.any,.any,.any,.any,.any,.any,.any,.any,.any,.any,.any,.any,.any,.any,.any,.any,.any,.any,.any,.any,.any,.any,.any,.any,.any,.any,.any,.any,.any,.any,.any,.any,.any,.any,.any,.any,.any,.any,.any,.any,.any,.any,.any,.any,.any,.any,.any,.any,.any,.any,.any,.any,.any,.any,.any,.any,.any,.any,.any,.any,.any,.any,.any,.any,.any,.any,.any,.any,.any,.any,.any,.any,.any,.any,.any,.any]
def t14k (b0 b1 k:Nat):List PV:=
 [.ptr b0 0 0 0 7,.ptr b1 0 0 0 7,.any,.any,.any,.any,.any,.any,.int .i64 k,.any,.any,.any,.any,.any,.any,.any,.any,.any,.any,.any,.any,.any,.any,.any,.any,.any,.any,.any,.any,.any,.any,.any,.any,.any,.any,.any,.any,.any,.any,.any,.any,.any,.any,.any,.any,.any,.any,.any,.any,.any,.any,.any,.any,.any,.any,.any,.any,.any,.any,.any,.any,.any,.any,.any,.any,.any,.any,.any,.any,.any,.any,.any,.any,.any,.any,.any,.any,.any,.any,.any,.any,.any,.any,.any,.any,.any,.any]
abbrev R51:iY→aD→Prop:=fun o S'=>aO o S' fun o S'=>o=.ret (WV uZ)∧S'=E
theorem nilMap {α:Type} {e:Nat} {f g:α→List PV} {r:List (List PV)}:∀ l:List α,(∀ x∈l,aAc (f x) (g x))→NilV (.list e (l.map f++r)) (.list e (l.map g++r))
 | [],_=>.same _
 | x::l,h=>rA (h x (by simp)) (nilMap l fun y hy=>h y (by simp[hy]))
theorem nilDefs:NilV (.list 72 exX) (DS uZ.defs):=
 nilMap (f:=eD0) (g:=fun c=>eD (defC c)) (r:=[eD nP,eD nR]) baseL fun c _=>⟨.same _,.same _,.nils 128,.same _,.same _,trivial⟩
theorem tail51 (b0 b1 gd vd:Nat) (Z:aD) (k0:Z b0=some (.row 0 7 0 [(aH GT 28).zero])) (k1:Z b1=some (.row 0 7 0 [wC qF (.row gd vd 0 13 5) .nils])) (kg:Z gd=some (.row vd 5 72 exX)) :
  T PP none (rst Tryz.f51 14) (endX GT Tryz.f51.results.toList R51) (t14 b0 b1) Z []:=by
 have n01:b0≠b1:=bH k0 k1 (by intro h;cases h)
 have n1g:b1≠gd:=bH k1 kg (by intro h;cases h)
 have n0g:b0≠gd:=bH k0 kg (by intro h;cases h)
 refine mK 0 2 1 8 k1 rfl rfl fun gv hgv=>?_
 have n0v:=aL k0 hgv
 have n1v:=aL k1 hgv
 have ngv:=aL kg hgv
 let st:Nat→aD:=fun k=>aK (aK Z gv (.row k 1 8 (List.replicate k [.int .i64 0]))) b1 (.row 0 7 0 [wC qF (.row gd vd 0 13 5) (.row gv k 0 k 1)])
 have hs:∀ k,st k b1=some (.row 0 7 0 [wC qF (.row gd vd 0 13 5) (.row gv k 0 k 1)])∧st k gv=some (.row k 1 8 (List.replicate k [.int .i64 0]))∧st k gd=some (.row vd 5 72 exX)∧st k b0=some (.row 0 7 0 [(aH GT 28).zero]):=fun k=>
  ⟨aA _ _ _,by show aK _ b1 _ gv=_;rw[aC n1v,aA],by show aK _ b1 _ gd=_;rw[aC n1g.symm,aC ngv.symm];exact kg,by show aK _ b1 _ b0=_;rw[aC n01,aC n0v.symm];exact k0⟩
 have mE:(qF.map eC).length=13:=rfl
 refine nO ?_;intros
 refine T.weak (t':=t14 b0 b1) (S':=st 0) ?_ (aZ _) (aB _)
 obtain⟨j1,jv,jd,j0⟩:=hs 0
 generalize hY:st 0=Y at j1 jv jd j0 ⊢
 refine aF ?_;intros
 refine aU (aY (α:=Nat) (inv:=fun k=>k≤13) (tm:=fun k=>t14k b0 b1 k) (st:=st) (μ:=fun k=>13 - k) 0 (by omega) ?_ (by rw[← hY];exact aB _) ?_)
 ·repeat' (first | exact trivial | exact rfl | refine And.intro ?_ ?_)
 clear hY j1 jv jd j0 Y
 intro k hk
 obtain⟨j1,jv,jd,j0⟩:=hs k
 have hrep:(List.replicate k ([.int .i64 0]:List PV)).length=k:=List.length_replicate
 have hnext:aK (aK (st k) gv (.row (k+1) 1 8 (List.replicate k [.int .i64 0]++[[.int .i64 0]]))) b1 (.row 0 7 0 [wC qF (.row gd vd 0 13 5) (.row gv (k+1) 0 (k+1) 1)])=st (k+1):=by
  rw[← List.replicate_succ']
  show aK (aK (aK (aK Z gv _) b1 _) gv _) b1 _=_
  rw[upd_comm (S:=aK Z gv _) n1v.symm,aN,aN]
 have hfin:k=13→st k=st 13:=fun h=>by rw[h]
 generalize hY:st k=Y at j1 jv jd j0 hnext ⊢
 refine aF ?_;intros
 refine fC (fun hc=>?_) (fun hc=>?_)
 ·have hk13:k<13:=by omega
  refine aF ?_;intros
  refine And.intro hrep (And.intro rfl (And.intro (show (k+1)*8≤140737488355328 by omega) ?_))
  have j1':aK Y gv (.row (k+1) 1 8 (List.replicate k [.int .i64 0]++[[.int .i64 0]])) b1=some (.row 0 7 0 [wC qF (.row gd vd 0 13 5) (.row gv k 0 k 1)]):=by rw[aC n1v.symm];exact j1
  refine aF ?_;intros
  refine⟨k+1,by omega,by omega,by repeat' (first | exact trivial | exact rfl | refine And.intro ?_ ?_),?_⟩
  rw[← hnext];exact aB _
 ·have hk13:k=13:=by omega
  subst hk13
  refine aF ?_;intros
  refine⟨aK (aK E gd (.row vd 5 72 exX)) gv (.row 13 1 8 (List.replicate 13 [.int .i64 0])),?_,?_⟩
  ·intro x y hx
   by_cases e:x=gv
   ·subst e;rw[aA] at hx;rw[aC n0v,← hx];exact jv
   ·rw[aC e] at hx
    by_cases e2:x=gd
    ·subst e2;rw[aA] at hx;rw[aC n0g.symm,← hx];exact jd
    ·rw[aC e2] at hx;cases hx
  ·refine aO.freeze (g:=gd) (q:=.agg [CS qF,.list 72 exX,.row gv 13 0 13 1,.nils,.nils,.nils,.int .i64 0]) (by rw[aC ngv.symm,aA]) (fzA ⟨.same _,eQ rfl,.same _,.same _,.same _,.same _,.same _,trivial⟩) ?_
   refine aO.freeze (g:=gv) (q:=.agg [CS qF,.list 72 exX,IS uZ.versions,.nils,.nils,.nils,.int .i64 0]) (ver:=13) (sz:=1) (e:=8) (xs:=List.replicate 13 [.int .i64 0]) (by unfold iZ;rw[if_neg ngv,aA]) (fzA ⟨.same _,.same _,eQ rfl,.same _,.same _,.same _,.same _,trivial⟩) ?_
   exact aO.nilv (q:=WV uZ) (nilA ⟨.same _,nilDefs,.same _,.nils 96,.nils 16,.nils 16,.same _,trivial⟩) (aO.weak (aM _) (aO.same ⟨rfl,rfl⟩))
end
section
attribute [local irreducible] T TL
set_option maxRecDepth 100000
set_option maxHeartbeats 1000000
def exD:List DefT:=[nP,nR]
def exH (i:Nat):List ClassI:=baseL++([exPoint,exPixel]).take i
theorem add_ex0:zY (exH 0) ⟨nP.name,nmA,nP.supers,[],false,false⟩=(exH 1,0):=by decide +kernel
theorem add_ex1:zY (exH 1) ⟨nR.name,nmA,nR.supers,[],false,false⟩=(exH 2,0):=by decide +kernel
theorem add_ex (i:Nat) (hi:i<exD.length):zY (exH i) ⟨exD[i].name,nmA,exD[i].supers,[],false,false⟩=(exH (i+1),0):=by
 have:exD.length=2:=rfl
 obtain rfl | rfl:i=0∨i=1:=by omega
 ·exact add_ex0
 ·exact add_ex1
theorem addN_spec (i:Nat) (hi:i<exD.length):FnP PP 101 [CS (exH i),.agg [.str exD[i].name,.str ⟨#[97]⟩,LS exD[i].supers,.nils,.bool false,.bool false]] (.tup [CS (exH (i+1)),.int .i64 0]):=by
 have h:=add_spec (exH i) ⟨exD[i].name,nmA,exD[i].supers,[],false,false⟩
 rw[add_ex i hi] at h
 exact Fn_nil h ⟨.same _,nilA ⟨.same _,.same _,.same _,.nils 16,.same _,.same _,trivial⟩,trivial⟩
def t8 (b0 b1:Nat):List PV:=
 [.ptr b0 0 0 0 7,.ptr b1 0 0 0 7,.any,.any,DS exD,.any,.any,.any,.any,.any,.any,.any,.any,.any,.any,.any,.any,.any,.any,.any,.any,.any,.any,.any,.any,.any,.any,.any,.any,.any,.any,.any,.any,.any,.any,.any,.any,.any,.any,.any,.any,.any,.any,.any,.any,.any,.any,.any,.any,.any,.any,.any,.any,.any,.any,.any,.any,.any,.any,.any,.any,.any,.any,.any,.any,.any,.any,.any,.any,.any,.any,.any,.any,.any,.any,.any,.any,.any,.any,.any,.any,.any,.any,.any,.any,.any,.any]
def t8i (b0 b1 i:Nat):List PV:=
 [.ptr b0 0 0 0 7,.ptr b1 0 0 0 7,.any,.any,DS exD,.int .i64 i,.any,.any,.any,.any,.any,.any,.any,.any,.any,.any,.any,.any,.any,.any,.any,.any,.any,.any,.any,.any,.any,.any,.any,.any,.any,.any,.any,.any,.any,.any,.any,.any,.any,.any,.any,.any,.any,.any,.any,.any,.any,.any,.any,.any,.any,.any,.any,.any,.any,.any,.any,.any,.any,.any,.any,.any,.any,.any,.any,.any,.any,.any,.any,.any,.any,.any,.any,.any,.any,.any,.any,.any,.any,.any,.any,.any,.any,.any,.any,.any,.any]
theorem mid51 (b0 b1 gd:Nat) (Z:aD) (k0:Z b0=some (.row 0 7 0 [(aH GT 28).zero])) (k1:Z b1=some (.row 0 7 0 [wC baseL (.row gd 11 0 11 5) .nils])) (kg:Z gd=some (.row 11 5 72 (baseL.map eD0))) :
  T PP none (rst Tryz.f51 8) (endX GT Tryz.f51.results.toList R51) (t8 b0 b1) Z []:=by
 have n01:b0≠b1:=bH k0 k1 (by intro h;cases h)
 have n1g:b1≠gd:=bH k1 kg (by intro h;cases h)
 have n0g:b0≠gd:=bH k0 kg (by intro h;cases h)
 let X:Nat→List (List PV):=fun i=>baseL.map eD0++(exD.take i).map eD
 let st:Nat→aD:=fun i=>aK (aK Z gd (.row (11+i) 5 72 (X i))) b1 (.row 0 7 0 [wC (exH i) (.row gd (11+i) 0 (11+i) 5) .nils])
 have hs:∀ i,st i b1=some (.row 0 7 0 [wC (exH i) (.row gd (11+i) 0 (11+i) 5) .nils])∧st i gd=some (.row (11+i) 5 72 (X i))∧st i b0=some (.row 0 7 0 [(aH GT 28).zero]):=fun i=>
  ⟨aA _ _ _,by show aK _ b1 _ gd=_;rw[aC n1g.symm,aA],by show aK _ b1 _ b0=_;rw[aC n01,aC n0g];exact k0⟩
 have h2:exD.length=2:=rfl
 have hX:∀ i,i≤2→(X i).length=11+i:=fun i hi=>by
  obtain rfl | rfl | rfl:i=0∨i=1∨i=2:=by omega
  all_goals rfl
 have m4:(exD.map eD).length=2:=rfl
 refine aF ?_;intros
 refine aU (aY (α:=Nat) (inv:=fun i=>i≤2) (tm:=fun i=>t8i b0 b1 i) (st:=st) (μ:=fun i=>2 - i) 0 (by omega) ?_ ?_ ?_)
 ·repeat' (first | exact trivial | exact rfl | refine And.intro ?_ ?_)
 ·intro x y hx
  by_cases e:x=b1
  ·subst e
   have:=(hs 0).1
   rw[this] at hx;rw[← hx];exact k1
  ·have e3:st 0 x=aK Z gd (.row 11 5 72 (X 0)) x:=aC e
   rw[e3] at hx
   by_cases e2:x=gd
   ·subst e2;rw[aA] at hx;rw[← hx];exact kg
   ·rw[aC e2] at hx;exact hx
 intro i hi
 obtain⟨j1,jg,j0⟩:=hs i
 have hXi:=hX i hi
 have hlast:i=2→X i=exX∧exH i=qF:=fun h=>by subst h;exact⟨rfl,rfl⟩
 refine aF ?_;intros
 refine fC (fun hc=>?_) (fun hc=>?_)
 ·have hi2:i<exD.length:=by omega
  haveI:=cH.mk (addN_spec i hi2)
  have hnext:∀ W,bV (aK (aK (aK (aK Z gd (.row (11+i) 5 72 (X i))) b1 W) gd (.row (11+i+1) 5 72 (X i++[eD exD[i]]))) b1 (.row 0 7 0 [wC (exH (i+1)) (.row gd (11+i+1) 0 (11+i+1) 5) .nils])) (st (i+1)):=fun W=>by
   have e:X (i+1)=X i++[eD exD[i]]:=by
    show baseL.map eD0++(exD.take (i+1)).map eD=_
    rw[List.take_succ_eq_append_getElem hi2,List.map_append,← List.append_assoc];rfl
   show bV _ (aK (aK Z gd (.row (11+(i+1)) 5 72 (X (i+1)))) b1 _)
   rw[e,upd_comm (S:=aK Z gd _) n1g,aN,aN]
   exact aB _
  refine aF ?_;intros
  refine aU (aT aI (by rfl) 19 (by kernel_rfl) ?_)
  refine aF ?_;intros
  refine aU (T.weak (region13 b0 (exH (i+1)) b1 gd (11+i) (11+i) (by omega) (X i) hXi exD i hi2 _ (aA _ _ _) (by rw[aC n1g.symm];exact aA _ _ _) n1g.symm fun t ht=>?_) ?_ (aB _))
  rotate_left
  ·repeat' (first | exact trivial | exact rfl | refine And.intro ?_ ?_)
  conv=>whnf
  refine T.weak ?_ ht (aB _)
  clear ht
  refine aF ?_;intros
  exact⟨i+1,by omega,by omega,by repeat' (first | exact trivial | exact rfl | refine And.intro ?_ ?_),hnext _⟩
 ·have hi2:i=2:=by omega
  obtain⟨eX',eH'⟩:=hlast hi2
  subst hi2
  rw[eX'] at jg
  rw[eH'] at j1
  refine nO ?_;intros
  refine T_exit ?_
  refine nO ?_;intros
  refine T.weak (tail51 b0 b1 gd 13 _ j0 j1 jg) ?_ (aB _)
  repeat' (first | exact trivial | exact rfl | refine And.intro ?_ ?_)
def t1k (b0 b1 k:Nat):List PV:=
 [.ptr b0 0 0 0 7,.ptr b1 0 0 0 7,.int .i64 k,.any,.any,.any,.any,.any,.any,.any,.any,.any,.any,.any,.any,.any,.any,.any,.any,.any,.any,.any,.any,.any,.any,.any,.any,.any,.any,.any,.any,.any,.any,.any,.any,.any,.any,.any,.any,.any,.any,.any,.any,.any,.any,.any,.any,.any,.any,.any,.any,.any,.any,.any,.any,.any,.any,.any,.any,.any,.any,.any,.any,.any,.any,.any,.any,.any,.any,.any,.any,.any,.any,.any,.any,.any,.any,.any,.any,.any,.any,.any,.any,.any,.any,.any,.any]
theorem example_spec:FnP PP 51 [] (WV uZ):=by
 refine cL (aJ aI Tryz.func51 rfl (by rfl) (by rfl) ?_)
 refine aF ?_;intros
 refine aG fun b0 h0=>?_
 refine aF ?_;intros
 refine aG fun b1 h1=>?_
 have k0:aK E b0 (.row 0 (aH GT 28).size 0 [(aH GT 28).zero]) b0=some (.row 0 7 0 [(aH GT 28).zero]):=aA _ _ _
 have k0:=aE k0 h1 (y:=.row 0 (aH GT 28).size 0 [(aH GT 28).zero])
 refine aF ?_;intros
 generalize hZ1:aK _ b1 _=Z1
 have z1:Z1 b1=some (.row 0 7 0 [wC baseL .nils .nils]):=by rw[← hZ1];exact aA _ _ _
 have z0:Z1 b0=some (.row 0 7 0 [(aH GT 28).zero]):=by
  rw[← hZ1,aC (aL (aA _ _ _) h1).symm];exact aA _ _ _
 clear hZ1 k0
 refine aU (mK 0 1 5 72 z1 rfl rfl fun gd hgd=>?_)
 have n01:b0≠b1:=bH z0 z1 (by intro h;cases h)
 have n0d:=aL z0 hgd
 have n1d:=aL z1 hgd
 let st:Nat→aD:=fun k=>aK (aK Z1 gd (.row k 5 72 ((baseL.take k).map eD0))) b1 (.row 0 7 0 [wC baseL (.row gd k 0 k 5) .nils])
 have hs:∀ k,st k b1=some (.row 0 7 0 [wC baseL (.row gd k 0 k 5) .nils])∧st k gd=some (.row k 5 72 ((baseL.take k).map eD0))∧st k b0=some (.row 0 7 0 [(aH GT 28).zero]):=fun k=>
  ⟨aA _ _ _,by show aK _ b1 _ gd=_;rw[aC n1d,aA],by show aK _ b1 _ b0=_;rw[aC n01,aC n0d.symm];exact z0⟩
 have hB:baseL.length=11:=rfl
 have mB:(baseL.map eC).length=11:=rfl
 refine aY (α:=Nat) (inv:=fun k=>k≤11) (tm:=fun k=>t1k b0 b1 k) (st:=st) (μ:=fun k=>11 - k) 0 (by omega) ?_ (aB _) ?_
 ·repeat' (first | exact trivial | exact rfl | refine And.intro ?_ ?_)
 intro k hk
 obtain⟨j1,jg,j0⟩:=hs k
 have hlen:((baseL.take k).map eD0).length=k:=by rw[List.length_map,List.length_take];omega
 generalize hY:st k=Y at j1 jg j0 ⊢
 refine aF ?_;intros
 refine fC (fun hc=>?_) (fun hc=>?_)
 ·have hkl:k<baseL.length:=by omega
  refine aF ?_;intros
  refine aG fun b3 h3=>?_
  have j1':=aE (y:=.row 0 6 0 [eC baseL[k]]) j1 h3
  have jg':=aE (y:=.row 0 6 0 [eC baseL[k]]) jg h3
  have j3':aK Y b3 (.row 0 6 0 [eC baseL[k]]) b3=some (.row 0 6 0 [eC baseL[k]]):=aA _ _ _
  have n3d:b3≠gd:=aL jg h3
  have n31:b3≠b1:=aL j1 h3
  refine aF ?_;intros
  refine And.intro hlen (And.intro rfl (And.intro (show (k+1)*72≤140737488355328 by omega) ?_))
  have q1:aK (aK Y b3 (.row 0 6 0 [eC baseL[k]])) gd (.row (k+1) 5 72 ((baseL.take k).map eD0++[eD0 baseL[k]])) b1=some (.row 0 7 0 [wC baseL (.row gd k 0 k 5) .nils]):=by rw[aC n1d.symm];exact j1'
  refine aF ?_;intros
  refine⟨k+1,by omega,by omega,by repeat' (first | exact trivial | exact rfl | refine And.intro ?_ ?_),?_⟩
  intro x y hx
  show aK (aK (aK Y b3 _) gd _) b1 _ x=some y
  have e:(baseL.take (k+1)).map eD0=(baseL.take k).map eD0++[eD0 baseL[k]]:=by rw[List.take_succ_eq_append_getElem hkl,List.map_append];rfl
  have hx:aK (aK Z1 gd (.row (k+1) 5 72 ((baseL.take (k+1)).map eD0))) b1 (.row 0 7 0 [wC baseL (.row gd (k+1) 0 (k+1) 5) .nils]) x=some y:=hx
  rw[e] at hx
  by_cases e1:x=b1
  ·subst e1;rw[aA] at hx ⊢;exact hx
  ·rw[aC e1] at hx ⊢
   by_cases e2:x=gd
   ·subst e2;rw[aA] at hx ⊢;exact hx
   ·rw[aC e2] at hx ⊢
    have hYx:Y x=some y:=by
     rw[← hY]
     show aK (aK Z1 gd _) b1 _ x=_
     rw[aC e1,aC e2];exact hx
    rw[aC (by rintro rfl;rw[hYx] at h3;cases h3)]
    exact hYx
 ·have hk11:k=11:=by omega
  subst hk11
  have jg:Y gd=some (.row 11 5 72 (baseL.map eD0)):=jg
  refine aF ?_;intros
  refine .inl ?_
  refine nO ?_;intros
  refine T.weak (mid51 b0 b1 gd _ j0 j1 jg) ?_ (aB _)
  repeat' (first | exact trivial | exact rfl | refine And.intro ?_ ?_)
instance:cH 51 [] (WV uZ):=⟨example_spec⟩
end
section
attribute [local irreducible] T TL
set_option maxRecDepth 10000
set_option maxHeartbeats 1000000
theorem slots_sane:FnP PP 21 [WV uZ,.str fF] (.tup [OS (bR uZ fF),.int .i64 0]):=by
 have h:=mA uZ mac_ex fF
 rw[found_ex,if_neg (by decide)] at h
 exact h
theorem plan_sane:FnP PP 16 [WV uZ,.str fF,.list 16 [[.str nmY]]] (.tup [FS (iD uZ fF [nmY]).1,.int .i64 0]):=by
 have h:=yD uZ mac_ex fF [nmY]
 rw[plan_ex.1] at h
 exact h
theorem plan_sane2:FnP PP 16 [WV uZ,.str aP,.nils] (.tup [FS (iD uZ aP []).1,.int .i64 92]):=by
 have h:=yD uZ mac_ex aP []
 rw[plan_ex2] at h
 exact Fn_nil h ⟨.same _,.same _,.nils 16,trivial⟩
theorem find_sane:FnP PP 28 [WV uZ,.str fF,.str nmAll] (.tup [.int .i64 2,.int .i64 0]):=by
 have h:=Find_spec uZ mac_ex fF nmAll
 rw[find_ex] at h
 exact h
theorem check_sane:FnP PP 19 [WV uZ] (.int .i64 0):=by
 have h:=wB uZ mac_ex
 rw[checked_ex] at h
 exact h
theorem slots_list:∃ o0 o1 o2,bR uZ fF=[o0,o1,o2]∧o1.owner=uO:=by
 have h1:=slots_ex
 have h2:=slot_ex
 generalize bR uZ fF=L at h1 h2
 match L,h1 with
 | [a,b,c],_=>exact⟨a,b,c,rfl,by simpa using h2⟩
theorem plan_list:∃ f0 f1 f2,(iD uZ fF [nmY]).1=[f0,f1,f2]∧f0.key=-1∧f1.key=0:=by
 have h:=plan_ex.2
 generalize (iD uZ fF [nmY]).1=P at h
 have hl:P.length=3:=by have:=congrArg List.length h;simpa using this
 match P,hl,h with
 | [a,b,c],_,h=>
  simp only[List.map_cons,List.map_nil,List.cons.injEq] at h
  exact⟨a,b,c,rfl,h.1,h.2.1⟩
theorem sane_spec:FnP PP 15 [] (.bool true):=by
 refine aJ aI Tryz.func15 rfl (by rfl) (by rfl) ?_
 haveI:cH 19 [WV uZ] (.int .i64 0):=⟨check_sane⟩
 refine aF ?_;intros
 refine aG fun b hb=>?_
 refine aF ?_;intros
 refine bE slots_sane ?_
 refine aF ?_;intros
 refine bE plan_sane ?_
 refine aF ?_;intros
 refine bE plan_sane2 ?_
 refine aF ?_;intros
 refine bE find_sane ?_
 obtain⟨o0,o1,o2,hL,ho⟩:=slots_list
 obtain⟨f0,f1,f2,hP,hf0,hf1⟩:=plan_list
 rw[hL,hP]
 have m1:([o0,o1,o2].map eO).length=3:=rfl
 have m2:([f0,f1,f2].map eF).length=3:=rfl
 refine aF ?_;intros
 refine vY (j:=1) (c:=eO o1) rfl rfl ?_
 refine aF ?_;intros
 refine And.intro (fun _=>?_) (fun h=>?_)
 rotate_left
 ·rw[ho] at h;exact absurd h (by decide)
 refine aF ?_;intros
 refine vY (j:=1) (c:=eF f1) rfl rfl ?_
 refine aF ?_;intros
 refine And.intro (fun _=>?_) (fun h=>?_)
 rotate_left
 ·rw[hf1] at h;exact absurd h (by decide)
 refine aF ?_;intros
 refine vY (j:=0) (c:=eF f0) rfl rfl ?_
 refine aF ?_;intros
 refine And.intro (fun _=>?_) (fun h=>?_)
 rotate_left
 ·rw[hf0] at h;exact absurd h (by decide)
 refine aF ?_;intros
 exact⟨E,aM _,rfl,rfl⟩
instance:cH 15 [] (.bool true):=⟨sane_spec⟩
end
section
attribute [local irreducible] T TL
set_option maxRecDepth 10000
set_option maxHeartbeats 1000000
def atZ (k:Int) (n:Nat):Nat:=(Int.tmod (if k<0 then -(k+1) else k) n).toNat
theorem atZ_lt {k:Int} {n:Nat} (hn:0<n):atZ k n<n∧Int.tmod (if k<0 then -(k+1) else k) n=(atZ k n:Nat):=by
 have h0:0≤(if k<0 then -(k+1) else k):=by split <;> omega
 have h1:=Int.tmod_nonneg (n:Int) h0
 have h2:Int.tmod (if k<0 then -(k+1) else k) n<n:=Int.tmod_lt_of_pos _ (by omega)
 unfold atZ
 omega
theorem fit64z {z:Int} (h1:-9223372036854775808≤z) (h2:z≤9223372036854775807):wY .i64 z:=by
 unfold wY
 exact⟨h1,h2⟩
theorem rX (k:Int) (n:Nat) (h1:-9223372036854775808≤k) (h2:k≤9223372036854775807) (hn:0<n) (hn2:n≤1000000):FnP PP 20 [.int .i64 k,.int .i64 n] (.int .i64 (atZ k n:Nat)):=by
 obtain⟨h3,h4⟩:=atZ_lt (k:=k) hn
 refine aJ aI Tryz.func20 rfl (by rfl) (by rfl) ?_
 refine aF ?_;intros
 refine And.intro (fun hc=>?_) (fun hc=>?_)
 ·have hc:=of_decide_eq_true hc
  rw[if_pos hc] at h4
  refine aF ?_;intros
  rw[show (0:Int) - (k+1)=-(k+1) by omega,h4]
  refine And.intro (by omega) (And.intro (fit64z (by omega) (by omega)) ?_)
  refine aF ?_;intros
  exact⟨E,aM _,rfl,rfl⟩
 ·have hc:=of_decide_eq_false hc
  rw[if_neg hc] at h4
  refine aF ?_;intros
  refine And.intro (by omega) (And.intro (by rw[h4];exact fit64z (by omega) (by omega)) ?_)
  rw[h4]
  refine aF ?_;intros
  exact⟨E,aM _,rfl,rfl⟩
end
section
attribute [local irreducible] T TL
set_option maxRecDepth 10000
set_option maxHeartbeats 1000000
variable {w:aW}
theorem idxO_has {out:List OwnT} {n:ByteArray} {o:OwnT} (h:HasN out n o):∃ k,∃ hk:k<out.length,cQ (isO n) out=(k:Nat)∧out[k]=o:=by
 obtain⟨k,h1,h2⟩:=h
 obtain⟨hk,h3⟩:=List.getElem?_eq_some_iff.1 h2
 rcases uJ out n with ⟨h4,_⟩ | ⟨j,hj,h4,h5⟩
 ·rw[h4] at h1;cases h1
 ·rw[h4] at h1
  have:j=k:=by simpa using h1
  subst this
  exact⟨j,hj,h5,h3⟩
def t5i (b2 b9 i:Nat) (L:List OwnT):List PV:=
 [.any,.any,.ptr b2 0 0 0 7,.any,.any,.bool true,.any,OS L,.any,.ptr b9 0 0 0 5,.int .i64 i,.any,.any,.any,.any,.any,.any,.any,.any,.any,.any,.any,.any,.any,.any,.any,.any,.any,.any,.any,.any,.any,.any,.any,.any,.any,.any,.any,.any,.any,.any,.any,.any,.any,.any,.any,.any,.any,.any,.any,.any,.any,.any,.any,.any,.any,.any,.any,.any,.any,.any,.any,.any,.any,.any,.any,.any,.any,.any,.any,.any,.any,.any,.any,.any,.any,.any,.any,.any,.any,.any,.any,.any,.any,.any,.any,.any,.any,.any,.any,.any,.any,.any,.any,.any,.any,.any,.any,.any,.any,.any,.any,.any,.any,.any,.any,.any,.any,.any,.any,.any,.any,.any,.any,.any]
theorem round5 (b2 b9 i:Nat) (L:List OwnT) (d:DefT) (Z:aD) (k9:Z b9=some (.row 0 5 0 [eD d])) (hi:i<d.slots.length) (hd:d.slots.length≤16) (hL:L.length≤64) (hh:HasN L d.slots[i].name ⟨d.slots[i],d.name⟩)
  {J:List PV→aD→List DA→Prop} {Q:bQ} (hJ:∀ t,yH t (t5i b2 b9 (i+1) L)→J t Z []) :
  T PP none (nthL Tryz.f5 0) (uA J Q) (t5i b2 b9 i L) Z []:=by
 have md:(d.slots.map wN).length=d.slots.length:=List.length_map _
 have mL:(L.map eO).length=L.length:=List.length_map _
 obtain⟨k,hk,e1,e2⟩:=idxO_has hh
 refine aF ?_;intros
 refine fC (fun _=>?_) (fun hc=>absurd (by omega) hc)
 haveI:cH 26 [TV L[k].slot.ty,TV d.slots[i].ty] (.bool true):=⟨by rw[e2];exact zE _⟩
 refine aF ?_;intros
 rw[e1]
 refine aU (aT aI (by rfl) 28 (by kernel_rfl) ?_)
 refine aF ?_;intros
 refine And.intro (fun _=>?_) (fun h=>?_)
 rotate_left
 ·rw[e2] at h;simp at h
 refine aF ?_;intros
 exact hJ _ (by repeat' (first | exact trivial | exact rfl | refine And.intro ?_ ?_))
def t5e (b2 b9:Nat) (L:List OwnT):List PV:=
 [.any,.any,.ptr b2 0 0 0 7,.any,.any,.bool true,.any,OS L,.any,.ptr b9 0 0 0 5,.any,.any,.any,.any,.any,.any,.any,.any,.any,.any,.any,.any,.any,.any,.any,.any,.any,.any,.any,.any,.any,.any,.any,.any,.any,.any,.any,.any,.any,.any,.any,.any,.any,.any,.any,.any,.any,.any,.any,.any,.any,.any,.any,.any,.any,.any,.any,.any,.any,.any,.any,.any,.any,.any,.any,.any,.any,.any,.any,.any,.any,.any,.any,.any,.any,.any,.any,.any,.any,.any,.any,.any,.any,.any,.any,.any,.any,.any,.any,.any,.any,.any,.any,.any,.any,.any,.any,.any,.any,.any,.any,.any,.any,.any,.any,.any,.any,.any,.any,.any,.any,.any,.any,.any,.any]
theorem tail5 (hm:rF w) (h0:bK w=0) (k:Nat) (hk:k<w.classes.length) (hkd:k<w.defs.length) (b2 b9:Nat) (Z:aD) (k2:Z b2=some (.row 0 7 0 [eW w])) (k9:Z b9=some (.row 0 5 0 [eD w.defs[k]])) :
  T PP none (rst Tryz.f5 15) (endX GT Tryz.f5.results.toList fun o S'=>o=.ret (.bool true)∧S'=E) (t5e b2 b9 (bR w w.classes[k].name)) Z []:=by
 have md:(w.defs[k].slots.map wN).length=w.defs[k].slots.length:=List.length_map _
 have ms:(w.defs[k].supers.map eS).length=w.defs[k].supers.length:=List.length_map _
 refine aF ?_;intros
 refine And.intro (fun h1=>?_) (fun h1=>?_)
 ·have h1:=of_decide_eq_false h1
  refine aF ?_;intros
  refine And.intro (fun h2=>?_) (fun h2=>?_)
  ·refine aF ?_;intros
   exact⟨E,aM _,rfl,rfl⟩
  ·have h2:((w.defs[k].supers.map eS).length:Int)=1:=by simpa using h2
   rw[md] at h1
   rw[ms] at h2
   have e0:w.defs[k].slots.length=0:=by omega
   have e1:w.defs[k].supers.length=1:=by omega
   have hn:w.defs[k].slots=[]:=List.length_eq_zero_iff.1 e0
   obtain⟨s,hs⟩:∃ s,w.defs[k].supers=[s]:=List.length_eq_one_iff.1 e1
   obtain⟨hf,hsl⟩:=declared_one h0 hk hkd hs hn
   have hs0:w.defs[k].supers[0]'(by omega)=s:=by simp[hs]
   haveI:cH 21 [WV w,.str (w.defs[k].supers[0]'(by omega))] (.tup [OS (bR w w.classes[k].name),.int .i64 0]):=⟨by
    have h:=mA w hm s
    rw[hf,if_neg (by decide),hsl] at h
    rw[hs0]
    exact h⟩
   have hp:0<w.defs[k].supers.length:=by omega
   refine aF ?_;intros
   refine aU (aT aI (by rfl) 11 (by kernel_rfl) ?_)
   refine aF ?_;intros
   exact⟨E,aM _,rfl,rfl⟩
 ·refine aF ?_;intros
  exact⟨E,aM _,rfl,rfl⟩
theorem Declared_spec (w:aW) (hm:rF w) (n:Int) (hn1:-9223372036854775808≤n) (hn2:n≤9223372036854775807):FnP PP 5 [WV w,.int .i64 n] (.bool true):=by
 refine aJ aI Tryz.func5 rfl (by rfl) (by rfl) ?_
 haveI:cH 19 [WV w] (.int .i64 (bK w)):=⟨wB w hm⟩
 have mc:(w.classes.map eC).length=w.classes.length:=List.length_map _
 have md:(w.defs.map eD).length=w.defs.length:=List.length_map _
 refine aF ?_;intros
 refine aG fun b2 h2=>?_
 have k2:aK E b2 (.row 0 (eW w).length 0 [eW w]) b2=some (.row 0 7 0 [eW w]):=aA _ _ _
 refine aF ?_;intros
 refine ifN (fun hc=>?_) (fun h0=>?_)
 ·refine aF ?_;intros
  exact⟨E,aM _,rfl,rfl⟩
 have h0:bK w=0:=by omega
 have ok:=tM (dW h0)
 have hlo:=ok.hl.lo
 have hle:=ok.hl.len
 obtain⟨hk,_⟩:=atZ_lt (k:=n) (n:=w.classes.length) (by omega)
 have hkd:atZ n w.classes.length<w.defs.length:=by rw[ok.hd];exact hk
 haveI:cH 20 [.int .i64 n,.int .i64 ((w.classes.map eC).length:Nat)] (.int .i64 (atZ n w.classes.length:Nat)):=⟨by rw[mc];exact rX n w.classes.length hn1 hn2 (by omega) (by omega)⟩
 generalize atZ n w.classes.length=k at *
 haveI:cH 21 [WV w,.str w.classes[k].name] (.tup [OS (bR w w.classes[k].name),.int .i64 0]):=⟨by
  have h:=mA w hm w.classes[k].name
  rw[wR h0 hk,if_neg (by decide)] at h
  exact h⟩
 refine aF ?_;intros
 refine aU (aT aI (by rfl) 13 (by kernel_rfl) ?_)
 refine aF ?_;intros
 refine aG fun b9 h9=>?_
 have k2:=aE (y:=.row 0 5 0 [eD w.defs[k]]) k2 h9
 have k9:aK (aK E b2 (.row 0 7 0 [eW w])) b9 (.row 0 5 0 [eD w.defs[k]]) b9=some (.row 0 5 0 [eD w.defs[k]]):=aA _ _ _
 have hdf:=ok.df k hk hkd
 unfold defOkB at hdf
 simp only[Bool.and_eq_true,decide_eq_true_eq] at hdf
 have hd16:=hdf.1.2
 have hL:=(lC h0 hk).2.2
 have hhas:=declared_has h0 hk hkd
 refine aF ?_;intros
 refine aU (aY (α:=Nat) (inv:=fun i=>i≤w.defs[k].slots.length) (tm:=fun i=>t5i b2 b9 i (bR w w.classes[k].name)) (st:=fun _=>aK (aK E b2 (.row 0 7 0 [eW w])) b9 (.row 0 5 0 [eD w.defs[k]])) (μ:=fun i=>w.defs[k].slots.length - i) 0 (by omega) ?_ (aB _) ?_)
 ·repeat' (first | exact trivial | exact rfl | refine And.intro ?_ ?_)
 intro i hi
 generalize aK (aK E b2 _) b9 _=Z at k2 k9 ⊢
 by_cases hil:i<w.defs[k].slots.length
 ·exact round5 b2 b9 i _ _ Z k9 hil hd16 hL (hhas _ (List.getElem_mem hil)) fun t ht=>⟨rfl,i+1,by omega,by omega,ht,aB _⟩
 ·have md2:(w.defs[k].slots.map wN).length=w.defs[k].slots.length:=List.length_map _
  refine aF ?_;intros
  refine fC (fun hc=>absurd hc (by omega)) (fun _=>?_)
  refine nO ?_;intros
  refine T_exit ?_
  refine nO ?_;intros
  refine T.weak (tail5 hm h0 k hk hkd b2 b9 Z k2 k9) ?_ (aB _)
  repeat' (first | exact trivial | exact rfl | refine And.intro ?_ ?_)
end
end Go.Proofs.YtbojdflgjpjbiaaGreat.L
