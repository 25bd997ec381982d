/- A logic over the machine, and what the functions of the seat come to: part 28. No claim stands here; the theorems are used by the row. -/
import Derived.Test.YtbojdflgjpjbiaaGreatJ4
import Derived.Test.YtbojdflgjpjbiaaGreatJ21
import Derived.Test.YtbojdflgjpjbiaaGreatJ26
import Derived.Test.YtbojdflgjpjbiaaGreatJ27
set_option linter.unusedSimpArgs false
set_option linter.unnecessarySimpa false
set_option linter.unusedVariables false
namespace Go.Proofs.YtbojdflgjpjbiaaGreat.L
open Go
section
variable {w:aW}
structure mX (keys:List ByteArray) (L:List OwnT) (i:Nat) (U:List Bool):Prop where
 len:U.length=keys.length
 mem:∀ j (h:j<U.length),U[j]=true↔∃ a,a<i∧∃ ha:a<L.length,keyF keys L[a].slot=(j:Nat)
theorem mX.zero (keys:List ByteArray) (L:List OwnT):mX keys L 0 (List.replicate keys.length false):=
 ⟨by simp,fun j h=>by simp⟩
theorem mX.skip {keys:List ByteArray} {L:List OwnT} {i:Nat} {U:List Bool} (h:mX keys L i U) (hi:i<L.length) (hk:keyF keys L[i].slot<0):mX keys L (i+1) U:=
 ⟨h.len,fun j hj=>by
  rw[h.mem j hj]
  constructor
  ·rintro⟨a,h1,h2,h3⟩;exact⟨a,by omega,h2,h3⟩
  ·rintro⟨a,h1,h2,h3⟩
   by_cases e:a=i
   ·subst e;omega
   ·exact⟨a,by omega,h2,h3⟩⟩
theorem mX.set {keys:List ByteArray} {L:List OwnT} {i k:Nat} {U:List Bool} (h:mX keys L i U) (hi:i<L.length) (hk:keyF keys L[i].slot=(k:Nat)):mX keys L (i+1) (U.set k true):=
 ⟨by rw[List.length_set];exact h.len,fun j hj=>by
  rw[List.length_set] at hj
  rw[List.getElem_set]
  by_cases e:k=j
  ·subst e;simp only[if_true,true_iff];exact⟨i,by omega,hi,hk⟩
  ·rw[if_neg e,h.mem j hj]
   constructor
   ·rintro⟨a,h1,h2,h3⟩;exact⟨a,by omega,h2,h3⟩
   ·rintro⟨a,h1,h2,h3⟩
    by_cases e2:a=i
    ·subst e2;omega
    ·exact⟨a,by omega,h2,h3⟩⟩
theorem keyF_inj {keys:List ByteArray} {L:List OwnT} (hL:dJ [] L=true) {a b:Nat} (ha:a<L.length) (hb:b<L.length) {k:Nat} (h1:keyF keys L[a].slot=(k:Nat)) (h2:keyF keys L[b].slot=(k:Nat)):a=b:=by
 obtain⟨n1,i1,hi1,e1,f1,_⟩:=uQ (keys:=keys) (s:=L[a].slot) (by omega)
 obtain⟨n2,i2,hi2,e2,f2,_⟩:=uQ (keys:=keys) (s:=L[b].slot) (by omega)
 have:i1=k:=by omega
 have:i2=k:=by omega
 subst i1;subst i2
 exact (keysOk_nd hL).2 a b ha hb n1 (f1.symm.trans f2)
theorem mX.fresh {keys:List ByteArray} {L:List OwnT} {i k:Nat} {U:List Bool} (h:mX keys L i U) (hL:dJ [] L=true) (hi:i<L.length) (hk:keyF keys L[i].slot=(k:Nat)) (hU:k<U.length):U[k]=false:=by
 cases e:U[k] with
 | false=>rfl
 | true=>
  obtain⟨a,h1,h2,h3⟩:=(h.mem k hU).1 e
  have:=keyF_inj hL h2 hi h3 hk
  omega
theorem keyF_lt {keys:List ByteArray} (s:SlotT):-1≤keyF keys s∧keyF keys s<keys.length:=by
 by_cases h:0≤keyF keys s
 ·obtain⟨_,i,hi,e,_⟩:=uQ h
  omega
 ·unfold keyF at h ⊢
  by_cases e:s.key=qZ
  ·rw[if_pos e] at h ⊢;omega
  ·rw[if_neg e] at h ⊢
   rcases fJ (nL s.key) keys with ⟨h1,_⟩ | ⟨i,hi,h1,_⟩ <;> omega
theorem mX.all {keys:List ByteArray} {L:List OwnT} {U:List Bool} (h:mX keys L L.length U) (hk:keys.any (xD L)=false) {j:Nat} (hj:j<keys.length) (hU:j<U.length) :
  U[j]=decide (cQ (nL keys[j]) keys=(j:Nat)):=by
 rw[Bool.eq_iff_iff,h.mem j hU,decide_eq_true_eq]
 constructor
 ·rintro⟨a,h1,h2,h3⟩
  obtain⟨_,i,hi,e,f,g⟩:=uQ (keys:=keys) (s:=L[a].slot) (by omega)
  have:i=j:=by omega
  subst i
  rw[f];exact g
 ·intro hx
  have hb:=List.any_eq_false.1 hk keys[j] (List.getElem_mem hj)
  unfold xD at hb
  simp only[Bool.or_eq_true,decide_eq_true_eq,Bool.not_eq_true',not_or,Bool.not_eq_false] at hb
  obtain⟨o,ho,he⟩:=List.any_eq_true.1 hb.2
  obtain⟨a,ha,rfl⟩:=List.getElem_of_mem ho
  have he:=of_decide_eq_true he
  refine⟨a,ha,ha,?_⟩
  unfold keyF
  rw[if_neg (by rw[he];exact hb.1),he];exact hx
theorem plan_cases {n:ByteArray} {keys:List ByteArray} (h0:(iD w n keys).2=0):cP w n=0∧keys.length≤16∧keys.any (xD (bR w n))=false∧iD w n keys=((bR w n).map (kY keys),0):=by
 unfold iD at h0 ⊢
 split at h0
 ·rename_i h;exact absurd h0 h
 ·rename_i h
  split at h0
  ·cases h0
  ·split at h0
   ·cases h0
   ·split at h0
    ·cases h0
    ·rename_i h1 h2 h3
     have h:cP w n=0:=by simpa using h
     have h3:keys.any (xD (bR w n))=false:=by simpa using h3
     refine⟨h,by omega,h3,?_⟩
     rw[if_neg (by simp[h]),if_neg h1,if_neg h2,if_neg (by simp[h3])]
theorem plan_none {n:ByteArray} {keys:List ByteArray} (h0:(iD w n keys).2≠0):(iD w n keys).1=[]:=by
 unfold iD at h0 ⊢
 split
 ·rfl
 ·split
  ·rfl
  ·split
   ·rfl
   ·split
    ·rfl
    ·rename_i h1 h2 h3 h4
     rw[if_neg h1,if_neg h2,if_neg h3,if_neg h4] at h0
     exact absurd rfl h0
theorem found_slots {n:ByteArray} (hf:cP w n=0):dJ [] (bR w n)=true∧(bR w n).length≤64∧NdS (bR w n):=by
 have h0:bK w=0:=by
  unfold cP at hf
  split at hf
  ·cases hf
  ·rename_i h;simpa using h
 unfold cP at hf
 rw[if_neg (by simp[h0])] at hf
 cases e:mZ w.classes n with
 | none=>rw[e] at hf;cases hf
 | some k=>
  obtain⟨hk,hn⟩:=mF e
  obtain⟨_,h2,h3⟩:=lC h0 hk
  have h4:=slots_nd h0 hk
  rw[hn] at h2 h3 h4
  exact⟨h2,h3,h4⟩
end
section
attribute [local irreducible] T TL
set_option maxRecDepth 10000
set_option maxHeartbeats 1000000
variable {w:aW}
def t6i (b3 ga gu i:Nat) (keys:List ByteArray) (P:List yZ) (L:List OwnT):List PV:=
 lS [.any,.any,LS keys,.ptr b3 0 0 0 7,.any,.any,.any,.bool true,FS P,.any,OS L,.any,.row ga i 0 i 10,.row gu 0 0 keys.length 1,.int .i64 i] 141
theorem round6 {b3 ga gu i:Nat} {keys:List ByteArray} {P:List yZ} {L:List OwnT} {U:List Bool} {X:List (List PV)} {Z:aD} (hP:P=L.map (kY keys)) (hi:i<L.length) (hL:L.length≤64) (hk:keys.length≤16)
  (hko:dJ [] L=true) (hU:mX keys L i U) (hX:X.length=i) (za:Z ga=some (.row i 10 144 X)) (zu:Z gu=some (.row 0 1 1 (U.map eB))) (hne:gu≠ga)
  {J:List PV→aD→List DA→Prop} {Q:bQ}
  (hJ:∀ t S' U',mX keys L (i+1) U'→yH t (t6i b3 ga gu (i+1) keys P L)→bV S' (aK (aK Z ga (.row (i+1) 10 144 (X++[eO L[i]]))) gu (.row 0 1 1 (U'.map eB)))→J t S' []) :
  T PP none (nthL Tryz.f6 0) (uA J Q) (t6i b3 ga gu i keys P L) Z []:=by
 have mP:(P.map eF).length=P.length:=List.length_map _
 have lP:P.length=L.length:=by rw[hP];simp
 have hiP:i<P.length:=by omega
 have ePi:P[i]=kY keys L[i]:=by subst hP;simp
 have hkey:=keyF_lt (keys:=keys) L[i].slot
 refine aF ?_;intros
 refine fC (fun _=>?_) (fun hc=>absurd (by omega) hc)
 refine aF ?_;intros
 refine And.intro (fun c hc=>?_) ?_
 ·rw[List.mem_singleton] at hc
  subst hc
  exact⟨rfl,trivial,trivial,trivial,trivial,trivial,trivial,trivial,trivial,trivial,trivial,trivial⟩
 refine And.intro rfl (bX za ?_)
 refine And.intro hX (And.intro rfl (And.intro (show (i+1)*144≤140737488355328 by omega) ?_))
 have ePs:P[i].slot=L[i]:=by rw[ePi];rfl
 have ePk:P[i].key=keyF keys L[i].slot:=by rw[ePi];rfl
 have ePb:P[i].init=true→keyF keys L[i].slot<0:=by rw[ePi];unfold kY;simp;intro h _;exact h
 have zu2:aK Z ga (.row (i+1) 10 144 (X++[eO L[i]])) gu=some (.row 0 1 1 (U.map eB)):=by rw[aC hne];exact zu
 refine nO ?_;intros
 refine T.weak (t':=lS [.any,.any,LS keys,.ptr b3 0 0 0 7,.any,.any,.any,.bool true,FS P,.any,OS L,.any,.row ga (i+1) 0 (i+1) 10,.row gu 0 0 keys.length 1,.int .i64 i] 141) (S':=aK Z ga (.row (i+1) 10 144 (X++[eO L[i]]))) ?_ (by repeat' (first | exact trivial | exact rfl | refine And.intro ?_ ?_)) (by rw[← ePs];exact aB _)
 generalize aK Z ga (.row (i+1) 10 144 (X++[eO L[i]]))=Z2 at *
 rw[← ePk] at hkey
 have mk:(keys.map eS).length=keys.length:=List.length_map _
 have hx1:decide (P[i].key < -1)=false:=decide_eq_false (by omega)
 have hx2:decide (((keys.map eS).length:Int)≤P[i].key)=false:=decide_eq_false (by omega)
 have eU:=hU.len
 have hno:P[i].init=true→P[i].key<0:=by rw[ePk];exact ePb
 refine T_seq (T_mid (lS [.any,.any,LS keys,.ptr b3 0 0 0 7,.any,.any,.any,.bool true,FS P,.any,OS L,.any,.row ga (i+1) 0 (i+1) 10,.row gu 0 0 keys.length 1,.int .i64 i] 141) Z2 ?_ ?_)
 rotate_left
 ·refine aF ?_;intros
  refine And.intro (fun _=>?_) (fun h=>absurd (hx1.symm.trans h) (by decide))
  refine aF ?_;intros
  refine And.intro (fun _=>?_) (fun h=>absurd (hx2.symm.trans h) (by decide))
  refine aF ?_;intros
  refine And.intro (fun a=>?_) (fun a=>?_)
  ·have h:=hno a
   have hx3:decide (0≤P[i].key)=false:=decide_eq_false (by omega)
   refine aF ?_;intros
   refine And.intro (fun h=>absurd (hx3.symm.trans h) (by decide)) (fun _=>?_)
   refine aF ?_;intros
   exact⟨by repeat' (first | exact trivial | exact rfl | refine And.intro ?_ ?_),aB _⟩
  ·refine aF ?_;intros
   exact⟨by repeat' (first | exact trivial | exact rfl | refine And.intro ?_ ?_),aB _⟩
 refine aF ?_;intros
 refine fC (fun c=>?_) (fun c=>?_)
 ·obtain⟨k,e⟩:=Int.eq_ofNat_of_zero_le c
  have hkU:k<U.length:=by omega
  have hfr:=hU.fresh hko hi (by rw[← ePk];exact e) hkU
  have hst:=hU.set hi (by rw[← ePk];exact e)
  have hk2:k<keys.length:=by omega
  refine aF ?_;intros
  refine zV k e hk2 ?_
  refine aF ?_;intros
  refine And.intro (fun h=>absurd (hfr.symm.trans h) (by decide)) (fun _=>?_)
  refine aF ?_;intros
  refine zV k e hk2 ?_
  refine aF ?_;intros
  exact hJ _ _ _ hst (by repeat' (first | exact trivial | exact rfl | refine And.intro ?_ ?_)) (aB _)
 ·have hst:=hU.skip hi (by rw[← ePk];omega)
  refine aF ?_;intros
  refine hJ _ _ _ hst (by repeat' (first | exact trivial | exact rfl | refine And.intro ?_ ?_)) ?_
  rw[upd_self zu2];exact aB _
end
section
attribute [local irreducible] T TL
set_option maxRecDepth 10000
set_option maxHeartbeats 1000000
variable {w:aW}
theorem tail6 {ga gu:Nat} {keys:List ByteArray} {L:List OwnT} {U:List Bool} {Z:aD} (hL:L.length≤64) (hk:keys.length≤16) (hb:keys.any (xD L)=false)
  (hU:mX keys L L.length U) (za:Z ga=some (.row L.length 10 144 (L.map eO))) (zu:Z gu=some (.row 0 1 1 (U.map eB))) :
  T PP none (rst Tryz.f6 20) (endX GT Tryz.f6.results.toList fun o S'=>o=.ret (.bool true)∧S'=E) (lS [.any,.any,LS keys,.any,.any,.any,.any,.bool true,.any,.any,OS L,.any,.row ga L.length 0 L.length 10,.row gu 0 0 keys.length 1] 141) Z []:=by
 have mk:(keys.map eS).length=keys.length:=List.length_map _
 have mL:(L.map eO).length=L.length:=List.length_map _
 have eU:=hU.len
 refine aF ?_;intros
 refine aU (aY (α:=Nat) (inv:=fun i=>i≤keys.length) (tm:=fun i=>lS [.any,.any,LS keys,.any,.any,.any,.any,.bool true,.any,.any,OS L,.any,.row ga L.length 0 L.length 10,.row gu 0 0 keys.length 1,.any,.int .i64 i] 141) (st:=fun _=>Z) (μ:=fun i=>keys.length - i) 0 (by omega) ?_ (aB _) ?_)
 ·repeat' (first | exact trivial | exact rfl | refine And.intro ?_ ?_)
 intro i hi
 refine aF ?_;intros
 refine fC (fun hc=>?_) (fun hc=>?_)
 ·have hik:i<keys.length:=by omega
  have hiU:i<U.length:=by omega
  have ha:=hU.all hb hik hiU
  refine aF ?_;intros
  refine aU (aT aI (by rfl) 13 (by kernel_rfl) ?_)
  refine aF ?_;intros
  rw[ha]
  refine And.intro (fun h=>absurd h (by simp)) (fun _=>?_)
  refine aF ?_;intros
  exact⟨i+1,by omega,by omega,by repeat' (first | exact trivial | exact rfl | refine And.intro ?_ ?_),aB _⟩
 ·refine aF ?_;intros
  refine gK (tS L) ⟨pK za mL.symm,.same _,trivial⟩ (.bool _) ?_
  refine aF ?_;intros
  exact⟨E,aM _,rfl,rfl⟩
theorem Filled_spec (w:aW) (hm:rF w) (n:ByteArray) (keys:List ByteArray):FnP PP 6 [WV w,.str n,LS keys] (.bool true):=by
 refine aJ aI Tryz.func6 rfl (by rfl) (by rfl) ?_
 haveI:cH 16 [WV w,.str n,LS keys] (.tup [FS (iD w n keys).1,.int .i64 (iD w n keys).2]):=⟨yD w hm n keys⟩
 haveI:cH 21 [WV w,.str n] (.tup [OS (if cP w n≠0 then [] else bR w n),.int .i64 (cP w n)]):=⟨mA w hm n⟩
 refine cJ (bW (d:=2) rfl) fun hkl=>?_
 rw[List.length_map] at hkl
 have mk:(keys.map eS).length=keys.length:=List.length_map _
 refine aF ?_;intros
 refine aG fun b3 h3=>?_
 have k3:aK E b3 (.row 0 (eW w).length 0 [eW w]) b3=some (.row 0 7 0 [eW w]):=aA _ _ _
 refine aF ?_;intros
 refine ifN (fun hc=>?_) (fun h0=>?_)
 ·have hc:(iD w n keys).2≠0:=by omega
  rw[plan_none hc]
  refine aF ?_;intros
  exact⟨E,aM _,rfl,rfl⟩
 have h0:(iD w n keys).2=0:=by omega
 obtain⟨hf,hk16,hb,hp⟩:=plan_cases h0
 have hp1:(iD w n keys).1=(bR w n).map (kY keys):=by rw[hp]
 obtain⟨hko,hL,_⟩:=found_slots hf
 rw[hp1,hf,if_neg (by decide)]
 generalize bR w n=L at *
 generalize hP:L.map (kY keys)=P at *
 have mP:(P.map eF).length=P.length:=List.length_map _
 have mL:(L.map eO).length=L.length:=List.length_map _
 have lP:P.length=L.length:=by rw[← hP];simp
 refine aF ?_;intros
 refine ifN (fun hc=>absurd (by omega) hc) (fun _=>?_)
 refine aF ?_;intros
 refine mkB (n:=keys.length) (by omega) (by omega) ?_
 refine aG fun gu hgu=>?_
 have ku:aK (aK E b3 (.row 0 (eW w).length 0 [eW w])) gu (.row 0 1 1 ((List.replicate keys.length false).map eB)) gu=some (.row 0 1 1 ((List.replicate keys.length false).map eB)):=aA _ _ _
 generalize hZ:aK (aK E b3 (.row 0 (eW w).length 0 [eW w])) gu (.row 0 1 1 ((List.replicate keys.length false).map eB))=Z at *
 refine aF ?_;intros
 refine aU (gJ 12 10 144 rfl fun ga hga=>?_)
 have hne:gu≠ga:=(aL ku hga).symm
 refine aY (α:=Nat × List Bool × aD) (inv:=fun x=>x.1≤L.length∧mX keys L x.1 x.2.1∧x.2.2 ga=some (.row x.1 10 144 ((L.take x.1).map eO))∧x.2.2 gu=some (.row 0 1 1 (x.2.1.map eB))) (tm:=fun x=>t6i b3 ga gu x.1 keys P L) (st:=fun x=>x.2.2) (μ:=fun x=>L.length - x.1)
  (0,List.replicate keys.length false,aK Z ga (.row 0 10 144 [])) ⟨by simp,mX.zero keys L,aA _ _ _,(aC hne).trans ku⟩ ?_ (aB _) ?_
 ·have e0:((keys.map eS).length:Int).toNat=keys.length:=by rw[mk];simp
  unfold t6i
  repeat' (first | exact trivial | exact rfl | refine And.intro ?_ ?_)
  rw[e0];rfl
 rintro⟨i,U,Y⟩ ⟨hi,hU,ya,yu⟩
 dsimp only at hi hU ya yu ⊢
 by_cases hlt:i<L.length
 ·refine round6 hP.symm hlt hL hk16 hko hU (by simp;omega) ya yu hne fun t S' U' h1 h2 h3=>⟨rfl,(i+1,U',aK (aK Y ga (.row (i+1) 10 144 ((L.take i).map eO++[eO L[i]]))) gu (.row 0 1 1 (U'.map eB))),⟨by dsimp only;omega,h1,?_,aA _ _ _⟩,by dsimp only;omega,h2,h3⟩
  dsimp only
  rw[aC (Ne.symm hne),aA,List.take_succ_eq_append_getElem hlt,List.map_append];rfl
 ·have e:i=L.length:=by omega
  subst e
  rw[List.take_length] at ya
  unfold t6i
  refine aF ?_;intros
  refine fC (fun hc=>absurd hc (by omega)) (fun _=>?_)
  refine nO ?_;intros
  refine T_exit ?_
  refine nO ?_;intros
  refine T.weak (tail6 hL hk16 hb hU ya yu) ?_ (aB _)
  repeat' (first | exact trivial | exact rfl | refine And.intro ?_ ?_)
end
section
attribute [local irreducible] T TL
set_option maxRecDepth 10000
set_option maxHeartbeats 1000000
variable {w:aW}
theorem slot_cases (out:List OwnT) (s:ByteArray):(dD out s=none∧cQ (isO s) out=-1)∨∃ k,∃ hk:k<out.length,dD out s=some k∧cQ (isO s) out=(k:Nat)∧out[k].slot.name=s:=by
 rcases uJ out s with h | ⟨k,hk,h1,h2⟩
 ·exact .inl h
 ·exact .inr ⟨k,hk,h1,h2,by obtain⟨_,h3⟩:=lD h1;exact h3⟩
theorem Shares_spec (w:aW) (hm:rF w) (n0 n1 sl:Int) (a0:-9223372036854775808≤n0∧n0≤9223372036854775807) (a1:-9223372036854775808≤n1∧n1≤9223372036854775807) (a2:-9223372036854775808≤sl∧sl≤9223372036854775807) :
  FnP PP 8 [WV w,.agg [.int .i64 n0,.int .i64 n1],.int .i64 sl] (.bool true):=by
 refine aJ aI Tryz.func8 rfl (by rfl) (by rfl) ?_
 haveI:cH 19 [WV w] (.int .i64 (bK w)):=⟨wB w hm⟩
 have mc:(w.classes.map eC).length=w.classes.length:=List.length_map _
 refine aF ?_;intros
 refine aG fun b3 h3=>?_
 have k3:aK E b3 (.row 0 (eW w).length 0 [eW w]) b3=some (.row 0 7 0 [eW w]):=aA _ _ _
 refine aF ?_;intros
 refine aG fun b4 h4=>?_
 have k3:=aE (y:=.row 0 [PV.int .i64 n0,PV.int .i64 n1].length 0 [[.int .i64 n0,.int .i64 n1]]) k3 h4
 have k4:aK (aK E b3 (.row 0 (eW w).length 0 [eW w])) b4 (.row 0 [PV.int .i64 n0,PV.int .i64 n1].length 0 [[.int .i64 n0,.int .i64 n1]]) b4=some (.row 0 2 0 [[.int .i64 n0,.int .i64 n1]]):=aA _ _ _
 generalize aK (aK E b3 _) b4 _=Z at k3 k4 ⊢
 refine aF ?_;intros
 refine ifN (fun hc=>?_) (fun h0=>?_)
 ·refine aF ?_;intros
  exact⟨E,aM _,rfl,rfl⟩
 have h0:bK w=0:=by omega
 have ok:=tM (dW h0)
 have hlo:=ok.hl.lo
 have hle:=ok.hl.len
 obtain⟨hi,_⟩:=atZ_lt (k:=n0) (n:=w.classes.length) (by omega)
 obtain⟨hj,_⟩:=atZ_lt (k:=n1) (n:=w.classes.length) (by omega)
 haveI:cH 20 [.int .i64 n0,.int .i64 ((w.classes.map eC).length:Nat)] (.int .i64 (atZ n0 w.classes.length:Nat)):=⟨by rw[mc];exact rX n0 w.classes.length a0.1 a0.2 (by omega) (by omega)⟩
 haveI:cH 20 [.int .i64 n1,.int .i64 ((w.classes.map eC).length:Nat)] (.int .i64 (atZ n1 w.classes.length:Nat)):=⟨by rw[mc];exact rX n1 w.classes.length a1.1 a1.2 (by omega) (by omega)⟩
 generalize atZ n0 w.classes.length=i at *
 generalize atZ n1 w.classes.length=j at *
 have hfi:=wR h0 hi
 have hfj:=wR h0 hj
 haveI:cH 21 [WV w,.str w.classes[i].name] (.tup [OS (bR w w.classes[i].name),.int .i64 0]):=⟨by
  have h:=mA w hm w.classes[i].name
  rw[hfi,if_neg (by decide)] at h
  exact h⟩
 haveI:cH 21 [WV w,.str w.classes[j].name] (.tup [OS (bR w w.classes[j].name),.int .i64 0]):=⟨by
  have h:=mA w hm w.classes[j].name
  rw[hfj,if_neg (by decide)] at h
  exact h⟩
 have hLl:=(lC h0 hi).2.2
 have hMl:=(lC h0 hj).2.2
 have hLn:=slots_nd h0 hi
 have hLok:=slots_ok h0 hi
 have shi:=fun s=>shared_at (s:=s) hfi
 have shj:=fun s=>shared_at (s:=s) hfj
 generalize bR w w.classes[i].name=L at *
 generalize bR w w.classes[j].name=M at *
 have mL:(L.map eO).length=L.length:=List.length_map _
 have mM:(M.map eO).length=M.length:=List.length_map _
 refine aF ?_;intros
 refine aU (aT aI (by rfl) 12 (by kernel_rfl) ?_)
 refine aF ?_;intros
 refine aU (aT aI (by rfl) 12 (by kernel_rfl) ?_)
 refine aF ?_;intros
 refine fC (fun hz=>?_) (fun hz=>?_)
 ·refine aF ?_;intros
  exact⟨E,aM _,rfl,rfl⟩
 have hp:0<L.length:=by omega
 haveI:cH 20 [.int .i64 sl,.int .i64 ((L.map eO).length:Nat)] (.int .i64 (atZ sl L.length:Nat)):=⟨by rw[mL];exact rX sl L.length a2.1 a2.2 hp (by omega)⟩
 obtain⟨hk,_⟩:=atZ_lt (k:=sl) (n:=L.length) hp
 generalize atZ sl L.length=k at *
 have hal:=hLok _ (List.getElem_mem hk)
 unfold gW at hal
 simp only[Bool.and_eq_true,decide_eq_true_eq] at hal
 have hal1:=hal.1.1.1.1.2
 have hal3:=hal.1.1.1.2
 haveI:cH 24 [OS M,.str L[k].slot.name] (.int .i64 (cQ (isO L[k].slot.name) M)):=⟨slotR_spec M _⟩
 haveI:cH 30 [WV w,.str w.classes[i].name,.str L[k].slot.name] (.tup [.str (holdB w.classes[i].name L[k]),.int .i64 0]):=⟨by
  have h:=tI w hm w.classes[i].name L[k].slot.name
  rw[shi,slotI_at hLn hk] at h
  dsimp only at h
  rw[List.getElem?_eq_getElem hk] at h
  exact h⟩
 rcases slot_cases M L[k].slot.name with ⟨e1,e2⟩ | ⟨q,hq,e1,e2,e3⟩
 ·haveI:cH 30 [WV w,.str w.classes[j].name,.str L[k].slot.name] (.tup [.str qZ,.int .i64 3]):=⟨by
   have h:=tI w hm w.classes[j].name L[k].slot.name
   rw[shj,e1] at h
   exact h⟩
  refine aF ?_;intros
  refine aG fun b14 h14=>?_
  have k3:=aE (y:=.row 0 (eO L[k]).length 0 [eO L[k]]) k3 h14
  have k14:aK Z b14 (.row 0 (eO L[k]).length 0 [eO L[k]]) b14=some (.row 0 10 0 [eO L[k]]):=aA _ _ _
  generalize aK Z b14 _=Z2 at k3 k14 ⊢
  refine aF ?_;intros
  rw[e2]
  refine aF ?_;intros
  refine aU (aT aI (by rfl) 14 (by kernel_rfl) ?_)
  refine aF ?_;intros
  exact⟨E,aM _,rfl,rfl⟩
 ·haveI:cH 30 [WV w,.str w.classes[j].name,.str L[k].slot.name] (.tup [.str (holdB w.classes[j].name M[q]),.int .i64 0]):=⟨by
   have h:=tI w hm w.classes[j].name L[k].slot.name
   rw[shj,e1] at h
   dsimp only at h
   rw[List.getElem?_eq_getElem hq] at h
   exact h⟩
  refine aF ?_;intros
  refine aG fun b14 h14=>?_
  have k3:=aE (y:=.row 0 (eO L[k]).length 0 [eO L[k]]) k3 h14
  have k14:aK Z b14 (.row 0 (eO L[k]).length 0 [eO L[k]]) b14=some (.row 0 10 0 [eO L[k]]):=aA _ _ _
  generalize aK Z b14 _=Z2 at k3 k14 ⊢
  refine aF ?_;intros
  rw[e2]
  have hge:decide ((0:Int)≤(q:Nat))=true:=decide_eq_true (by omega)
  have hlt0:decide (((q:Nat):Int)<0)=false:=decide_eq_false (by omega)
  generalize hx:holdB w.classes[i].name L[k]=x
  generalize hy:holdB w.classes[j].name M[q]=y
  unfold holdB at hx hy
  refine aF ?_;intros
  refine aU (aT aI (by rfl) 14 (by kernel_rfl) ?_)
  refine aF ?_;intros
  refine aF ?_;intros
  refine ifN (fun _=>?_) (fun ha=>?_)
  ·refine aF ?_;intros
   exact⟨E,aM _,rfl,rfl⟩
  refine aF ?_;intros
  refine fC (fun c1=>?_) (fun c1=>?_)
  ·rw[if_neg (by omega),if_neg (by omega)] at hx hy
   subst hx;subst hy
   refine aF ?_;intros
   exact⟨E,aM _,rfl,rfl⟩
  refine aF ?_;intros
  refine fC (fun c2=>?_) (fun c2=>?_)
  ·rw[if_pos (by omega)] at hx hy
   subst hx;subst hy
   refine aF ?_;intros
   refine aU (aT aI (by rfl) 9 (by kernel_rfl) ?_)
   refine aF ?_;intros
   exact⟨E,aM _,by rw[beq_self_eq_true],rfl⟩
  ·rw[if_neg (by omega),if_pos (by omega)] at hx hy
   subst hx;subst hy
   refine aF ?_;intros
   exact⟨E,aM _,by rw[beq_self_eq_true],rfl⟩
end
end Go.Proofs.YtbojdflgjpjbiaaGreat.L
