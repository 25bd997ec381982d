/- A logic over the machine, and what the functions of the seat come to: part 7. No claim stands here; the theorems are used by the row. -/
import Derived.Test.YtbojdflgjpjbiaaGreatJ6
set_option linter.unusedSimpArgs false
set_option linter.unnecessarySimpa false
set_option linter.unusedVariables false
namespace Go.Proofs.YtbojdflgjpjbiaaGreat.L
open Go
section
attribute [local irreducible] T TL
set_option maxRecDepth 10000
def xW (g:List bA) (i:Nat):Bool:=match g[i]? with
 | none=>false
 | some h=>!decide (h.1=⟨#[]⟩) && decide (cQ (isH h.1) (g.take i)<0) && decide (h.2.length≤8) && decide h.2.Nodup && h.2.all fun s=>decide (cQ (isH s) (g.take i)≥0)
def mJ (g:List bA):Int:=if g.length > 120 then 2 else if (List.range g.length).all (xW g) then 0 else 70
theorem oT {g:List bA} {i:Nat} (hi:i<g.length):xW g i=(!decide (g[i].1=⟨#[]⟩) && decide (cQ (isH g[i].1) (g.take i)<0) && decide (g[i].2.length≤8) && decide g[i].2.Nodup && g[i].2.all fun s=>decide (cQ (isH s) (g.take i)≥0)):=by
 unfold xW;rw[List.getElem?_eq_getElem hi]
theorem refCheck_spec (g:List bA):FnP PP 199 [HS g] (.int .i64 (mJ g)):=by
 refine aJ aI Tryz.func199 rfl (by rfl) (by rfl) ?_
 refine cJ (bW (d:=0) rfl) fun hlen=>?_
 rw[List.length_map] at hlen
 refine go ?_;intros
 refine fC (fun hn=>?_) (fun hn=>?_)
 ·refine go ?_;intros
  refine⟨E,aM _,?_,rfl⟩
  unfold mJ;rw[if_pos (by simp at hn;omega)]
 ·have hn:¬ g.length > 120:=by simp at hn;omega
  refine go ?_;intros
  refine aU (aY (α:=Nat) (inv:=fun i=>i≤g.length∧∀ j,j<i→xW g j=true) (tm:=fun i=>lS [HS g,.any,.any,.int .i64 i] (Tryz.f199).ntmps) (st:=fun _=>E) (μ:=fun i=>g.length - i) 0 ⟨by omega,fun j hj=>by omega⟩ ?_ (aB _) ?_)
  ·repeat' (first | exact trivial | exact rfl | refine And.intro ?_ ?_)
  rintro i ⟨hi,hpre⟩
  refine go ?_;intros
  refine fC (fun hc=>?_) (fun hc=>?_)
  ·have hlt:i<g.length:=by simpa using hc
   have bad:xW g i=false→(iY.ret (.int .i64 70))=iY.ret (.int .i64 (mJ g)):=fun h=>by
    have:¬ (List.range g.length).all (xW g)=true:=fun h2=>by
     have:=List.all_eq_true.1 h2 i (List.mem_range.2 hlt)
     rw[h] at this;cases this
    unfold mJ;rw[if_neg hn,if_neg this]
   refine go ?_;intros
   refine aU (aT aI (by rfl) 36 (by decide) ?_)
   refine go ?_;intros
   refine ifF (fun hc=>?_) (fun hc=>?_)
   ·have hne:=hc
    refine go ?_;intros
    refine ifF (fun hc=>?_) (fun hc=>?_)
    ·refine go ?_;intros
     refine ifF (fun hc=>?_) (fun hc=>?_)
     ·refine go ?_;intros
      refine ifN (fun hd=>?_) (fun hd=>?_)
      ·refine go ?_;intros
       refine⟨E,aM _,bad ?_,rfl⟩
       rw[oT hlt];simp[hd]
      ·refine go ?_;intros
       refine aU (aY (α:=Nat) (inv:=fun k=>k≤g[i].2.length∧∀ s∈g[i].2.take k,cQ (isH s) (g.take i)≥0) (tm:=fun k=>gF 73 [(0,HS g),(3,.int .i64 i),(4,.int .i64 k)]) (st:=fun _=>E) (μ:=fun k=>g[i].2.length - k) 0 ⟨by omega,by simp⟩ ?_ (aB _) ?_)
       ·repeat' (first | exact trivial | exact rfl | refine And.intro ?_ ?_)
       rintro k ⟨hk,hks⟩
       refine go ?_;intros
       refine fC (fun hc=>?_) (fun hc=>?_)
       ·have hkl:k<g[i].2.length:=by simpa using hc
        refine go ?_;intros
        refine aU (aT aI (by rfl) 13 (by decide) ?_)
        refine go ?_;intros
        refine fC (fun hc=>?_) (fun hc=>?_)
        ·refine go ?_;intros
         refine⟨E,aM _,bad ?_,rfl⟩
         rw[oT hlt,Bool.and_eq_false_iff]
         refine .inr (Bool.eq_false_iff.2 fun h=>?_)
         have:=List.all_eq_true.1 h _ (List.getElem_mem hkl)
         simp at this;omega
        ·refine go ?_;intros
         refine⟨k+1,⟨by omega,fun s hs=>?_⟩,by omega,?_,aB _⟩
         ·rw[List.take_succ_eq_append_getElem hkl,List.mem_append] at hs
          rcases hs with hs | hs
          ·exact hks s hs
          ·rw[List.mem_singleton.1 hs];omega
         ·repeat' (first | exact trivial | exact rfl | refine And.intro ?_ ?_)
       ·have hkl:¬ k<g[i].2.length:=by simpa using hc
        refine go ?_;intros
        refine⟨i+1,⟨by omega,fun j hj=>?_⟩,by omega,?_,aB _⟩
        ·by_cases e:j=i
         ·subst e
          rw[List.take_of_length_le (by omega)] at hks
          rw[oT hlt]
          simp only[Bool.and_eq_true,Bool.not_eq_true',decide_eq_false_iff_not,decide_eq_true_eq,List.all_eq_true]
          exact⟨⟨⟨⟨hne,by omega⟩,by simp at *;omega⟩,hd⟩,hks⟩
         ·exact hpre j (by omega)
        ·repeat' (first | exact trivial | exact rfl | refine And.intro ?_ ?_)
     ·refine go ?_;intros
      refine⟨E,aM _,bad ?_,rfl⟩
      rw[oT hlt];simp at hc;simp;omega
    ·refine go ?_;intros
     refine⟨E,aM _,bad ?_,rfl⟩
     rw[oT hlt];simp;omega
   ·refine go ?_;intros
    refine⟨E,aM _,bad ?_,rfl⟩
    rw[oT hlt];simp[hc]
  ·have hge:¬ i<g.length:=by simpa using hc
   refine go ?_;intros
   refine⟨E,aM _,?_,rfl⟩
   have:(List.range g.length).all (xW g)=true:=by
    rw[List.all_eq_true]
    intro j hj
    exact hpre j (by have:=List.mem_range.1 hj;omega)
   unfold mJ;rw[if_neg hn,if_pos this]
end
theorem qX {b:ByteArray} {g:List bA}:cQ (isH b) g<0↔b∉g.map (·.1):=by
 rcases fJ (isH b) g with ⟨h,hn⟩ | ⟨i,hi,h,hp,_⟩
 ·rw[h]
  refine⟨fun _ hm=>?_,fun _=>by decide⟩
  obtain⟨x,hx,e⟩:=List.mem_map.1 hm
  obtain⟨j,hj,rfl⟩:=List.getElem_of_mem hx
  have:=hn j hj
  simp[isH,e] at this
 ·rw[h]
  refine⟨fun h=>by omega,fun hm=>absurd (List.mem_map.2 ⟨g[i],List.getElem_mem hi,by simpa[isH] using hp⟩) hm⟩
theorem yK {seen:List ByteArray}:∀ {l pre:List ByteArray},oQ seen pre l=true↔(∀ s∈l,s∈seen)∧l.Nodup∧∀ s∈l,s∉pre
 | [],pre=>by simp[oQ]
 | x::l,pre=>by
  simp only[oQ,Bool.and_eq_true,Bool.not_eq_true',yK (l:=l),jE]
  have e:pre.any (nL x)=false↔x∉pre:=by rw[Bool.eq_false_iff,Ne,jE]
  rw[e]
  constructor
  ·rintro⟨⟨h1,h2⟩,h3,h4,h5⟩
   refine⟨fun s hs=>?_,List.nodup_cons.2 ⟨fun hx=>h5 x hx (by simp),h4⟩,fun s hs=>?_⟩
   ·rcases List.mem_cons.1 hs with rfl | hs
    ·exact h1
    ·exact h3 s hs
   ·rcases List.mem_cons.1 hs with rfl | hs
    ·exact h2
    ·exact fun hp=>h5 s hs (by simp[hp])
  ·rintro⟨h1,h2,h3⟩
   obtain⟨h4,h5⟩:=List.nodup_cons.1 h2
   refine⟨⟨h1 x (by simp),h3 x (by simp)⟩,fun s hs=>h1 s (by simp[hs]),h5,fun s hs hp=>?_⟩
   rcases List.mem_append.1 hp with hp | hp
   ·exact h3 s (by simp[hs]) hp
   ·rw[List.mem_singleton.1 hp] at hs;exact h4 hs
theorem wJ:∀ {g:List bA} {seen:List ByteArray},jS seen g=true↔∀ (i:Nat) (hi:i<g.length),iA (seen++(g.take i).map (·.1)) g[i]=true
 | [],seen=>by simp[jS]
 | h::g,seen=>by
  constructor
  ·exact fun hc i hi=>vV hc hi
  ·intro hi
   simp only[jS,Bool.and_eq_true]
   refine⟨by have:=hi 0 (by simp);rw[List.take_zero,List.map_nil,List.append_nil] at this;exact this,wJ.2 fun i h'=>?_⟩
   have:=hi (i+1) (by simpa using h')
   rw[List.take_succ_cons,List.map_cons] at this
   rw[List.append_assoc];exact this
theorem okRef_eq {g:List bA} {i:Nat} (hi:i<g.length):xW g i=iA ((g.take i).map (·.1)) g[i]:=by
 rw[oT hi,Bool.eq_iff_iff]
 simp only[iA,Bool.and_eq_true,Bool.not_eq_true',decide_eq_false_iff_not,decide_eq_true_eq,List.all_eq_true,yK,qX]
 have e:((g.take i).map (·.1)).any (nL g[i].1)=false↔g[i].1∉(g.take i).map (·.1):=by rw[Bool.eq_false_iff,Ne,jE]
 have e2:(∀ s∈g[i].2,cQ (isH s) (g.take i)≥0)↔∀ s∈g[i].2,s∈(g.take i).map (·.1):=by
  constructor
  ·intro h s hs
   exact Classical.byContradiction fun hn=>by have:=h s hs;have:=qX.2 hn;omega
  ·intro h s hs
   exact Classical.byContradiction fun hn=>qX.1 (by omega) (h s hs)
 rw[e,e2]
 constructor
 ·rintro⟨⟨⟨⟨h1,h2⟩,h3⟩,h4⟩,h5⟩
  exact⟨⟨⟨h1,h2⟩,h3⟩,h5,h4,by simp⟩
 ·rintro⟨⟨⟨h1,h2⟩,h3⟩,h5,h4,_⟩
  exact⟨⟨⟨⟨h1,h2⟩,h3⟩,h4⟩,h5⟩
theorem refCheckV_eq (g:List bA):mJ g=cX g:=by
 unfold mJ cX
 split
 ·rfl
 ·have:(List.range g.length).all (xW g)=jS [] g:=by
   rw[Bool.eq_iff_iff,List.all_eq_true,wJ]
   simp only[List.mem_range,List.nil_append]
   exact⟨fun h i hi=>okRef_eq hi ▸ h i hi,fun h i hi=>(okRef_eq hi).trans (h i hi)⟩
  rw[this]
instance (g:List bA):cH 199 [HS g] (.int .i64 (cX g)):=⟨refCheckV_eq g ▸ refCheck_spec g⟩
theorem nZ {g:List bA} {b:ByteArray}:oD g b=none↔b∉g.map (·.1):=by
 induction g with
 | nil=>simp[oD]
 | cons h t ih=>
  simp only[oD,List.map_cons,List.mem_cons,not_or]
  cases e:oD t b with
  | some k=>
   simp only[reduceCtorEq,false_iff,not_and]
   exact fun _ hn=>by rw[ih.2 hn] at e;cases e
  | none=>simp[ih.1 e]
theorem idxH_at {g:List bA} (hg:Heirs g) {b:ByteArray}:cQ (isH b) g=match oD g b with | some k=>(k:Int) | none=>-1:=by
 rcases fJ (isH b) g with ⟨h,hn⟩ | ⟨i,hi,h,hp,_⟩
 ·have:oD g b=none:=nZ.2 (qX.1 (by rw[h];decide))
  rw[h,this]
 ·have e:g[i].1=b:=by simpa[isH] using hp
  have:=hg.at hi
  rw[e] at this
  rw[h,this]
def vH (g:List bA) (name:ByteArray):Int:=if cX g≠0 then cX g else if oD g name=none then 3 else 0
section
attribute [local irreducible] T TL
set_option maxRecDepth 10000
theorem have_spec (g:List bA) (name:ByteArray):FnP PP 176 [HS g,.str name] (.int .i64 (vH g name)):=by
 refine aJ aI Tryz.func176 rfl (by rfl) (by rfl) ?_
 refine go ?_;intros
 refine fC (fun hc=>?_) (fun hc=>?_)
 ·refine go ?_;intros
  have hg:=xX hc
  refine fC (fun h2=>?_) (fun h2=>?_)
  ·refine go ?_;intros
   refine⟨E,aM _,?_,rfl⟩
   have:oD g name=none:=nZ.2 (qX.1 h2)
   simp[vH,hc,this]
  ·refine go ?_;intros
   refine⟨E,aM _,?_,rfl⟩
   have:¬ oD g name=none:=fun h=>h2 (qX.2 (nZ.1 h))
   simp[vH,hc,this]
 ·refine go ?_;intros
  refine⟨E,aM _,?_,rfl⟩
  simp[vH,hc]
instance (g:List bA) (name:ByteArray):cH 176 [HS g,.str name] (.int .i64 (vH g name)):=⟨have_spec g name⟩
end
section
attribute [local irreducible] T TL
set_option maxRecDepth 10000
abbrev eB (b:Bool):List PV:=[.bool b]
end
section
attribute [local irreducible] T TL
set_option maxRecDepth 10000
abbrev eNt (n:Nat):List PV:=[.int .i64 n]
abbrev NtS (l:List Nat):PV:=.list 8 (l.map eNt)
def rem (l:List (List ByteArray)) (at':List Nat):List (List ByteArray):=List.zipWith (fun x a=>x.drop a) l at'
structure Fits (l:List (List ByteArray)) (at':List Nat):Prop where
 len:at'.length=l.length
 le:∀ (i:Nat) (h:i<l.length) (h':i<at'.length),at'[i]≤l[i].length
variable {l:List (List ByteArray)} {at':List Nat}
theorem rem_len (f:Fits l at'):(rem l at').length=l.length:=by simp[rem,f.len]
theorem rem_get (f:Fits l at') {i:Nat} (h:i<l.length) (h':i<at'.length) (h2:i<(rem l at').length):(rem l at')[i]=l[i].drop at'[i]:=by simp[rem]
theorem good_nil (l:List (List ByteArray)):eZ l []=false:=rfl
theorem idxF_neg {α:Type} (p:α→Bool) (l:List α):decide (cQ p l<0)=!(l.any p):=by
 rw[← nI]
 by_cases h:cQ p l<0
 ·have h':¬ 0≤cQ p l:=by omega
  simp[h,h']
 ·have h':0≤cQ p l:=by omega
  simp[h,h']
theorem refCand_spec (l:List (List ByteArray)) (at':List Nat) (f:Fits l at') (hb:∀ x∈l,x.length≤120):FnP PP 198 [uN l,NtS at'] (.int .i64 (cQ (eZ (rem l at')) (rem l at'))):=by
 refine aJ aI Tryz.func198 rfl (by rfl) (by rfl) ?_
 refine cJ (bW (d:=0) rfl) fun hlen=>?_
 rw[List.length_map] at hlen
 have hal:=f.len
 have hrl:=rem_len f
 refine go ?_;intros
 refine aU (aY (α:=Nat) (inv:=fun i=>i≤l.length∧∀ j (_:j<i) (h':j<(rem l at').length),eZ (rem l at') (rem l at')[j]=false)
  (tm:=fun i=>gF 69 [(0,uN l),(1,NtS at'),(5,.int .i64 i)]) (st:=fun _=>E) (μ:=fun i=>l.length - i) 0 ⟨by omega,by simp⟩ ?_ (aB _) ?_)
 ·repeat' (first | exact trivial | exact rfl | refine And.intro ?_ ?_)
 rintro i ⟨hi,hpre⟩
 refine go ?_;intros
 refine fC (fun hc=>?_) (fun hc=>?_)
 ·have hil:i<l.length:=by simpa using hc
  have hia:i<at'.length:=by omega
  have hir:i<(rem l at').length:=by omega
  have hri:=rem_get f hil hia hir
  have hle:=f.le i hil hia
  have hb0:=hb _ (List.getElem_mem hil)
  refine go ?_;intros
  refine aU (aT aI (by rfl) 10 (by decide) ?_)
  refine go ?_;intros
  refine fC (fun hc=>?_) (fun hc=>?_)
  ·have he:at'[i]=l[i].length:=by simp at hc;omega
   refine go ?_;intros
   refine⟨i+1,⟨by omega,fun j hj h'=>?_⟩,by omega,?_,aB _⟩
   ·by_cases e:j=i
    ·subst e;rw[hri,List.drop_of_length_le (by omega)];rfl
    ·exact hpre j (by omega) h'
   ·repeat' (first | exact trivial | exact rfl | refine And.intro ?_ ?_)
  ·have hlt:at'[i]<l[i].length:=by simp at hc;omega
   refine go ?_;intros
   refine aU (aY (α:=Nat × Bool) (inv:=fun x=>x.1≤l.length∧x.2=((rem l at').take x.1).all fun y=>!(y.tail.any (nL l[i][at'[i]])))
    (tm:=fun x=>gF 69 [(0,uN l),(1,NtS at'),(5,.int .i64 i),(6,.bool x.2),(7,.int .i64 x.1)]) (st:=fun _=>E) (μ:=fun x=>l.length - x.1) (0,true) ⟨by simp,by simp⟩ ?_ (aB _) ?_)
   ·repeat' (first | exact trivial | exact rfl | refine And.intro ?_ ?_)
   rintro⟨k,b⟩ ⟨hk,hbk⟩
   dsimp only at hk hbk ⊢
   have hx:0<((rem l at')[i]).length:=by rw[hri,List.length_drop];omega
   have hx0:((rem l at')[i])[0]=l[i][at'[i]]:=by simp[hri]
   have stopNo:b=false→eZ (rem l at') (rem l at')[i]=false:=fun h=>by
    rw[hbk] at h
    obtain⟨y,hy,h2⟩:=List.all_eq_false.1 h
    exact good_no hx (List.mem_of_mem_take hy) (by rw[hx0];simpa using h2)
   have stopYes:b=true→l.length≤k→eZ (rem l at') (rem l at')[i]=true:=fun h hle=>by
    rw[hbk,List.take_of_length_le (by omega)] at h
    exact good_yes hx fun y hy=>by rw[hx0];simpa using List.all_eq_true.1 h y hy
   have next:eZ (rem l at') (rem l at')[i]=false→∀ j (_:j<i+1) (h':j<(rem l at').length),eZ (rem l at') (rem l at')[j]=false:=fun hg j hj h'=>by
    by_cases e:j=i
    ·subst e;exact hg
    ·exact hpre j (by omega) h'
   refine go ?_;intros
   refine fC (fun hc=>?_) (fun hc=>?_)
   ·have hkl:k<l.length:=by simpa using hc
    have hka:k<at'.length:=by omega
    have hkr:k<(rem l at').length:=by omega
    have hrk:=rem_get f hkl hka hkr
    have hlek:=f.le k hkl hka
    have hbk0:=hb _ (List.getElem_mem hkl)
    refine go ?_;intros
    refine And.intro (fun hb1=>?_) (fun hb1=>?_)
    ·subst hb1
     refine go ?_;intros
     refine aU (aT aI (by rfl) 35 (by decide) ?_)
     refine go ?_;intros
     refine ifF (fun hc=>?_) (fun hc=>?_)
     ·have hlt2:at'[k]<l[k].length:=by simp at hc;omega
      have e1:(l[k].drop (at'[k]+1))=((rem l at')[k]).tail:=by rw[hrk,List.tail_drop]
      refine go ?_;intros
      refine⟨(k+1,decide (cQ (nL l[i][at'[i]]) (l[k].drop (at'[k]+1))<0)),⟨by dsimp only;omega,?_⟩,by dsimp only;omega,by repeat' (first | exact trivial | exact rfl | refine And.intro ?_ ?_),aB _⟩
      ·dsimp only
       rw[List.take_succ_eq_append_getElem hkr,List.all_append,← hbk,e1,idxF_neg];simp
     ·have he2:at'[k]=l[k].length:=by simp at hc;omega
      refine go ?_;intros
      refine⟨(k+1,true),⟨by dsimp only;omega,?_⟩,by dsimp only;omega,?_,aB _⟩
      ·dsimp only
       rw[List.take_succ_eq_append_getElem hkr,List.all_append,← hbk,hrk,List.drop_of_length_le (by omega)];rfl
      ·repeat' (first | exact trivial | exact rfl | refine And.intro ?_ ?_)
    ·subst hb1
     refine go ?_;intros
     refine⟨i+1,⟨by omega,next (stopNo rfl)⟩,by omega,?_,aB _⟩
     ·repeat' (first | exact trivial | exact rfl | refine And.intro ?_ ?_)
   ·have hkl:¬ k<l.length:=by simpa using hc
    refine go ?_;intros
    refine And.intro (fun hb1=>?_) (fun hb1=>?_)
    ·refine go ?_;intros
     refine⟨E,aM _,?_,rfl⟩
     rw[iM hir (stopYes hb1 (by omega)) hpre]
    ·refine go ?_;intros
     refine⟨i+1,⟨by omega,next (stopNo hb1)⟩,by omega,?_,aB _⟩
     ·repeat' (first | exact trivial | exact rfl | refine And.intro ?_ ?_)
 ·have hge:¬ i<l.length:=by simpa using hc
  refine go ?_;intros
  refine⟨E,aM _,?_,rfl⟩
  rw[eN fun j h'=>hpre j (by omega) h']
def oS (l:List (List ByteArray)):List ByteArray × Bool:=if lawL l then ([],false) else match cG l with
 | some out=>(out,true)
 | none=>([],false)
end
section
attribute [local irreducible] T TL
set_option maxRecDepth 10000
variable {l:List (List ByteArray)} {at':List Nat}
theorem total_take (l:List (List ByteArray)) {i:Nat} (h:i<l.length):cN (l.take (i+1))=cN (l.take i)+l[i].length:=by
 rw[List.take_succ_eq_append_getElem h];simp only[cN,List.map_append,List.sum_append,List.map_cons,List.map_nil,List.sum_cons,List.sum_nil,Nat.add_zero]
theorem rem_zero (l:List (List ByteArray)):rem l (List.replicate l.length 0)=l:=by
 refine List.ext_getElem (by simp[rem]) fun i h1 h2=>by simp[rem]
theorem fits_zero (l:List (List ByteArray)):Fits l (List.replicate l.length 0):=⟨by simp,fun i h h'=>by simp⟩
theorem rem_set (f:Fits l at') {j:Nat} (hj:j<l.length) (hja:j<at'.length):rem l (at'.set j (at'[j]+1))=(rem l at').set j (l[j].drop (at'[j]+1)):=by
 refine List.ext_getElem (by simp[rem]) fun i h1 h2=>?_
 rw[List.getElem_set]
 simp only[rem,List.getElem_zipWith,List.getElem_set]
 split
 ·rename_i e;subst e;rfl
 ·rfl
theorem fits_set (f:Fits l at') {j:Nat} (hj:j<l.length) (hja:j<at'.length) (h:at'[j]<l[j].length):Fits l (at'.set j (at'[j]+1)):=by
 refine⟨by simpa using f.len,fun i hi hi'=>?_⟩
 rw[List.getElem_set]
 split
 ·rename_i e;subst e;omega
 ·exact f.le i hi (by simpa using hi')
theorem total_set {ls:List (List ByteArray)} {j:Nat} (hj:j<ls.length) (y:List ByteArray):cN (ls.set j y)+ls[j].length=cN ls+y.length:=by
 induction ls generalizing j with
 | nil=>simp at hj
 | cons x ls ih=>
  cases j with
  | zero=>simp[cN];omega
  | succ j=>
   have:=ih (j:=j) (by simpa using hj)
   simp only[cN,List.set_cons_succ,List.map_cons,List.sum_cons,List.getElem_cons_succ] at this ⊢
   omega
theorem candO_idx {R:List (List ByteArray)}:(cQ (eZ R) R<0→iG R=none)∧∀ i (hi:i<R.length),cQ (eZ R) R=i→∃ h:0<R[i].length,iG R=some (R[i][0]):=by
 constructor
 ·intro h
  rcases fJ (eZ R) R with ⟨_,hn⟩ | ⟨i,hi,e,_,_⟩
  ·unfold iG
   rw[find_no hn]
  ·omega
 ·intro i hi h
  rcases fJ (eZ R) R with ⟨e,_⟩ | ⟨k,hk,e,hp,hpre⟩
  ·omega
  ·have:k=i:=by omega
   subst this
   unfold iG
   rw[find_at hk hp hpre]
   cases hR:R[k] with
   | nil=>rw[hR,good_nil] at hp;cases hp
   | cons a t=>exact⟨by simp,by simp⟩
theorem any_pos {R:List (List ByteArray)} (h:0<cN R):R.any (fun x=>decide (x.length > 0))=true:=by
 induction R with
 | nil=>simp[cN] at h
 | cons x R ih=>
  simp only[cN,List.map_cons,List.sum_cons] at h ih
  simp only[List.any_cons,Bool.or_eq_true,decide_eq_true_eq]
  by_cases hx:0<x.length
  ·exact .inl hx
  ·exact .inr (ih (by omega))
theorem upd_comm {S:aD} {a b:Nat} {x y:AO} (h:a≠b):aK (aK S a x) b y=aK (aK S b y) a x:=by
 funext k
 simp only[aK]
 by_cases h1:k=b
 ·subst h1;simp[Ne.symm h]
 ·simp[h1]
theorem takeOff_hit {s:ByteArray} {x:List ByteArray} (h:0<x.length) (e:x[0]=s):bF s x=x.drop 1:=by
 cases x with
 | nil=>simp at h
 | cons a t=>
  have:a=s:=e
  simp[bF,this]
theorem takeOff_miss {s:ByteArray} {x:List ByteArray} (h:∀ h:0<x.length,x[0]≠s):bF s x=x:=by
 cases x with
 | nil=>rfl
 | cons a t=>
  have:a≠s:=h (by simp)
  simp[bF,this]
set_option maxHeartbeats 4000000 in
theorem refMerge_spec (l:List (List ByteArray)):FnP PP 172 [uN l] (.tup [LS (oS l).1,.bool (oS l).2]):=by
 refine cL (aJ aI Tryz.func172 rfl (by rfl) (by rfl) ?_)
 refine cJ (bW (d:=0) rfl) fun hlen=>?_
 rw[List.length_map] at hlen
 have no:∀ h:lawL l=true,∀ S,aO (.ret (.tup [.nils,.bool false])) S fun o S'=>o=.ret (.tup [LS (oS l).1,.bool (oS l).2])∧S'=E:=fun h S=>
  aO.weak (aM _) (aO.nilv sQ (aO.same ⟨by unfold oS;rw[if_pos h],rfl⟩))
 refine go ?_;intros
 refine fC (fun hc=>?_) (fun hc=>?_)
 ·have hn:l.length > 20:=by simp at hc;omega
  refine go ?_;intros
  exact⟨E,aB _,no (by simp[lawL];omega) _⟩
 ·have hn:l.length≤20:=by simp at hc;omega
  refine go ?_;intros
  refine aU (aY (α:=Nat) (inv:=fun i=>i≤l.length∧∀ x∈l.take i,x.length≤120∧x.Nodup)
   (tm:=fun i=>gF 104 [(0,uN l),(4,.int .i64 (cN (l.take i))),(5,.int .i64 i)]) (st:=fun _=>E) (μ:=fun i=>l.length - i) 0 ⟨by omega,by simp⟩ ?_ (aB _) ?_)
  ·repeat' (first | exact trivial | exact rfl | refine And.intro ?_ ?_)
  rintro i ⟨hi,hpre⟩
  have htl:cN (l.take i)≤2400:=Nat.le_trans (total_le 120 _ fun x hx=>(hpre x hx).1) (by rw[List.length_take];omega)
  refine go ?_;intros
  refine fC (fun hc=>?_) (fun hc=>?_)
  ·have hil:i<l.length:=by simpa using hc
   have bad:¬ (l[i].length≤120∧l[i].Nodup)→lawL l=true:=fun h=>by
    unfold lawL
    rw[Bool.or_eq_true,List.any_eq_true]
    refine .inr ⟨l[i],List.getElem_mem hil,?_⟩
    by_cases h2:l[i].length≤120
    ·rw[Bool.or_eq_true,Bool.not_eq_true',decide_eq_false_iff_not];exact .inr fun h3=>h ⟨h2,h3⟩
    ·simp;exact .inl (by omega)
   refine go ?_;intros
   refine ifF (fun h1=>?_) (fun h1=>?_)
   ·have h1':l[i].length≤120:=by simp at h1;omega
    refine go ?_;intros
    refine ifN (fun h2=>?_) (fun h2=>?_)
    ·refine go ?_;intros
     exact⟨E,aB _,no (bad fun h=>h2 h.2) _⟩
    ·refine go ?_;intros
     refine⟨i+1,⟨by omega,fun x hx=>?_⟩,by omega,?_,aB _⟩
     ·rw[List.take_succ_eq_append_getElem hil,List.mem_append] at hx
      rcases hx with hx | hx
      ·exact hpre x hx
      ·rw[List.mem_singleton.1 hx];exact⟨h1',h2⟩
     ·repeat' (first | exact trivial | exact rfl | refine And.intro ?_ ?_)
      rw[total_take l hil,List.length_map];rfl
   ·refine go ?_;intros
    exact⟨E,aB _,no (bad fun h=>by simp at h1;omega) _⟩
  ·have hge:l.take i=l:=List.take_of_length_le (by simp at hc;omega)
   rw[hge] at htl hpre ⊢
   refine go ?_;intros
   have hlaw:lawL l=false:=by
    unfold lawL
    rw[Bool.or_eq_false_iff,decide_eq_false_iff_not]
    refine⟨by omega,List.any_eq_false.2 fun x hx=>?_⟩
    have:=hpre x hx
    simp[this.2];omega
   have hmp:oS l=match cG l with | some out=>(out,true) | none=>([],false):=by unfold oS;rw[if_neg (by simp[hlaw])] <;> cases cG l <;> rfl
   have hb1:(aH GT 3).bytes=8:=rfl
   have hs1:(aH GT 3).size=1:=rfl
   rw[List.length_map,hb1,hs1]
   refine And.intro (by omega) (And.intro (show _≤140737488355328 by omega) (And.intro (by omega) ?_))
   refine aG fun ga hga=>?_
   rw[show (List.replicate (l.length:Int).toNat (aH GT 3).zero)=(List.replicate l.length 0).map eNt by rw[List.map_replicate];rfl,Int.toNat_natCast]
   refine go ?_;intros
   refine aU (gJ 7 1 16 rfl fun gq hgq=>?_)
   have hne:ga≠gq:=Ne.symm (aL (aA _ _ _) hgq)
   let st:List Nat→List ByteArray→aD:=fun a o=>aK (aK E ga (.row 0 1 8 (a.map eNt))) gq (.row o.length 1 16 (o.map eS))
   have hA:∀ a o,st a o ga=some (.row 0 1 8 (a.map eNt)):=fun a o=>by simp only[st];rw[aC hne,aA]
   have hQ:∀ a o,st a o gq=some (.row o.length 1 16 (o.map eS)):=fun a o=>aA _ _ _
   refine aY (α:=List Nat × List ByteArray) (inv:=fun x=>Fits l x.1∧cG l=(cG (rem l x.1)).map (x.2 ++ ·)∧x.2.length+cN (rem l x.1)≤cN l)
    (tm:=fun x=>gF 104 [(0,uN l),(4,.int .i64 (cN (rem l x.1))),(6,.row ga 0 0 l.length 1),(7,.row gq x.2.length 0 x.2.length 1)]) (st:=fun x=>st x.1 x.2) (μ:=fun x=>cN (rem l x.1))
    (List.replicate l.length 0,[]) ⟨fits_zero l,by rw[rem_zero];simp,by rw[rem_zero];simp⟩ ?_ (aB _) ?_
   ·repeat' (first | exact trivial | exact rfl | refine And.intro ?_ ?_)
    rw[rem_zero]
   rintro⟨a,out⟩ ⟨hf,hmx,hot⟩
   dsimp only at hf hmx hot ⊢
   have hAa:=hA a out
   have hQa:=hQ a out
   have hfl:=hf.len
   have hrl:=rem_len hf
   refine go ?_;intros
   refine fC (fun hc=>?_) (fun hc=>?_)
   ·have htp:0<cN (rem l a):=by omega
    refine go ?_;intros
    refine gK (refCand_spec l a hf fun x hx=>(hpre x hx).1) ⟨.same _,?_,trivial⟩ (.int _ _) ?_
    ·exact pK hAa (by rw[List.length_map,hfl])
    refine go ?_;intros
    refine fC (fun hc=>?_) (fun hc=>?_)
    ·refine go ?_;intros
     refine⟨_,aB _,aO.weak (aM _) (aO.nilv sQ (aO.same ⟨?_,rfl⟩))⟩
     have hnone:=pX (any_pos htp) ((candO_idx (R:=rem l a)).1 hc)
     rw[hmp,hmx,hnone];rfl
    ·obtain⟨c,hcl,hci⟩:∃ c,c<(rem l a).length∧cQ (eZ (rem l a)) (rem l a)=(c:Int):=by
      rcases fJ (eZ (rem l a)) (rem l a) with ⟨e,_⟩ | ⟨k,hk,e,_,_⟩
      ·omega
      ·exact⟨k,hk,e⟩
     obtain⟨hRc,hcand⟩:=(candO_idx (R:=rem l a)).2 c hcl hci
     have hcl':c<l.length:=by omega
     have hca:c<a.length:=by omega
     have hrc:=rem_get hf hcl' hca hcl
     have hac:a[c]<l[c].length:=by rw[hrc,List.length_drop] at hRc;omega
     have hs0:(rem l a)[c][0]=l[c][a[c]]:=by simp[hrc]
     have hbc:=(hpre _ (List.getElem_mem hcl')).1
     rw[hs0] at hcand
     generalize hsv:l[c][a[c]]=s at hcand hs0
     rw[hci]
     refine go ?_;intros
     refine aU (aT aI (by rfl) 11 (by decide) ?_)
     refine go ?_;intros
     subst hsv
     refine aU (aY (α:=List Nat × Nat) (inv:=fun x=>x.2≤l.length∧Fits l x.1∧rem l x.1=mix (bF (l[c][a[c]])) x.2 (rem l a)∧cN (rem l x.1)≤2400)
      (tm:=fun x=>gF 104 [(0,uN l),(4,.int .i64 (cN (rem l x.1))),(6,.row ga 0 0 l.length 1),(7,.row gq (out++[l[c][a[c]]]).length 0 (out++[l[c][a[c]]]).length 1),(9,.str l[c][a[c]]),(10,.int .i64 x.2)])
      (st:=fun x=>st x.1 (out++[l[c][a[c]]])) (μ:=fun x=>l.length - x.2) (a,0) ⟨by simp,hf,by rw[mix_zero],by dsimp only;omega⟩ ?_ ?_ ?_)
     ·repeat' (first | exact trivial | exact rfl | refine And.intro ?_ ?_)
      simp
     ·simp only[st];rw[aN];simp;exact aB _
     rintro⟨a',j⟩ ⟨hj,hf',hm',ht'⟩
     dsimp only at hj hf' hm' ht' ⊢
     have hA':=hA a' (out++[l[c][a[c]]])
     have hfl':=hf'.len
     have hrl':=rem_len hf'
     refine go ?_;intros
     refine fC (fun hc=>?_) (fun hc=>?_)
     ·have hjl:j<l.length:=by simpa using hc
      have hja:j<a'.length:=by omega
      have hjr:j<(rem l a').length:=by omega
      have hrj:=rem_get hf' hjl hja hjr
      have hbj:=(hpre _ (List.getElem_mem hjl)).1
      have hlej:=hf'.le j hjl hja
      have hjR:j<(rem l a).length:=by omega
      have hRj:(rem l a)[j]=l[j].drop a'[j]:=by
       have:=mix_get (bF (l[c][a[c]])) hjR
       rw[← hm',List.getElem?_eq_getElem hjr] at this
       rw[← Option.some.inj this,hrj]
      refine go ?_;intros
      refine aU (aT aI (by rfl) 24 (by decide) ?_)
      refine go ?_;intros
      have miss:¬ (∃ h:a'[j]<l[j].length,l[j][a'[j]]=l[c][a[c]])→bF (l[c][a[c]]) (rem l a)[j]=(rem l a)[j]:=fun h=>takeOff_miss fun h1 h2=>h (by
       rw[hRj,List.length_drop] at h1
       exact⟨by omega,by simpa[hRj] using h2⟩)
      have same:bF (l[c][a[c]]) (rem l a)[j]=(rem l a)[j]→rem l a'=mix (bF (l[c][a[c]])) (j+1) (rem l a):=fun h=>by
       rw[xS _ hjR,← hm',h,hRj,← hrj,List.set_getElem_self]
      refine fC (fun hc=>?_) (fun hc=>?_)
      ·have hlt:a'[j]<l[j].length:=by simp at hc;omega
       refine go ?_;intros
       refine fC (fun hc=>?_) (fun hc=>?_)
       ·have hst:=rem_set hf' hjl hja
        have hts:=total_set hjr (l[j].drop (a'[j]+1))
        rw[hrj,List.length_drop,List.length_drop] at hts
        have hhit:bF (l[c][a[c]]) (rem l a)[j]=l[j].drop (a'[j]+1):=by
         rw[hRj,takeOff_hit (by rw[List.length_drop];omega) (by simpa using hc),List.drop_drop]
        have hmix:rem l (a'.set j (a'[j]+1))=mix (bF (l[c][a[c]])) (j+1) (rem l a):=by
         rw[xS _ hjR,← hm',hhit,hst]
        refine go ?_;intros
        refine⟨(a'.set j (a'[j]+1),j+1),⟨by dsimp only;omega,fits_set hf' hjl hja hlt,hmix,by dsimp only;rw[hst];omega⟩,by dsimp only;omega,?_,?_⟩
        ·repeat' (first | exact trivial | exact rfl | refine And.intro ?_ ?_)
         rw[hst];congr 1;omega
        ·simp only[st];rw[upd_comm (Ne.symm hne),aN];exact aB _
       ·refine go ?_;intros
        refine⟨(a',j+1),⟨by dsimp only;omega,hf',same (miss fun⟨_,h⟩=>hc h),ht'⟩,by dsimp only;omega,by repeat' (first | exact trivial | exact rfl | refine And.intro ?_ ?_),aB _⟩
      ·refine go ?_;intros
       refine⟨(a',j+1),⟨by dsimp only;omega,hf',same (miss fun⟨h,_⟩=>by simp at hc;omega),ht'⟩,by dsimp only;omega,by repeat' (first | exact trivial | exact rfl | refine And.intro ?_ ?_),aB _⟩
     ·have hge:¬ j<l.length:=by simpa using hc
      refine go ?_;intros
      rw[mix_end _ (by omega)] at hm'
      have hany:=any_pos htp
      refine⟨(a',out++[l[c][a[c]]]),⟨hf',?_,?_⟩,?_,by repeat' (first | exact trivial | exact rfl | refine And.intro ?_ ?_),aB _⟩
      ·rw[hmx,jP hany hcand,← hm']
       cases cG (rem l a') <;> simp
      ·have:=dO (s:=l[c][a[c]]) (l:=rem l a) (iX hcand)
       dsimp only
       rw[hm',List.length_append];simp;omega
      ·dsimp only
       rw[hm'];exact dO (iX hcand)
   ·have h0:cN (rem l a)=0:=by omega
    refine go ?_;intros
    refine⟨_,aB _,aO.freeze hQa (fz_tup2 (by simp)) (aO.weak (aM _) (aO.same ⟨?_,rfl⟩))⟩
    rw[hmp,hmx,kR (pE h0)];simp
instance (priority:=2000) (l:List (List ByteArray)):cH 172 [uN l] (.tup [LS (oS l).1,.bool (oS l).2]):=⟨refMerge_spec l⟩
end
section
attribute [local irreducible] T TL
set_option maxRecDepth 10000
theorem supsN_snoc {f:Nat→Option (List ByteArray)} {g:List bA} {s:ByteArray} {k:Nat} (hk:oD g s=some k):∀ {l:List ByteArray} {ls:List (List ByteArray)},fB f g l=some ls→fB f g (l++[s])=(f k).map fun x=>ls++[x]
 | [],ls,h=>by
  cases h
  simp only[List.nil_append,fB,hk]
  cases f k <;> rfl
 | a::l,ls,h=>by
  simp only[List.cons_append,fB] at h ⊢
  cases e:oD g a with
  | none=>rw[e] at h;cases h
  | some j=>
   rw[e] at h
   dsimp only at h ⊢
   cases e2:f j with
   | none=>rw[e2] at h;cases h
   | some x=>
    rw[e2] at h
    dsimp only at h ⊢
    cases e3:fB f g l with
    | none=>rw[e3] at h;cases h
    | some ls'=>
     rw[e3] at h
     simp only[Option.map_some,Option.some.injEq] at h
     subst h
     rw[supsN_snoc hk e3]
     cases f k <;> rfl
theorem supsN_none {f:Nat→Option (List ByteArray)} {g:List bA} {l m:List ByteArray} (h:fB f g l=none):fB f g (l++m)=none:=by
 induction l with
 | nil=>cases h
 | cons a l ih=>
  simp only[List.cons_append,fB] at h ⊢
  cases e:oD g a with
  | none=>rfl
  | some j=>
   rw[e] at h
   dsimp only at h ⊢
   cases e2:f j with
   | none=>rfl
   | some x=>
    rw[e2] at h
    dsimp only at h ⊢
    cases e3:fB f g l with
    | none=>rw[ih e3];rfl
    | some ls'=>rw[e3] at h;cases h
def dZ (g:List bA) (n:Nat):List (List ByteArray):=(List.range n).map fun i=>(iN g i).getD []
theorem oN (g:List bA) (n:Nat):(dZ g n).length=n:=by simp[dZ]
theorem yM {g:List bA} {n i:Nat} (h:i<n) (h':i<(dZ g n).length):(dZ g n)[i]=(iN g i).getD []:=by simp[dZ]
theorem lin_ne {g:List bA} {i:Nat} {l:List ByteArray} (h:iN g i=some l):l≠[]:=by
 unfold iN at h
 simp only[linN] at h
 cases e:g[i]? with
 | none=>rw[e] at h;cases h
 | some x=>
  rw[e] at h
  dsimp only at h
  cases e2:fB (linN i g) g x.2 with
  | none=>rw[e2] at h;cases h
  | some ls=>
   rw[e2] at h
   dsimp only at h
   cases e3:cG (ls++[x.2]) with
   | none=>rw[e3] at h;cases h
   | some o=>rw[e3] at h;cases h;simp
theorem oU {g:List bA} {i:Nat}:((iN g i).getD []).length=0↔iN g i=none:=by
 cases e:iN g i with
 | none=>simp
 | some l=>simp[lin_ne e]
def qB (g:List bA) (i:Nat):List (List ByteArray) × Bool:=match fH g i with
 | some ls=>(ls,true)
 | none=>([],false)
theorem sle_del {S:aD} {g:Nat} {x:AO} (hg:S g=none):bV (iZ (aK S g x) g) S:=fun h y hy=>by
 have e:h≠g:=by rintro rfl;rw[hg] at hy;cases hy
 unfold iZ;rw[if_neg e,aC e];exact hy
theorem refListsR_spec (g:List bA) (hg:Heirs g) (i:Nat) (hi:i<g.length) (gl:Nat):Fn PP 171 [HS g,.row gl i 0 i 1,.int .i64 i] (aK E gl (.row i 1 24 ((dZ g i).map eL)))
    (fun o S'=>o=.ret (.tup [uN (qB g i).1,.bool (qB g i).2])∧S'=aK E gl (.row i 1 24 ((dZ g i).map eL))):=by
  refine cL (aJ aI Tryz.func171 rfl (by rfl) (by rfl) ?_)
  have hll:=oN g i
  have hgl:=hg.len
  have hfew:=hg.few i hi
  have hX:fH g i=(fB (iN g) g g[i].2).map (· ++ [g[i].2]):=by unfold fH;rw[List.getElem?_eq_getElem hi]
  refine go ?_;intros
  refine aU (gJ 8 1 24 rfl fun gq hgq=>?_)
  have hne:gl≠gq:=Ne.symm (aL (aA _ _ _) hgq)
  let st:List (List ByteArray)→aD:=fun o=>aK (aK E gl (.row i 1 24 ((dZ g i).map eL))) gq (.row o.length 1 24 (o.map eL))
  have hS:∀ o,st o gq=some (.row o.length 1 24 (o.map eL)):=fun o=>aA _ _ _
  refine aY (α:=Nat × List (List ByteArray)) (inv:=fun x=>x.1≤g[i].2.length∧x.2.length=x.1∧fB (iN g) g (g[i].2.take x.1)=some x.2)
    (tm:=fun x=>gF 49 [(0,HS g),(1,.row gl i 0 i 1),(2,.int .i64 i),(8,.row gq x.2.length 0 x.2.length 1),(9,.int .i64 x.1)]) (st:=fun x=>st x.2) (μ:=fun x=>g[i].2.length - x.1)
    (0,[]) ⟨by simp,rfl,rfl⟩ ?_ (aB _) ?_
  · repeat' (first | exact trivial | exact rfl | refine And.intro ?_ ?_)
  rintro⟨k,o⟩ ⟨hk,hok,hsup⟩
  dsimp only at hk hok hsup ⊢
  have hSo:=hS o
  have hLo:st o gl=some (.row i 1 24 ((dZ g i).map eL)):=by simp only[st];rw[aC hne,aA]
  refine go ?_;intros
  refine fC (fun hc=>?_) (fun hc=>?_)
  · have hkl:k<g[i].2.length:=by simpa using hc
    obtain⟨p,hp,hps⟩:=hg.sup i hi _ (List.getElem_mem hkl)
    have hpg:p<g.length:=by omega
    have hat:oD g g[i].2[k]=some p:=by rw[← hps];exact hg.at hpg
    have hix:cQ (isH g[i].2[k]) g=(p:Int):=by rw[idxH_at hg,hat]
    have hpl:p<(dZ g i).length:=by omega
    have hlp:=yM (g:=g) hp hpl
    have hsn:=supsN_snoc hat hsup
    rw[← List.take_succ_eq_append_getElem hkl] at hsn
    refine go ?_;intros
    rw[hix]
    refine zV p rfl hp ?_
    refine go ?_;intros
    rw[hlp]
    refine fC (fun hc=>?_) (fun hc=>?_)
    · have hno:iN g p=none:=oU.1 (by simpa using hc)
      refine go ?_;intros
      refine⟨_,aB _,aO.weak (aR hgq) (aO.nilv nil_tup2L (aO.same ⟨?_,rfl⟩))⟩
      have:fB (iN g) g g[i].2=none:=by
        rw[← List.take_append_drop (k+1) g[i].2]
        exact supsN_none (by rw[hsn,hno];rfl)
      unfold qB;rw[hX,this];rfl
    · have hyes:iN g p≠none:=fun h=>hc (by simpa using oU.2 h)
      cases hx:iN g p with
      | none=>exact absurd hx hyes
      | some x=>
        rw[hx] at hsn
        simp only[Option.getD_some]
        refine go ?_;intros
        refine⟨(k+1,o++[x]),⟨by dsimp only;omega,by dsimp only;rw[List.length_append,hok];rfl,hsn⟩,by dsimp only;omega,?_,?_⟩
        · repeat' (first | exact trivial | exact rfl | refine And.intro ?_ ?_)
          simp
        · simp only[st];rw[aN,List.map_append,List.length_append];exact aB _
  · have hkl:¬ k<g[i].2.length:=by simpa using hc
    rw[List.take_of_length_le (by omega)] at hsup
    refine go ?_;intros
    refine⟨_,aB _,aO.freeze (aA _ _ _) (fz_tup2 (by simp)) (aO.weak (S':=aK E gl (.row i 1 24 ((dZ g i).map eL))) (by simp only[st];rw[aN];exact sle_del hgq) (aO.same ⟨?_,rfl⟩))⟩
    unfold qB;rw[hX,hsup];simp
end
section
attribute [local irreducible] T TL
set_option maxRecDepth 10000
theorem lists_law {g:List bA} (hg:Heirs g) {i:Nat} (hi:i<g.length) {ls:List (List ByteArray)} (h:fH g i=some ls):lawL ls=false:=by
 unfold fH at h
 rw[List.getElem?_eq_getElem hi] at h
 dsimp only at h
 cases e:fB (iN g) g g[i].2 with
 | none=>rw[e] at h;cases h
 | some l'=>
  rw[e] at h
  simp only[Option.map_some,Option.some.injEq] at h
  subst h
  obtain⟨h1,h2⟩:=uM e
  have hf:=hg.few i hi
  unfold lawL
  rw[Bool.or_eq_false_iff]
  refine⟨by simp;omega,List.any_eq_false.2 fun x hx=>?_⟩
  rcases List.mem_append.1 hx with hx | hx
  ·obtain⟨s,hs,k,hk,hlk⟩:=h2 x hx
   obtain⟨hkl,_⟩:=rY hk
   obtain⟨t,_,hnd,_⟩:=uR hg k hkl x hlk
   have:=lin_len hg hkl hlk
   simp[hnd];omega
  ·rw[List.mem_singleton.1 hx]
   have:=hg.dist i hi
   simp[this];omega
theorem lin_lists {g:List bA} (hg:Heirs g) {i:Nat} (hi:i<g.length):iN g i=match fH g i with
  | none=>none
  | some ls=>(cG ls).map (g[i].1 :: ·):=by
 rw[lin_eq hg hi]
 unfold fH
 rw[List.getElem?_eq_getElem hi]
 dsimp only
 cases fB (iN g) g g[i].2 <;> rfl
theorem lines_succ (g:List bA) (i:Nat):dZ g (i+1)=dZ g i++[(iN g i).getD []]:=by
 simp[dZ,List.range_succ]
theorem refListsR' (g:List bA) (hg:Heirs g) (i:Nat) (hi:i<g.length) (gl:Nat):Fn PP 171 [HS g,.row gl (dZ g i).length 0 (dZ g i).length 1,.int .i64 i] (aK E gl (.row (dZ g i).length 1 24 ((dZ g i).map eL)))
  (fun o S'=>o=.ret (.tup [uN (qB g i).1,.bool (qB g i).2])∧S'=aK E gl (.row (dZ g i).length 1 24 ((dZ g i).map eL))):=by
 have h:=refListsR_spec g hg i hi gl
 rw[oN];exact h
theorem zK (g:List bA) (hg:Heirs g) (n:Nat) (hn:n≤g.length) (z:Int) (hz:z=(n:Int) - 1):FnP PP 135 [HS g,.int .i64 z] (uN (dZ g n)):=by
 refine cL (aJ aI Tryz.func135 rfl (by rfl) (by rfl) ?_)
 have hgl:=hg.len
 refine go ?_;intros
 refine aU (gJ 5 1 24 rfl fun gq hgq=>?_)
 let st:List (List ByteArray)→aD:=fun o=>aK E gq (.row o.length 1 24 (o.map eL))
 have hS:∀ o,st o gq=some (.row o.length 1 24 (o.map eL)):=fun o=>aA _ _ _
 refine aY (α:=Nat) (inv:=fun i=>i≤n)
  (tm:=fun i=>gF 44 [(0,HS g),(1,.int .i64 z),(5,.row gq (dZ g i).length 0 (dZ g i).length 1),(6,.int .i64 i)]) (st:=fun i=>st (dZ g i)) (μ:=fun i=>n - i)
  0 (by omega) ?_ (aB _) ?_
 ·repeat' (first | exact trivial | exact rfl | refine And.intro ?_ ?_)
 intro i hin
 have hSo:=hS (dZ g i)
 have hll:=oN g i
 refine go ?_;intros
 refine fC (fun hc=>?_) (fun hc=>?_)
 ·have hi:i<g.length:=by omega
  have hll1:=oN g (i+1)
  have hll2:=lines_succ g i
  have hfin:∀ x,x=(iN g i).getD []→bV (aK (st (dZ g i)) gq (.row ((dZ g i).length+1) 1 24 ((dZ g i).map eL++[eL x]))) (st (dZ g (i+1))):=fun x hx=>by
   subst hx
   simp only[st]
   rw[aN,hll2,List.map_append,List.length_append];exact aB _
  refine go ?_;intros
  refine bN (S1:=st (dZ g i)) (refListsR' g hg i hi gq) (aB _) ?_
  refine go ?_;intros
  refine And.intro (fun hb=>?_) (fun hb=>?_)
  ·cases hX:fH g i with
   | none=>simp[qB,hX] at hb
   | some ls=>
    have hlaw:=lists_law hg hi hX
    have hB:(qB g i).1=ls:=by simp[qB,hX]
    have hP:oS ls=match cG ls with | some out=>(out,true) | none=>([],false):=by unfold oS;rw[if_neg (by simp[hlaw])] <;> cases cG ls <;> rfl
    have hlin:=lin_lists hg hi
    rw[hX] at hlin
    dsimp only at hlin
    rw[hB]
    refine go ?_;intros
    refine And.intro (fun hm=>?_) (fun hm=>?_)
    ·cases hmx:cG ls with
     | none=>rw[hP,hmx] at hm;cases hm
     | some out=>
      rw[hmx] at hP hlin
      dsimp only at hP
      simp only[hP]
      have hlen:=lin_len hg hi hlin
      simp only[Option.map_some,List.length_cons] at hlen
      refine nO ?_;intros
      refine lY aI (nO ?_);intros
      refine .inr (aG fun gr hgr=>?_)
      have hne:gq≠gr:=Ne.symm (aL hSo hgr)
      refine nO ?_;intros
      refine And.intro (show (1+(out.map eS).length)*16≤140737488355328 by rw[List.length_map];omega) ?_
      rw[aN]
      refine nO ?_;intros
      refine sS (qJ.trans (yC (d:=9) (q:=LS (g[i].1::out)) (aA _ _ _) (eQ (by simp;omega))) (qJ.weak (aZ _) (sle_del hgr))) ?_
      refine go ?_;intros
      refine⟨i+1,by omega,by omega,?_,hfin (g[i].1::out) (by rw[hlin];rfl)⟩
      repeat' (first | exact trivial | exact rfl | refine And.intro ?_ ?_)
      rw[hll1,hll];simp
    ·cases hmx:cG ls with
     | some out=>rw[hP,hmx] at hm;cases hm
     | none=>
      rw[hmx] at hlin
      refine nO ?_;intros
      refine sS (View_nils (d:=9) (e:=16) rfl) ?_
      refine go ?_;intros
      refine⟨i+1,by omega,by omega,?_,hfin [] (by rw[hlin];rfl)⟩
      repeat' (first | exact trivial | exact rfl | refine And.intro ?_ ?_)
      rw[hll1,hll];simp
  ·have hX:fH g i=none:=by cases e:fH g i with
    | none=>rfl
    | some ls=>simp[qB,e] at hb
   have hlin:iN g i=none:=by rw[lin_lists hg hi,hX]
   refine nO ?_;intros
   refine sS (View_nils (d:=9) (e:=16) rfl) ?_
   refine go ?_;intros
   refine⟨i+1,by omega,by omega,?_,hfin [] (by rw[hlin];rfl)⟩
   repeat' (first | exact trivial | exact rfl | refine And.intro ?_ ?_)
   rw[hll1,hll];simp
 ·have e:i=n:=by omega
  subst e
  refine go ?_;intros
  refine⟨_,aB _,aO.freeze hSo (eQ (by simp)) (aO.weak (aM _) (aO.same ⟨rfl,rfl⟩))⟩
end
section
attribute [local irreducible] T TL
set_option maxRecDepth 10000
theorem refLinz_spec (g:List bA) (name:ByteArray):FnP PP 142 [HS g,.str name] (.tup [LS (linzP g name).1,.int .i64 (linzP g name).2]):=by
 refine cL (aJ aI Tryz.func142 rfl (by rfl) (by rfl) ?_)
 refine go ?_;intros
 refine ifN (fun hc=>?_) (fun hc=>?_)
 ·refine go ?_;intros
  refine⟨E,aB _,aO.nilv sQ (aO.same ⟨?_,rfl⟩)⟩
  unfold linzP
  by_cases hn:cX g≠0
  ·simp[vH,hn]
  ·rw[if_neg hn]
   cases e:oD g name with
   | none=>simp at hn;simp[vH,hn,e]
   | some k=>simp at hn;simp[vH,hn,e] at hc
 ·have hn:cX g=0:=Classical.byContradiction fun h=>by simp[vH,h] at hc
  have hg:=xX hn
  cases hat:oD g name with
  | none=>simp[vH,hn,hat] at hc
  | some i=>
  obtain⟨hi,hnm⟩:=rY hat
  have hix:cQ (isH name) g=(i:Int):=by rw[idxH_at hg,hat]
  have hlin:=zK g hg (i+1) (by omega) i (by omega)
  have hll:=oN g (i+1)
  have hil:i<(dZ g (i+1)).length:=by omega
  have hli:=yM (g:=g) (show i<i+1 by omega) hil
  refine go ?_;intros
  rw[hix]
  refine bE hlin ?_
  refine go ?_;intros
  rw[hli]
  refine fC (fun hc=>?_) (fun hc=>?_)
  ·have hno:iN g i=none:=oU.1 (by simpa using hc)
   refine go ?_;intros
   refine⟨_,aB _,aO.nilv sQ (aO.same ⟨?_,rfl⟩)⟩
   unfold linzP;simp[hn,hat,hno]
  ·cases hx:iN g i with
   | none=>exact absurd (by simpa using oU.2 hx) hc
   | some l=>
   refine go ?_;intros
   refine⟨_,aB _,aO.same ⟨?_,rfl⟩⟩
   unfold linzP;simp[hn,hat,hx,hli]
end
theorem merge_ind {C:List (List ByteArray)→Option (List ByteArray)→Prop} (h0:∀ l,iG l=none→l.any (fun x=>decide (x.length > 0))=false→C l (some []))
  (hn:∀ l,iG l=none→l.any (fun x=>decide (x.length > 0))=true→C l none)
  (hs:∀ l s,iG l=some s→C (l.map (bF s)) (cG (l.map (bF s)))→C l ((cG (l.map (bF s))).map (s :: ·))):∀ l,C l (cG l):=by
 suffices H:∀ n l,cN l=n→C l (cG l) from fun l=>H _ l rfl
 intro n
 induction n using Nat.strongRecOn with
 | _ n ih=>
  intro l hl
  cases e:iG l with
  | none=>
   cases ha:l.any (fun x=>decide (x.length > 0)) with
   | true=>rw[pX ha e];exact hn l e ha
   | false=>rw[kR ha];exact h0 l e ha
  | some s=>
   have hlt:=dO (iX e)
   have ha:l.any (fun x=>decide (x.length > 0))=true:=by
    obtain⟨x,hx,t,rfl⟩:=iX e
    exact List.any_eq_true.2 ⟨_,hx,by simp⟩
   rw[jP ha e]
   exact hs l s e (ih _ (by omega) _ rfl)
theorem merge_nodup {l:List (List ByteArray)} {out:List ByteArray} (h:cG l=some out):out.Nodup:=(zB _ l out (Nat.le_refl _) h).1
theorem good_one {a:ByteArray} {t:List ByteArray} (h:a∉t):eZ [a::t] (a::t)=true:=by
 refine good_yes (by simp) fun y hy=>?_
 rw[List.mem_singleton.1 hy]
 simp only[List.tail_cons,List.getElem_cons_zero]
 rw[Bool.eq_false_iff,Ne,jE];exact h
theorem merge_one:∀ (x:List ByteArray),x.Nodup→cG [x]=some x
 | [],_=>kR (by simp)
 | a::t,h=>by
  obtain⟨h1,h2⟩:=List.nodup_cons.1 h
  have hc:iG [a::t]=some a:=by unfold iG;simp[good_one h1]
  rw[jP (by simp) hc]
  simp[bF,merge_one t h2]
theorem cand_app {l:List (List ByteArray)} {s:ByteArray} {z:List ByteArray} (h:iG l=some s) (hz:s∉z.tail):iG (l++[z])=some s:=by
 have hg:∀ x,eZ (l++[z]) x=(eZ l x && match x with | []=>true | a::_=>!(z.tail.any (nL a))):=fun x=>by
  cases x with
  | nil=>simp[good_nil]
  | cons a t=>simp[eZ,List.all_append]
 unfold iG at h ⊢
 cases e:l.find? (eZ l) with
 | none=>rw[e] at h;cases h
 | some x=>
  rw[e] at h
  cases x with
  | nil=>cases h
  | cons a t=>
   simp only[Option.some.injEq] at h
   subst h
   have:(l++[z]).find? (eZ (l++[z]))=some (a::t):=by
    rw[List.find?_append]
    have h1:l.find? (eZ (l++[z]))=some (a::t):=by
     clear hg
     have hg2:∀ x,eZ (l++[z]) x=true→eZ l x=true:=fun x=>by
      cases x with
      | nil=>simp[good_nil]
      | cons b u=>simp only[eZ,List.all_append,Bool.and_eq_true];exact fun h=>h.1
     have hgx:eZ (l++[z]) (a::t)=true:=by
      have hx:=List.find?_some e
      simp only[eZ,List.all_append,Bool.and_eq_true] at hx ⊢
      refine⟨hx,?_⟩
      simp only[List.all_cons,List.all_nil,Bool.and_true,Bool.not_eq_true']
      rw[Bool.eq_false_iff,Ne,jE];exact hz
     generalize hp:eZ (l++[z])=p at hg2 hgx
     generalize hq:eZ l=q at hg2 e
     clear hp hq
     induction l with
     | nil=>cases e
     | cons y l ih=>
      rw[List.find?_cons] at e ⊢
      cases hq:q y with
      | true=>
       rw[hq] at e
       cases e
       rw[hgx]
      | false=>
       rw[hq] at e
       have:p y=false:=by
        cases hp:p y with
        | false=>rfl
        | true=>rw[hg2 y hp] at hq;cases hq
       rw[this];exact ih e
    rw[h1];rfl
   rw[this]
theorem sub_tail {s:ByteArray} {z o:List ByteArray} (h:z.Sublist (s::o)) (hn:(s::o).Nodup):s∉z.tail∧(bF s z).Sublist o:=by
 obtain⟨h1,h2⟩:=List.nodup_cons.1 hn
 cases z with
 | nil=>exact⟨by simp,List.nil_sublist _⟩
 | cons a t=>
  by_cases e:a=s
  ·subst e
   have:=List.cons_sublist_cons.1 h
   refine⟨fun hm=>h1 (this.subset hm),?_⟩
   simp only[bF,if_true];exact this
  ·have h3:(a::t).Sublist o:=by
    rcases List.sublist_cons_iff.1 h with h | ⟨r,hr,_⟩
    ·exact h
    ·injection hr with hr _;exact absurd hr e
   refine⟨fun hm=>h1 (h3.subset (List.mem_cons_of_mem _ hm)),?_⟩
   simp only[bF,if_neg e];exact h3
theorem merge_part:∀ (l:List (List ByteArray)) (out z:List ByteArray),cG l=some out→z.Sublist out→cG (l++[z])=some out:=by
 intro l
 refine merge_ind (C:=fun l o=>∀ out z,o=some out→z.Sublist out→cG (l++[z])=some out) ?_ ?_ ?_ l
 ·intro l hc ha out z ho hz
  cases ho
  rw[List.sublist_nil.1 hz]
  exact kR (by rw[List.any_append,ha];simp)
 ·intro l _ _ out z ho;cases ho
 ·intro l s hc ih out z ho hz
  cases e:cG (l.map (bF s)) with
  | none=>rw[e] at ho;cases ho
  | some o=>
   rw[e] at ho
   simp only[Option.map_some,Option.some.injEq] at ho
   subst ho
   have hany:l.any (fun x=>decide (x.length > 0))=true:=by
    obtain⟨x,hx,t,rfl⟩:=iX hc
    exact List.any_eq_true.2 ⟨_,hx,by simp⟩
   have hnd:(s::o).Nodup:=by
    have:=jP hany hc
    rw[e] at this
    exact merge_nodup this
   obtain⟨h1,h2⟩:=sub_tail hz hnd
   have hc2:=cand_app hc h1
   rw[jP (by rw[List.any_append,hany];rfl) hc2,List.map_append,List.map_cons,List.map_nil,ih o _ e h2]
   rfl
end Go.Proofs.YtbojdflgjpjbiaaGreat.L
