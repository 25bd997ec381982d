/- A logic over the machine, and what the functions of the seat come to: part 25. No claim stands here; the theorems are used by the row. -/
import Derived.Test.YtbojdflgjpjbiaaGreatJ4
import Derived.Test.YtbojdflgjpjbiaaGreatJ19
import Derived.Test.YtbojdflgjpjbiaaGreatJ24
set_option linter.unusedSimpArgs false
set_option linter.unnecessarySimpa false
set_option linter.unusedVariables false
namespace Go.Proofs.YtbojdflgjpjbiaaGreat.L
open Go
section
attribute [local irreducible] T TL
set_option maxRecDepth 10000
set_option maxHeartbeats 4000000
def tm7 (l:List ClassI) (c:ClassI) (b:Nat) (d:Nat→Bool) (g:Nat):List PV:=gF 42 [(0,CS l),(3,.ptr b 0 0 0 6),(32,vC (d 0) (.row g 0 0 0 6)),(33,vC (d 1) (CS l)),
 (34,vC (d 2) (.row g 1 0 l.length 6)),(35,vC (d 3) (CV c)),(36,vC (d 4) (.list 88 [eC c])),(37,vC (d 5) (.row g 2 0 (l.length+1) 6)),(8,vC (d 6) (.row g 2 0 (l.length+1) 6))]
def st7 (l:List ClassI) (c:ClassI) (Z:aD) (d:Nat→Bool) (g:Nat):aD:=match d 5 with
 | true=>aK Z g (.row 2 6 88 ((l++[c]).map eC))
 | false=>match d 2 with
  | true=>aK Z g (.row 1 6 88 (l.map eC))
  | false=>match d 0 with
   | true=>aK Z g (.row 0 6 88 [])
   | false=>Z
theorem region7 (l:List ClassI) (c:ClassI) (hl:l.length≤120) (b:Nat) (Z:aD) (kb:Z b=some (.row 0 6 0 [eC c])) {Q:bQ}
  (hJ:∀ g,Z g=none→∀ t,yH t (gF 42 [(0,CS l),(3,.ptr b 0 0 0 6),(8,.row g 2 0 (l.length+1) 6)])→Q .normal t (aK Z g (.row 2 6 88 ((l++[c]).map eC))) []) :
  T PP none (rgn Tryz.f101 7) Q (gF 42 [(0,CS l),(3,.ptr b 0 0 0 6)]) Z []:=by
 have ml:(l.map eC).length=l.length:=List.length_map _
 refine T_drawI (X:=Nat) aI (by rfl) (by kernel_rfl) (tm7 l c b) (st7 l c Z) (fun d g=>d 0=true→Z g=none) 0 (fun h=>by cases h) (by repeat' (first | exact trivial | exact rfl | refine And.intro ?_ ?_)) (aB _) ?_ ?_
 ·intro d g hok cl i hi hdi hdep
  have hi:i<7:=hi
  obtain rfl | rfl | rfl | rfl | rfl | rfl | rfl:i=0∨i=1∨i=2∨i=3∨i=4∨i=5∨i=6:=by omega
  ·obtain⟨d,rfl⟩:=fY (d:=d) (i:=2) (kK cl (j:=2) (k:=0) (by kernel_rfl) hdi)
   obtain⟨d,rfl⟩:=fY (d:=d) (i:=5) (kK cl (j:=5) (k:=2) (by kernel_rfl) rfl)
   obtain⟨d,rfl⟩:=fY (d:=d) (i:=6) (kK cl (j:=6) (k:=5) (by kernel_rfl) rfl)
   obtain⟨d,rfl⟩:=fY (d:=d) (i:=0) hdi
   clear cl hdep hok
   refine aF ?_;intros
   refine .inr (aG fun g1 hg1=>?_)
   rw[cD]
   exact⟨rfl,g1,fun _=>hg1,aZ _,aB _⟩
  ·clear cl hdep
   refine aF ?_;intros
   exact⟨g,hok,aZ _,aB _⟩
  ·obtain⟨d,rfl⟩:=fY (d:=d) (i:=5) (kK cl (j:=5) (k:=2) (by kernel_rfl) hdi)
   obtain⟨d,rfl⟩:=fY (d:=d) (i:=2) hdi
   obtain⟨d,rfl⟩:=cA (d:=d) (i:=0) (hdep 0 (by kernel_rfl))
   obtain⟨d,rfl⟩:=cA (d:=d) (i:=1) (hdep 1 (by kernel_rfl))
   have hg:=hok rfl
   have k1:aK Z g (.row 0 6 88 []) g=some (.row 0 6 88 []):=aA _ _ _
   clear cl hdep
   show OpI _ _ _ _ _ _ _ _ (aK Z g (.row 0 6 88 [])) _
   refine aF ?_;intros
   refine⟨g,hok,?_,?_⟩
   ·have e:0+(l.map eC).length=l.length:=by omega
    rw[e];exact aZ _
   ·rw[aN];exact aB _
  ·have k1:st7 l c Z d g b=some (.row 0 6 0 [eC c]):=by
    unfold st7
    cases e5:d 5 with
    | true=>exact aE kb (hok (cl 2 0 (by kernel_rfl) (cl 5 2 (by kernel_rfl) e5)))
    | false=>cases e2:d 2 with
     | true=>exact aE kb (hok (cl 2 0 (by kernel_rfl) e2))
     | false=>cases e0:d 0 with
      | true=>exact aE kb (hok e0)
      | false=>exact kb
   clear cl hdep
   refine aF ?_;intros
   exact⟨g,hok,aZ _,aB _⟩
  ·obtain⟨d,rfl⟩:=cA (d:=d) (i:=3) (hdep 3 (by kernel_rfl))
   clear cl hdep
   refine aF ?_;intros
   exact⟨g,hok,aZ _,aB _⟩
  ·obtain⟨d,rfl⟩:=cA (d:=d) (i:=2) (hdep 2 (by kernel_rfl))
   obtain⟨d,rfl⟩:=cA (d:=d) (i:=4) (hdep 4 (by kernel_rfl))
   obtain⟨d,rfl⟩:=fY (d:=d) (i:=5) hdi
   have hg:=hok (cl 2 0 (by kernel_rfl) rfl)
   have k1:aK Z g (.row 1 6 88 (l.map eC)) g=some (.row 1 6 88 (l.map eC)):=aA _ _ _
   clear cl hdep
   show OpI _ _ _ _ _ _ _ _ (aK Z g (.row 1 6 88 (l.map eC))) _
   refine aF ?_;intros
   refine⟨g,hok,aZ _,?_⟩
   have e:st7 l c Z (addD (addD (addD (remD d 5) 4) 2) 5) g=aK Z g (.row 2 6 88 ((l++[c]).map eC)):=rfl
   rw[aN,e,List.map_append];exact aB _
  ·obtain⟨d,rfl⟩:=cA (d:=d) (i:=5) (hdep 5 (by kernel_rfl))
   clear cl hdep
   refine aF ?_;intros
   exact⟨g,hok,aZ _,aB _⟩
 ·intro d g hok hall
  have h0:=hok (hall 0 (by decide))
  have h5:=hall 5 (by decide)
  have hs:st7 l c Z d g=aK Z g (.row 2 6 88 ((l++[c]).map eC)):=by unfold st7;rw[h5]
  rw[hs]
  obtain⟨d,rfl⟩:=cA (d:=d) (i:=6) (hall 6 (by decide))
  refine hJ g h0 _ ?_
  repeat' (first | exact trivial | exact rfl | refine And.intro ?_ ?_)
end
section
attribute [local irreducible] T TL
set_option maxRecDepth 10000
set_option maxHeartbeats 1000000
abbrev wM (l:List ClassI) (c:ClassI):List bA:=hsOf l++[(c.name,c.supers)]
abbrev qL (l:List ClassI) (c:ClassI):List ByteArray × Int:=linzP (wM l c) c.name
abbrev resA (l:List ClassI) (c:ClassI):PV:=.tup [LS (qL l c).1,.int .i64 (qL l c).2]
def tm3 (l:List ClassI) (c:ClassI) (b:Nat) (d:Nat→Bool) (x:Nat × Nat):List PV:=
 [CS l,.any,.any,.ptr b 0 0 0 6,.any,.any,vC (d 15) (LS (qL l c).1),vC (d 16) (.int .i64 (qL l c).2),.any,.any,.any,.any,vC (d 12) (resA l c),vC (d 0) (CS l),vC (d 1) (.row x.1 x.2 0 l.length 2),vC (d 2) (.ptr b 0 0 0 6),vC (d 3) (.str c.name),vC (d 4) (.ptr b 0 0 2 6),vC (d 5) (LS c.supers),vC (d 6) (.agg [.str c.name,LS c.supers]),vC (d 7) (.list 40 [[.str c.name,LS c.supers]]),vC (d 8) (.row x.1 (x.2+1) 0 (l.length+1) 2),vC (d 9) (.ptr b 0 0 0 6),vC (d 10) (.str c.name),vC (d 11) (resA l c),vC (d 13) (LS (qL l c).1),vC (d 14) (.int .i64 (qL l c).2),.any,.any,.any,.any,.any,.any,.any,.any,.any,.any,.any,.any,.any,.any,.any]
def st3 (l:List ClassI) (c:ClassI) (Z:aD) (d:Nat→Bool) (x:Nat × Nat):aD:=match d 11 with
 | true=>Z
 | false=>match d 8 with
  | true=>aK Z x.1 (.row (x.2+1) 2 40 ((wM l c).map eH))
  | false=>match d 1 with
   | true=>aK Z x.1 (.row x.2 2 40 ((hsOf l).map eH))
   | false=>Z
theorem region3 (l:List ClassI) (c:ClassI) (hl:l.length≤120) (b:Nat) (Z:aD) (kb:Z b=some (.row 0 6 0 [eC c])) {Q:bQ}
  (hJ:∀ t,yH t (gF 42 [(0,CS l),(3,.ptr b 0 0 0 6),(6,LS (qL l c).1),(7,.int .i64 (qL l c).2)])→Q .normal t Z []) :
  T PP none (rgn Tryz.f101 3) Q (gF 42 [(0,CS l),(3,.ptr b 0 0 0 6)]) Z []:=by
 have ml:(l.map eC).length=l.length:=List.length_map _
 have mh:(hsOf l).length=l.length:=dP l
 have mhe:((hsOf l).map eH).length=l.length:=by rw[List.length_map,mh]
 refine T_drawI (X:=Nat × Nat) aI (by rfl) (by kernel_rfl) (tm3 l c b) (st3 l c Z) (fun d x=>d 1=true→Z x.1=none) (0,0) (fun h=>by cases h) (by repeat' (first | exact trivial | exact rfl | refine And.intro ?_ ?_)) (aB _) ?_ ?_
 ·intro d x hok cl i hi hdi hdep
  have hi:i<17:=hi
  have kbx:st3 l c Z d x b=some (.row 0 6 0 [eC c]):=by
   unfold st3
   cases e5:d 11 with
   | true=>exact kb
   | false=>cases e2:d 8 with
    | true=>exact aE kb (hok (cl 8 1 (by kernel_rfl) e2))
    | false=>cases e0:d 1 with
     | true=>exact aE kb (hok e0)
     | false=>exact kb
  obtain rfl | rfl | rfl | rfl | rfl | rfl | rfl | rfl | rfl | rfl | rfl | rfl | rfl | rfl | rfl | rfl | rfl:i=0∨i=1∨i=2∨i=3∨i=4∨i=5∨i=6∨i=7∨i=8∨i=9∨i=10∨i=11∨i=12∨i=13∨i=14∨i=15∨i=16:=by omega
  ·clear cl hdep
   refine aF ?_;intros
   exact⟨x,hok,aZ _,aB _⟩
  ·obtain⟨d,rfl⟩:=fY (d:=d) (i:=8) (kK cl (j:=8) (k:=1) (by kernel_rfl) hdi)
   obtain⟨d,rfl⟩:=fY (d:=d) (i:=11) (kK cl (j:=11) (k:=8) (by kernel_rfl) rfl)
   obtain⟨d,rfl⟩:=fY (d:=d) (i:=1) hdi
   obtain⟨d,rfl⟩:=cA (d:=d) (i:=0) (hdep 0 (by kernel_rfl))
   clear cl hdep hok
   show OpI _ _ _ _ _ _ _ _ Z _
   refine aF ?_;intros
   refine callW_row (vG l (by omega)) fun g ver hg=>?_
   refine aF ?_;intros
   exact⟨(g,ver),fun _=>hg,aZ _,aB _⟩
  ·clear cl hdep
   refine aF ?_;intros
   exact⟨x,hok,aZ _,aB _⟩
  ·obtain⟨d,rfl⟩:=cA (d:=d) (i:=2) (hdep 2 (by kernel_rfl))
   clear cl hdep
   refine aF ?_;intros
   exact⟨x,hok,aZ _,aB _⟩
  ·clear cl hdep
   refine aF ?_;intros
   exact⟨x,hok,aZ _,aB _⟩
  ·obtain⟨d,rfl⟩:=cA (d:=d) (i:=4) (hdep 4 (by kernel_rfl))
   clear cl hdep
   refine aF ?_;intros
   exact⟨x,hok,aZ _,aB _⟩
  ·obtain⟨d,rfl⟩:=cA (d:=d) (i:=3) (hdep 3 (by kernel_rfl))
   obtain⟨d,rfl⟩:=cA (d:=d) (i:=5) (hdep 5 (by kernel_rfl))
   clear cl hdep
   refine aF ?_;intros
   exact⟨x,hok,aZ _,aB _⟩
  ·obtain⟨d,rfl⟩:=cA (d:=d) (i:=6) (hdep 6 (by kernel_rfl))
   clear cl hdep
   refine aF ?_;intros
   exact⟨x,hok,aZ _,aB _⟩
  ·obtain⟨d,rfl⟩:=fY (d:=d) (i:=11) (kK cl (j:=11) (k:=8) (by kernel_rfl) hdi)
   obtain⟨d,rfl⟩:=fY (d:=d) (i:=8) hdi
   obtain⟨d,rfl⟩:=cA (d:=d) (i:=1) (hdep 1 (by kernel_rfl))
   obtain⟨d,rfl⟩:=cA (d:=d) (i:=7) (hdep 7 (by kernel_rfl))
   have hg:=hok rfl
   have k1:aK Z x.1 (.row x.2 2 40 ((hsOf l).map eH)) x.1=some (.row x.2 2 40 ((hsOf l).map eH)):=aA _ _ _
   clear cl hdep
   show OpI _ _ _ _ _ _ _ _ (aK Z x.1 (.row x.2 2 40 ((hsOf l).map eH))) _
   refine aF ?_;intros
   refine And.intro mhe (And.intro rfl (And.intro (show (l.length+1)*40≤140737488355328 by omega) ?_))
   rw[cD]
   refine⟨rfl,x,hok,aZ _,?_⟩
   show bV _ (aK Z x.1 (.row (x.2+1) 2 40 ((hsOf l++[(c.name,c.supers)]).map eH)))
   rw[aN,List.map_append]
   exact aB _
  ·clear cl hdep
   refine aF ?_;intros
   exact⟨x,hok,aZ _,aB _⟩
  ·obtain⟨d,rfl⟩:=cA (d:=d) (i:=9) (hdep 9 (by kernel_rfl))
   clear cl hdep
   refine aF ?_;intros
   exact⟨x,hok,aZ _,aB _⟩
  ·obtain⟨d,rfl⟩:=cA (d:=d) (i:=8) (hdep 8 (by kernel_rfl))
   obtain⟨d,rfl⟩:=cA (d:=d) (i:=10) (hdep 10 (by kernel_rfl))
   obtain⟨d,rfl⟩:=fY (d:=d) (i:=11) hdi
   have hg:=hok (cl 8 1 (by kernel_rfl) rfl)
   have k1:aK Z x.1 (.row (x.2+1) 2 40 ((wM l c).map eH)) x.1=some (.row (x.2+1) 2 40 ((wM l c).map eH)):=aA _ _ _
   clear cl hdep
   show OpI _ _ _ _ _ _ _ _ (aK Z x.1 (.row (x.2+1) 2 40 ((wM l c).map eH))) _
   refine goMC ?_;intros
   show kJ PP 142 [.row x.1 (x.2+1) 0 (l.length+1) 2,.str c.name] _ _ _
   refine callW_freeze (args':=[HS (wM l c),.str c.name]) (refLinz_spec (wM l c) c.name) k1 rfl (fun i=>?_) ?_
   ·match i with
    | 0=>exact eQ (by simp[hsOf])
    | 1=>exact .same _
    | _+2=>exact .same _
   ·rw[cD]
    exact⟨rfl,x,fun _=>hg,aZ _,sle_del hg⟩
  ·obtain⟨d,rfl⟩:=cA (d:=d) (i:=11) (hdep 11 (by kernel_rfl))
   clear cl hdep
   refine aF ?_;intros
   exact⟨x,hok,aZ _,aB _⟩
  ·obtain⟨d,rfl⟩:=cA (d:=d) (i:=12) (hdep 12 (by kernel_rfl))
   clear cl hdep
   refine aF ?_;intros
   exact⟨x,hok,aZ _,aB _⟩
  ·obtain⟨d,rfl⟩:=cA (d:=d) (i:=12) (hdep 12 (by kernel_rfl))
   clear cl hdep
   refine aF ?_;intros
   exact⟨x,hok,aZ _,aB _⟩
  ·obtain⟨d,rfl⟩:=cA (d:=d) (i:=13) (hdep 13 (by kernel_rfl))
   clear cl hdep
   refine aF ?_;intros
   exact⟨x,hok,aZ _,aB _⟩
  ·obtain⟨d,rfl⟩:=cA (d:=d) (i:=14) (hdep 14 (by kernel_rfl))
   clear cl hdep
   refine aF ?_;intros
   exact⟨x,hok,aZ _,aB _⟩
 ·intro d x hok hall
  have hs:st3 l c Z d x=Z:=by unfold st3;rw[hall 11 (by decide)]
  rw[hs]
  obtain⟨d,rfl⟩:=cA (d:=d) (i:=15) (hall 15 (by decide))
  obtain⟨d,rfl⟩:=cA (d:=d) (i:=16) (hall 16 (by decide))
  refine hJ _ ?_
  repeat' (first | exact trivial | exact rfl | refine And.intro ?_ ?_)
end
section
attribute [local irreducible] T TL
set_option maxRecDepth 10000
set_option maxHeartbeats 1000000
def mW (c:ClassI) (x:List ByteArray):ClassI:=⟨c.name,c.lib,c.supers,x,c.abs,c.sealed⟩
def zY (l:List ClassI) (c:ClassI):List ClassI × Int:=if lookB l=false then ([],80) else if (qL l c).2≠0 then ([],(qL l c).2) else
 if lookB (l++[mW c (qL l c).1])=true then (l++[mW c (qL l c).1],0) else ([],80)
theorem add_spec (l:List ClassI) (c:ClassI):FnP PP 101 [CS l,CV c] (.tup [CS (zY l c).1,.int .i64 (zY l c).2]):=by
 refine cL (aJ aI Tryz.func101 rfl (by rfl) (by rfl) ?_)
 have nil:∀ z,NilV (.tup [.nils,.int .i64 z]) (.tup [CS [],.int .i64 z]):=fun z=>nilT ⟨.nils 88,.same _,trivial⟩
 have out0:∀ (S:aD) (z:Int),zY l c=([],z)→∃ S',bV S S'∧aO (.ret (.tup [.nils,.int .i64 z])) S' fun o S'=>o=.ret (.tup [CS (zY l c).1,.int .i64 (zY l c).2])∧S'=E:=fun S z h=>by
  rw[h];exact⟨E,aM _,aO.nilv (nil z) (aO.same ⟨rfl,rfl⟩)⟩
 refine aF ?_;intros
 refine aG fun b hb=>?_
 refine aF ?_;intros
 refine And.intro (fun h1=>?_) (fun h1=>?_)
 ·have h1:lookB l=false:=by simpa using h1
  refine aF ?_;intros
  exact out0 _ 80 (by unfold zY;rw[if_pos h1])
 ·have h1:lookB l=true:=by simpa using h1
  have hl:=(pR h1).len
  have kb:aK E b (.row 0 (eC c).length 0 [eC c]) b=some (.row 0 6 0 [eC c]):=aA _ _ _
  refine aF ?_;intros
  refine aU (T.weak (region3 l c hl b _ kb fun t ht=>?_) ?_ (aB _))
  rotate_left
  ·repeat' (first | exact trivial | exact rfl | refine And.intro ?_ ?_)
  ·have e42:(aH GT 42).size=6:=rfl
   have e26:(aH GT 26).size=1:=rfl
   conv=>whnf
   refine T.weak ?_ ht (aB _)
   clear ht
   refine aF ?_;intros
   refine ifN (fun h2=>?_) (fun h2=>?_)
   ·refine aF ?_;intros
    exact out0 _ _ (by unfold zY;rw[if_neg (by simp[h1]),if_pos h2])
   ·have hA:zY l c=if lookB (l++[mW c (qL l c).1])=true then (l++[mW c (qL l c).1],0) else ([],80):=by unfold zY;rw[if_neg (by simp[h1]),if_neg (by omega)]
    refine aF ?_;intros
    refine aU (T.weak (region7 l (mW c (qL l c).1) hl b _ (aA _ _ _) fun g hg t ht=>?_) ?_ (aB _))
    rotate_left
    ·repeat' (first | exact trivial | exact rfl | refine And.intro ?_ ?_)
    conv=>whnf
    refine T.weak ?_ ht (aB _)
    generalize hY:aK _ g _=Y
    have kg:Y g=some (.row 2 6 88 ((l++[mW c (qL l c).1]).map eC)):=by rw[← hY];exact aA _ _ _
    clear hY hg ht kb hb
    refine goMC ?_;intros
    refine gK (right_spec (l++[mW c (qL l c).1])) ⟨?_,trivial⟩ (.bool _) ?_
    ·exact pK kg (by simp)
    refine aF ?_;intros
    refine And.intro (fun h3=>?_) (fun h3=>?_)
    ·have h3:lookB (l++[mW c (qL l c).1])=false:=by simpa using h3
     refine aF ?_;intros
     exact out0 _ 80 (by rw[hA,if_neg (by simp[h3])])
    ·have h3:lookB (l++[mW c (qL l c).1])=true:=by simpa using h3
     refine aF ?_;intros
     refine⟨_,fE kg,aO.freeze (q:=.tup [CS (l++[mW c (qL l c).1]),.int .i64 0]) (aA _ _ _) (fzT ⟨eQ (by simp),.same _,trivial⟩) (aO.weak (aM _) (aO.same ⟨?_,rfl⟩))⟩
     rw[hA,if_pos h3]
end
end Go.Proofs.YtbojdflgjpjbiaaGreat.L
