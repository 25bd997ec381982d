/- A logic over the machine, and what the functions of the seat come to: part 22. No claim stands here; the theorems are used by the row. -/
import Derived.Test.YtbojdflgjpjbiaaGreatJ21
set_option linter.unusedSimpArgs false
set_option linter.unnecessarySimpa false
set_option linter.unusedVariables false
namespace Go.Proofs.YtbojdflgjpjbiaaGreat.L
open Go
section
attribute [local irreducible] T TL
set_option maxRecDepth 10000
set_option maxHeartbeats 4000000
theorem zW (l:List ClassI) (hl:l.length≤200) (i:Nat) (hi:i<l.length):FnP PP 134 [CS l,.int .i64 i] (.bool (dU (l.take i) l[i])):=by
 refine aJ aI Tryz.func134 rfl (by rfl) (by rfl) ?_
 have ml:(l.map eC).length=l.length:=List.length_map _
 refine aF ?_;intros
 refine aG fun b hb=>?_
 have fin:∀ S:aD,dU (l.take i) l[i]=false→∃ S',bV S S'∧(iY.ret (.bool false)=.ret (.bool (dU (l.take i) l[i]))∧S'=E):=fun S h=>⟨E,aM _,by rw[h],rfl⟩
 have bad1:decide (l[i].name=⟨#[]⟩)=true→dU (l.take i) l[i]=false:=fun h=>by unfold dU;rw[h];rfl
 have bad2:decide ((100:Int)<l[i].name.size)=true→dU (l.take i) l[i]=false:=fun h=>by
  have h:(100:Int)<l[i].name.size:=of_decide_eq_true h
  have:decide (l[i].name.size≤100)=false:=decide_eq_false (by omega)
  unfold dU;rw[this];simp
 have bad3:decide ((0:Int)≤cQ (vZ l[i].name) (l.take i))=true→dU (l.take i) l[i]=false:=fun h=>by
  have h:=of_decide_eq_true h
  have:decide (cQ (vZ l[i].name) (l.take i)<0)=false:=decide_eq_false (by omega)
  unfold dU;rw[this];simp
 have bad4:decide (((l[i].supers.map eS).length:Int)<1)=true→dU (l.take i) l[i]=false:=fun h=>by
  have h:=of_decide_eq_true h
  rw[List.length_map] at h
  have:decide (1≤l[i].supers.length)=false:=decide_eq_false (by omega)
  unfold dU;rw[this];simp
 have bad5:decide ((8:Int)<((l[i].supers.map eS).length:Int))=true→dU (l.take i) l[i]=false:=fun h=>by
  have h:=of_decide_eq_true h
  rw[List.length_map] at h
  have:decide (l[i].supers.length≤8)=false:=decide_eq_false (by omega)
  unfold dU;rw[this];simp
 have bad6:(!decide l[i].supers.Nodup)=true→dU (l.take i) l[i]=false:=fun h=>by
  have h:decide l[i].supers.Nodup=false:=by simpa using h
  unfold dU;rw[h];simp
 have good5:decide ((8:Int)<((l[i].supers.map eS).length:Int))=false→l[i].supers.length≤8:=fun h=>by
  have h:=of_decide_eq_false h
  rw[List.length_map] at h
  omega
 have eZ:decide (l[i].name=⟨#[]⟩)=false→decide ((100:Int)<l[i].name.size)=false→decide ((0:Int)≤cQ (vZ l[i].name) (l.take i))=false→decide (((l[i].supers.map eS).length:Int)<1)=false →
   decide ((8:Int)<((l[i].supers.map eS).length:Int))=false→(!decide l[i].supers.Nodup)=false→l[i].supers.all (sF (l.take i) l[i].lib)=true→dU (l.take i) l[i]=true:=fun h1 h2 h3 h4 h5 h6 h=>by
  have g2:¬ (100:Int)<l[i].name.size:=of_decide_eq_false h2
  have g3:¬ (0:Int)≤cQ (vZ l[i].name) (l.take i):=of_decide_eq_false h3
  have g4:=of_decide_eq_false h4
  have g5:=of_decide_eq_false h5
  rw[List.length_map] at g4 g5
  have g6:l[i].supers.Nodup:=by simpa using h6
  unfold dU
  rw[h,h1,decide_eq_true (show l[i].name.size≤100 by omega),decide_eq_true (show cQ (vZ l[i].name) (l.take i)<0 by omega),decide_eq_true (show 1≤l[i].supers.length by omega),decide_eq_true (show l[i].supers.length≤8 by omega),decide_eq_true g6]
  rfl
 have hsome:∀ s∈l[i].supers,sF (l.take i) l[i].lib s=false→dU (l.take i) l[i]=false:=fun s hs h=>by
  have:l[i].supers.all (sF (l.take i) l[i].lib)=false:=List.all_eq_false.2 ⟨s,hs,by simp[h]⟩
  unfold dU;rw[this];simp
 refine aF ?_;intros
 refine aU (aT aI (by rfl) 36 (by kernel_rfl) ?_)
 refine aF ?_;intros
 refine And.intro (fun h1=>?_) (fun h1=>?_)
 ·refine aF ?_;intros
  refine⟨.int .i64 l[i].name.size,?_,?_⟩
  ·conv=>whnf
   exact fun _=>rfl
  refine aF ?_;intros
  refine And.intro (fun h2=>?_) (fun h2=>?_)
  ·refine aF ?_;intros
   refine And.intro (fun h3=>?_) (fun h3=>?_)
   ·refine aF ?_;intros
    refine And.intro (fun h4=>?_) (fun h4=>?_)
    ·refine aF ?_;intros
     refine And.intro (fun h5=>?_) (fun h5=>?_)
     ·refine aF ?_;intros
      refine And.intro (fun h6=>?_) (fun h6=>?_)
      ·refine aF ?_;intros
       exact fin _ (bad6 h6)
      ·skip
       refine nO ?_;intros
       refine T_skip ?_
       refine nO ?_;intros
       refine T.weak (tail134 l hl i hi ?_ ?_ ?_ b _ (aA _ _ _)) ?_ (aB _)
       ·exact good5 h5
       ·exact eZ h1 h2 h3 h4 h5 h6
       ·exact hsome
       ·repeat' (first | exact trivial | exact rfl | refine And.intro ?_ ?_)
     ·refine aF ?_;intros
      exact fin _ (bad5 h5)
    ·refine aF ?_;intros
     exact fin _ (bad4 h4)
   ·refine aF ?_;intros
    exact fin _ (bad3 h3)
  ·refine aF ?_;intros
   exact fin _ (bad2 h2)
 ·refine aF ?_;intros
  exact fin _ (bad1 h1)
end
end Go.Proofs.YtbojdflgjpjbiaaGreat.L
