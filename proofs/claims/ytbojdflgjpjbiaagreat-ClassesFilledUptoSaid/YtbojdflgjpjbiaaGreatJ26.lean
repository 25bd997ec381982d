/- A logic over the machine, and what the functions of the seat come to: part 26. No claim stands here; the theorems are used by the row. -/
import Derived.Test.YtbojdflgjpjbiaaGreatJ10
import Derived.Test.YtbojdflgjpjbiaaGreatJ21
import Derived.Test.YtbojdflgjpjbiaaGreatJ24
set_option linter.unusedSimpArgs false
set_option linter.unnecessarySimpa false
set_option linter.unusedVariables false
namespace Go.Proofs.YtbojdflgjpjbiaaGreat.L
open Go
section
attribute [local irreducible] T TL
set_option maxRecDepth 10000
set_option maxHeartbeats 4000000
variable {l:List ClassI}
def closedM (l:List ClassI):List Bool:=l.map fun c=>closedC l c.name
def voidM (l:List ClassI):List Bool:=l.map fun c=>voidC l c.name
structure MarkI (l:List ClassI) (k:Nat) (C V:List Bool):Prop where
 lc:C.length=l.length
 lv:V.length=l.length
 c:∀ j (h:j<C.length) (h':j<l.length),k≤j→C[j]=closedC l l[j].name
 v:∀ j (h:j<V.length) (h':j<l.length),k≤j→V[j]=voidC l l[j].name
theorem MarkI.zero (l:List ClassI):MarkI l l.length (List.replicate l.length false) (List.replicate l.length false):=
 ⟨by simp,by simp,fun j _ h hk=>by omega,fun j _ h hk=>by omega⟩
theorem MarkI.all {C V:List Bool} (h:MarkI l 0 C V):C=closedM l∧V=voidM l:=
  ⟨List.ext_getElem (by rw[h.lc];simp[closedM]) fun j h1 h2=>by rw[h.c j h1 (by rw[← h.lc];exact h1) (by omega)];simp[closedM],
   List.ext_getElem (by rw[h.lv];simp[voidM]) fun j h1 h2=>by rw[h.v j h1 (by rw[← h.lv];exact h1) (by omega)];simp[voidM]⟩
theorem mkB {S:aD} {n:Nat} {m:Int} {k:Nat→aD→Prop} (hm:m=n) (hn:n≤1000000) (h:rJ S (.row 0 1 1 ((List.replicate n false).map eB)) k) :
  0≤m∧m.toNat*(aH GT 4).bytes≤cap47∧m≤4611686018427387904∧rJ S (.row 0 (aH GT 4).size (aH GT 4).bytes (List.replicate m.toNat (aH GT 4).zero)) k:=by
 subst hm
 rw[List.map_replicate] at h
 exact⟨by omega,by show n*1≤140737488355328;omega,by omega,h⟩
end
end Go.Proofs.YtbojdflgjpjbiaaGreat.L
