/- A logic over the machine, and what the functions of the seat come to: part 29. No claim stands here; the theorems are used by the row. -/
import Derived.Test.YtbojdflgjpjbiaaGreatJ3
import Derived.Test.YtbojdflgjpjbiaaGreatJ19
import Derived.Test.YtbojdflgjpjbiaaGreatRows
import Derived.WalkKit
import Derived.ProofKit
import Derived.OpenShut
import Derived.ShutString
import Derived.ChangeOld
import Derived.ChangeArms
import Derived.Carry
import Derived.SizedLaws
import Derived.WideKeyPair
set_option linter.unusedSimpArgs false
set_option linter.unnecessarySimpa false
set_option linter.unusedVariables false
namespace Go.Proofs.YtbojdflgjpjbiaaGreat.L
open Go
section
mutual
def szV:PV→Nat
 | .list _ xs=>szR xs
 | .agg ps=>vA ps
 | _=>0
def vA:List PV→Nat
 | []=>0
 | p::ps=>szV p+vA ps
def szR:List (List PV)→Nat
 | []=>0
 | r::rs=>1+vA r+szR rs
end
theorem szL_app:∀ a b:List PV,vA (a++b)=vA a+vA b
 | [],b=>by simp[vA]
 | p::a,b=>by simp only[List.cons_append,vA,szL_app a b];omega
theorem szL_any:∀ n:Nat,vA (List.replicate n PV.any)=0
 | 0=>by simp[vA]
 | n+1=>by simp[List.replicate_succ,vA,szV,szL_any n]
theorem xG {H:Type} (d:DataW H):1≤Rows.uptoBulk d:=by
 cases d with
 | lit l=>cases l <;> simp[Rows.uptoBulk]
 | _=>simp[Rows.uptoBulk]
theorem bulk_all {H:Type}:∀ (l:List (DataW H)),Rows.uptoBulkAll l=(l.map Rows.uptoBulk).sum
 | []=>by simp[Rows.uptoBulkAll]
 | x::r=>by simp[Rows.uptoBulkAll,bulk_all r]
def ShF (sh:Nat→List PV→Prop):List (Nat × Nat)→List PV→Prop
 | [],cs=>cs=[]
 | (_,ft)::l,cs=>∃ c1 c2,cs=c1++c2∧sh ft c1∧ShF sh l c2
def Sh (G:List TI):Nat→Nat→List PV→Prop
 | 0,_,_=>False
 | n+1,t,cs=>match (aH G t).kind with
  | .int k=>∃ v,cs=[.int k v]∧k.has v
  | .bool=>∃ b,cs=[.bool b]
  | .str=>∃ s:ByteArray,cs=[.str s]∧s.size≤140737488351232
  | .slice e=>(aH G e).size≠0→∃ xs,cs=[.list (aH G e).bytes xs]∧xs.length*(aH G e).bytes≤140737488351232∧∀ c∈xs,Sh G n e c
  | .struct fs=>ShF (Sh G n) fs cs
  | _=>True
def layB (G:List TI):List (Nat × Nat)→Nat→Nat→Bool
 | [],o,n=>o == n
 | (off,ft)::l,o,n=>off == o && (match (aH G ft).kind with | .other=>false | _=>true) && layB G l (o+(aH G ft).size) n
def wI (G:List TI):List TI→Bool
 | []=>true
 | i::l=>(match i.kind with | .struct fs=>layB G fs 0 i.size | _=>true) && wI G l
theorem layAll_get {G:List TI}:∀ {l:List TI} (h:wI G l=true) (t:Nat) {fs:List (Nat × Nat)},(aH l t).kind=.struct fs→layB G fs 0 (aH l t).size=true
 | [],_,t,fs,hk=>by simp[aH] at hk
 | i::l,h,0,fs,hk=>by
  simp only[wI,Bool.and_eq_true] at h
  have h1:=h.1
  simp only[aH] at hk ⊢
  rw[hk] at h1
  exact h1
 | i::l,h,t+1,fs,hk=>by
  simp only[wI,Bool.and_eq_true] at h
  exact layAll_get h.2 t hk
section
variable {H:Type} {enc:TypeId × Value→H} {P:Program} {G:List TI} {W:World} {base:Nat} {spare:Nat→Bool} {held:Bool}
abbrev frW (W:World):Nat→Prop:=fun b=>b<W.heap.size
abbrev noN:aQ:=fun _=>none
theorem relS0 (W:World):RelS W (frW W) noN (fun _=>none):=
 ⟨fun g x h=>by (cases h),fun b _ ⟨g,x,v,h,_⟩=>by (cases h),fun g g' x x' v v' b h=>by (cases h),fun b h=>h,⟨0,fun _ _=>rfl⟩⟩
def CR (W:World) (cs:List Value) (pcs:List PV):Prop:=pcs.length=cs.length∧∀ (i:Nat) (h1:i<cs.length) (h2:i<pcs.length),Rep W (frW W) noN cs[i] pcs[i]
theorem CR.one {v:Value} {p:PV} (h:Rep W (frW W) noN v p):CR W [v] [p]:=⟨rfl,fun i h1 h2=>by
 have:i=0:=by simp at h1;omega
 subst this;exact h⟩
theorem rR (hG:jI P G) {t:Nat} (h:(aH G t).kind≠.other):P.cellsOf t=(aH G t).size∧P.bytesOf t=(aH G t).bytes:=by
 obtain⟨f,h1,h2,h3⟩:=uT hG h
 simp[Program.cellsOf,Program.bytesOf,h1,h2,h3]
theorem und_bool (hG:jI P G) {t:Nat} (hk:(aH G t).kind=.bool):P.underlying t=some .bool:=by
 obtain⟨d,f,h1,_,h3,_⟩:=(kG hG hk (by simp)).ok
 rw[hk] at h3
 cases d <;> simp only[kOk] at h3 <;> first | exact h1 | cases h3
theorem fields_ok {sh:Nat→List PV→Prop}:∀ (fs:List (Nat × Nat)) (bs:List Nat) (o:Nat) (cs:List Value),bs.length=fs.length→layB G fs o (o+cs.length)=true →
  (∀ (i:Nat) (hi:i<fs.length) (hb:i<bs.length),∀ k,fs[i].1=o+k→∃ pf,CR W ((cs.drop k).take (aH G fs[i].2).size) pf∧sh fs[i].2 pf∧vA pf≤bs[i])→∃ pcs,CR W cs pcs∧ShF sh fs pcs∧vA pcs≤bs.sum
 | [],bs,o,cs,_,hl,_=>by
  simp only[layB,beq_iff_eq] at hl
  have:cs=[]:=List.length_eq_zero_iff.1 (by omega)
  subst this
  exact⟨[],⟨rfl,fun i h1=>by simp at h1⟩,rfl,by simp[vA]⟩
 | (off,ft)::l,[],o,cs,hbl,hl,h=>by simp at hbl
 | (off,ft)::l,b::bs,o,cs,hbl,hl,h=>by
  simp only[layB,Bool.and_eq_true,beq_iff_eq] at hl
  obtain⟨⟨rfl,hk⟩,hl⟩:=hl
  have hge:∀ (l:List (Nat × Nat)) (o n:Nat),layB G l o n=true→o≤n:=by
   intro l
   induction l with
   | nil=>intro o n h;simp only[layB,beq_iff_eq] at h;omega
   | cons x l ih=>intro o n h;simp only[layB,Bool.and_eq_true] at h;have:=ih _ _ h.2;omega
  have hsz:=hge _ _ _ hl
  obtain⟨p1,h1,h2,hz1⟩:=h 0 (by simp) (by simp) 0 rfl
  rw[List.drop_zero] at h1
  simp only[List.getElem_cons_zero] at h1 h2 hz1
  have hlen:(cs.drop (aH G ft).size).length=cs.length - (aH G ft).size:=List.length_drop
  obtain⟨p2,h3,h4,hz2⟩:=fields_ok l bs (off+(aH G ft).size) (cs.drop (aH G ft).size) (by simpa using hbl) (by rw[hlen,show off+(aH G ft).size+(cs.length - (aH G ft).size)=off+cs.length by omega];exact hl)
   (fun i hi hb k e=>by
    obtain⟨pf,h5,h6,h7⟩:=h (i+1) (by simpa using hi) (by simpa using hb) ((aH G ft).size+k) (by simp only[List.getElem_cons_succ];omega)
    simp only[List.getElem_cons_succ] at h5 h6 h7
    exact⟨pf,by rw[List.drop_drop];exact h5,h6,h7⟩)
  have hl1:p1.length=(aH G ft).size:=by rw[h1.1,List.length_take];omega
  refine⟨p1++p2,⟨?_,fun i h5 h6=>?_⟩,⟨p1,p2,rfl,h2,h4⟩,by rw[szL_app,List.sum_cons];omega⟩
  ·rw[List.length_append,hl1,h3.1,hlen];omega
  ·by_cases hi:i<p1.length
   ·have:=h1.2 i (by rw[List.length_take];omega) hi
    rw[List.getElem_append_left hi]
    simpa using this
   ·have:=h3.2 (i - p1.length) (by rw[hlen];omega) (by rw[h3.1,hlen];omega)
    rw[List.getElem_append_right (by omega)]
    simp only[List.getElem_drop] at this
    have e:(aH G ft).size+(i - p1.length)=i:=by omega
    simp only[e] at this
    exact this
theorem szR_sum {f:Nat→List PV} {b:Nat→Nat}:∀ (n:Nat),(∀ i,i<n→vA (f i)+1≤b i)→szR ((List.range n).map f)≤((List.range n).map b).sum:=by
 have app:∀ a c:List (List PV),szR (a++c)=szR a+szR c:=by
  intro a
  induction a with
  | nil=>intro c;simp[szR]
  | cons r a ih=>intro c;simp only[List.cons_append,szR,ih];omega
 intro n
 induction n with
 | zero=>intro _;simp[szR]
 | succ n ih=>
  intro h
  rw[List.range_succ,List.map_append,List.map_append,app,List.sum_append]
  have h1:=ih fun i hi=>h i (by omega)
  have h2:=h n (by omega)
  simp only[List.map_cons,List.map_nil,szR,List.sum_cons,List.sum_nil]
  omega
theorem open_ok (hG:jI P G) (hL:wI G G=true):∀ (n t:Nat) (cs:List Value) (x:DataW H × List MemPlace),DataW.trod enc P W base spare held n t cs=some x→(∀ k∈x.1.weights P t,k≤reachBytes) →
    ∃ pcs,CR W cs pcs∧Sh G n t pcs∧vA pcs+1≤Rows.uptoBulk x.1
  | 0,t,cs,x,h,_=>by simp[DataW.trod] at h
  | n+1,t,cs,x,h,hw=>by
    have ih:=fun t cs x=>open_ok hG hL n t cs x
    have any:(∀ pcs,Sh G (n+1) t pcs)→∃ pcs,CR W cs pcs∧Sh G (n+1) t pcs∧vA pcs+1≤Rows.uptoBulk x.1:=fun ha=>
      ⟨List.replicate cs.length .any,⟨by simp,fun i h1 h2=>by rw[List.getElem_replicate];exact .any _⟩,ha _,by rw[szL_any];exact xG _⟩
    cases hk:(aH G t).kind with
    | int k=>
      obtain⟨v,rfl,rfl,hwf⟩:=DataW.trod_int (wQ hG hk) h
      have hh:k.has v:=by simpa[Lit.wf,IntKind.has] using hwf
      exact⟨[.int k v],.one (.int _ _ hh),by simp only[Sh,hk];exact⟨v,rfl,hh⟩,by simpa[vA,szV] using xG _⟩
    | bool=>
      obtain⟨b,rfl,rfl⟩:=DataW.trod_bool (und_bool hG hk) h
      exact⟨[.bool b],.one (.bool _),by simp only[Sh,hk];exact⟨b,rfl⟩,by simpa[vA,szV] using xG _⟩
    | str=>
      obtain⟨s,rfl,rfl,hs⟩:=DataW.trod_string (uK hG hk) h
      have hb:s.size≤140737488351232:=by
        have:=hw s.data.toList.length (by simp[DataW.weights])
        simpa[reachBytes] using this
      exact⟨[.str s],.one (.str _ (by unfold cap47;omega)),by simp only[Sh,hk];exact⟨s,rfl,hb⟩,by simpa[vA,szV] using xG _⟩
    | struct fs=>
      obtain⟨gs,hu,hgs⟩:=oR hG hk
      obtain⟨xs,m,hm,rfl,hcl,hxl,hf⟩:=DataW.trod_struct hu h
      have:m=n:=by omega
      subst this
      have hlay:=layAll_get hL t hk
      have hct:=(rR hG (t:=t) (by rw[hk];simp)).1
      subst hgs
      obtain⟨pcs,h1,h2,hz⟩:=fields_ok (G:=G) (W:=W) (sh:=Sh G m) (gs.toList.map fun f=>(f.offset,f.type)) (xs.map fun y=>Rows.uptoBulk y.1 - 1) 0 cs (by simp[hxl]) (by rw[Nat.zero_add,hcl,hct];exact hlay) (fun i hi hb k e=>by
        have hi':i<gs.toList.length:=by simpa using hi
        have hy:=List.getElem_mem hi
        rw[List.getElem_map] at e hy ⊢
        have hfk:(aH G gs.toList[i].type).kind≠.other:=by
          intro hoth
          have:∀ (l:List (Nat × Nat)) (o n:Nat),layB G l o n=true→∀ z∈l,(aH G z.2).kind≠.other:=by
            intro l
            induction l with
            | nil=>intro _ _ _ z hz;cases hz
            | cons a l ih=>
              intro o n h z hz
              simp only[layB,Bool.and_eq_true] at h
              rcases List.mem_cons.1 hz with rfl | hz
              · intro e;rw[e] at h;simp at h
              · exact ih _ _ h.2 z hz
          exact this _ _ _ hlay _ hy hoth
        have hcf:=(rR hG hfk).1
        have hgi:gs[i]?=some gs.toList[i]:=by simp at hi';simp[hi']
        have hfi:=hf i gs.toList[i] hgi
        have hix:i<xs.length:=by rw[hxl];simpa using hi'
        rw[List.getElem?_eq_getElem hix] at hfi
        simp only[Nat.zero_add] at e
        rw[← e,← hcf]
        obtain⟨pf,h5,h6,h7⟩:=ih _ _ _ hfi fun w hw'=>hw w (by
          simp only[DataW.weights,hu]
          exact DataW.weights_mem_each (j:=i) (t:=gs.toList[i].type) (d:=xs[i].1) (by simp at hi';simp[hi']) (by simp[hix]) w hw')
        refine⟨pf,h5,h6,?_⟩
        rw[List.getElem_map]
        omega)
      refine⟨pcs,h1,by simp only[Sh,hk];exact h2,?_⟩
      have hsum:∀ l:List (DataW H × List MemPlace),(l.map fun y=>Rows.uptoBulk y.1 - 1).sum≤((l.map (·.1)).map Rows.uptoBulk).sum:=by
        intro l
        induction l with
        | nil=>simp
        | cons y l ih=>simp only[List.map_cons,List.sum_cons];omega
      have:=hsum xs
      simp only[Rows.uptoBulk,bulk_all]
      omega
    | slice e=>
      have hu:=cV hG hk
      by_cases hz:(aH G e).size=0
      · exact any fun pcs=>by simp only[Sh,hk];exact fun h=>absurd hz h
      have hce:P.cellsOf e≠0:=by rw[(rR hG (bY hG hz)).1];exact hz
      rcases DataW.trod_slice hu h with ⟨rfl,rfl⟩ | ⟨a,len,cap,elems,rest,m,hm,rfl,rfl,hb,hlc,hcm,hel,hget,_,_⟩
      · exact⟨[.list (aH G e).bytes []],.one (.list0 _ _ _),by simp only[Sh,hk];exact fun _=>⟨[],rfl,by simp,fun c hc=>by cases hc⟩,by simp[vA,szV,szR,Rows.uptoBulk]⟩
      · have:m=n:=by omega
        subst this
        have hbytes:len*(aH G e).bytes≤140737488351232:=by
          by_cases hke:(aH G e).kind=.other
          · have:=hG e;rw[hke] at this;rw[this.2];simp
          · have:=hw ((elems.map (·.1)).length+(rest.map (·.1)).length |> (· * P.bytesOf e)) (by simp[DataW.weights,hu])
            rw[(rR hG hke).2] at this
            simp only[List.length_map,hel,reachBytes] at this
            refine Nat.le_trans (Nat.mul_le_mul_right _ (Nat.le_add_right _ _)) this
        have hrow:∀ i (hi:i<len),∃ cs',W.cells? base (a.add (i*P.cellsOf e)) (P.cellsOf e)=some cs'∧∃ pcs,CR W cs' pcs∧Sh G m e pcs∧vA pcs+1≤Rows.uptoBulk (elems[i]'(by omega)).1:=fun i hi=>by
          have h1:=hget i hi
          have hie:i<elems.length:=by omega
          rw[List.getElem?_eq_getElem hie,Option.bind_eq_some_iff] at h1
          obtain⟨cs',h2,h3⟩:=h1
          refine⟨cs',h2,ih _ _ _ h3 fun w hw'=>hw w ?_⟩
          simp only[DataW.weights,hu,List.mem_cons,List.mem_append]
          refine .inr (.inl ?_)
          have hall:∀ (l:List (DataW H)) (j:Nat) (hj:j<l.length),∀ w∈l[j].weights P e,w∈DataW.weightsAll P e l:=by
            intro l
            induction l with
            | nil=>intro j hj;simp at hj
            | cons y l ih'=>
              intro j hj w hw
              simp only[DataW.weightsAll,List.mem_append]
              cases j with
              | zero=>exact .inl hw
              | succ j=>exact .inr (ih' j (by simpa using hj) w (by simpa using hw))
          exact hall _ i (by simpa using hie) w (by simpa using hw')

        let f:Nat→List PV:=fun i=>if hi:i<len then Classical.choose (Classical.choose_spec (hrow i hi)).2 else []
        have hfspec:∀ i (hi:i<len),∃ cs',W.cells? base (a.add (i*P.cellsOf e)) (P.cellsOf e)=some cs'∧CR W cs' (f i)∧Sh G m e (f i)∧vA (f i)+1≤Rows.uptoBulk (elems[i]'(by omega)).1:=fun i hi=>by
          have h1:=Classical.choose_spec (hrow i hi)
          have h2:=Classical.choose_spec h1.2
          simp only[f,dif_pos hi]
          exact⟨_,h1.1,h2⟩
        let xs:=(List.range len).map f
        have hxl:xs.length=len:=by simp[xs]
        have hxi:∀ i (h:i<xs.length),xs[i]=f i:=fun i h=>by simp[xs]
        have hsz:vA [PV.list (aH G e).bytes xs]+1≤Rows.uptoBulk (.slice (elems.map (·.1)) (rest.map (·.1))):=by
          have h1:=szR_sum (f:=f) (b:=fun i=>if h:i<elems.length then Rows.uptoBulk elems[i].1 else 0) len fun i hi=>by
            obtain⟨_,_,_,_,h5⟩:=hfspec i hi
            rw[dif_pos (by omega)]
            exact h5
          have h2:(List.range len).map (fun i=>if h:i<elems.length then Rows.uptoBulk elems[i].1 else 0)=(elems.map (·.1)).map Rows.uptoBulk:=by
            apply List.ext_getElem (by simp[hel])
            intro i h3 h4
            have h5:i<elems.length:=by simpa using h4
            simp[h5]
          rw[h2] at h1
          simp only[vA,szV,Rows.uptoBulk,bulk_all]
          have h6:szR xs=szR ((List.range len).map f):=rfl
          omega
        refine⟨[.list (aH G e).bytes xs],.one ?_,by
          simp only[Sh,hk]
          refine fun _=>⟨xs,rfl,by rw[hxl];exact hbytes,fun c hc=>?_⟩
          obtain⟨i,hi,rfl⟩:=List.getElem_of_mem hc
          rw[hxi]
          obtain⟨_,_,_,h4,_⟩:=hfspec i (by omega)
          exact h4,hsz⟩
        by_cases h0:len*P.cellsOf e=0
        ·
          by_cases hl0:len=0
          · subst hl0
            have:xs=[]:=List.length_eq_zero_iff.1 hxl
            rw[this];exact .list0 _ _ _
          · have hc0:P.cellsOf e=0:=by
              rcases Nat.mul_eq_zero.1 h0 with h | h
              · exact absurd h hl0
              · exact h
            exact absurd hc0 hce
        · obtain⟨hl0,hc0⟩:len≠0∧P.cellsOf e≠0:=⟨fun h=>h0 (by simp[h]),fun h=>h0 (by simp[h])⟩
          obtain⟨cs0,h1,h2,_⟩:=hfspec 0 (by omega)
          have hblk:a.block<W.heap.size:=by
            have:=World.cells?_block h1 (by omega)
            simpa[Addr.add] using this
          have hspot:a.spot=none:=by
            obtain⟨_,hl',hc'⟩:=World.cells?_some h1
            have:=hc' 0 (by omega)
            rw[List.getElem?_eq_getElem (by omega)] at this
            simpa[Addr.add] using World.cell?_spot this
          obtain⟨b,o,sp⟩:=a
          dsimp only at hspot
          subst hspot
          rw[← hxl]
          refine .list b o cap (aH G e).bytes (P.cellsOf e) xs (fun i j=>(W.cell? ⟨b,o+(i*P.cellsOf e+j),none⟩).getD undef) hblk (by omega) (by rw[hxl];unfold cap47;omega) (fun i hi=>?_) (fun i j hi hj=>?_) (fun i j hi hj=>?_)
          · rw[hxi]
            obtain⟨cs',h3,h4,_⟩:=hfspec i (by omega)
            obtain⟨_,hl',_⟩:=World.cells?_some h3
            rw[h4.1,hl']
          · obtain⟨cs',h3,h4,_⟩:=hfspec i (by omega)
            obtain⟨_,hl',hc'⟩:=World.cells?_some h3
            have:=hc' j hj
            rw[List.getElem?_eq_getElem (by omega)] at this
            rw[iJ,iJ,Nat.add_assoc] at this
            rw[this];rfl
          · obtain⟨cs',h3,h4,_⟩:=hfspec i (by omega)
            obtain⟨_,hl',hc'⟩:=World.cells?_some h3
            have hjl:j<cs'.length:=by have:=h4.1;rw[hxi] at hj;omega
            have:=hc' j (by omega)
            rw[List.getElem?_eq_getElem hjl] at this
            rw[iJ,iJ,Nat.add_assoc] at this
            rw[this]
            have h5:=h4.2 j hjl (by rw[hxi] at hj;exact hj)
            simp only[Option.getD_some,hxi]
            exact h5
    | arr n' e=>exact any fun pcs=>by simp only[Sh,hk]
    | map k e=>exact any fun pcs=>by simp only[Sh,hk]
    | ptr e=>exact any fun pcs=>by simp only[Sh,hk]
    | func=>exact any fun pcs=>by simp only[Sh,hk]
    | iface=>exact any fun pcs=>by simp only[Sh,hk]
    | other=>exact any fun pcs=>by simp only[Sh,hk]
def ShV (G:List TI) (n t:Nat) (p:PV):Prop:=match (aH G t).kind with
 | .struct _=>∃ cs,p=.agg cs∧Sh G n t cs
 | _=>Sh G n t [p]
def argK:TK→Bool
 | .int _ | .bool | .str | .slice _ | .struct _=>true
 | _=>false
theorem CR.val {v:Value} {pcs:List PV} (h:CR W [v] pcs):∃ p,pcs=[p]∧Rep W (frW W) noN v p:=by
 match pcs,h.1 with
 | [p],_=>exact⟨p,rfl,h.2 0 (by simp) (by simp)⟩
theorem vR (hG:jI P G) (hL:wI G G=true) {r:Reach} {b0:Nat} {t:TypeId} {v:Value} {d:DataW H} {ps:List MemPlace} (hk:argK (aH G t).kind=true) (hv:Value.okWide P W r b0 t v)
  (h:DataW.Trod enc P W base spare held t v d ps) (hw:∀ k∈d.weights P t,k≤reachBytes):∃ p n,Rep W (frW W) noN v p∧ShV G n t p∧szV p≤Rows.uptoBulk d:=by
 obtain⟨n,hn⟩:=h
 obtain⟨pcs,h1,h2,hz⟩:=open_ok hG hL n t _ _ hn hw
 dsimp only at hz
 have one:v.cells.toList=[v]→(∀ pcs,Sh G n t pcs→∀ p,pcs=[p]→ShV G n t p)→∃ p n,Rep W (frW W) noN v p∧ShV G n t p∧szV p≤Rows.uptoBulk d:=fun e hs=>by
  rw[e] at h1
  obtain⟨p,rfl,hp⟩:=h1.val
  exact⟨p,n,hp,hs _ h2 p rfl,by simp only[vA] at hz;omega⟩
 cases e:(aH G t).kind with
 | int k=>
  refine one ?_ fun pcs h p hp=>by subst hp;simp only[ShV,e];exact h
  obtain⟨n,rfl⟩:=WideShapes.okWide_int (wQ hG e) hv
  rfl
 | bool=>
  refine one ?_ fun pcs h p hp=>by subst hp;simp only[ShV,e];exact h
  obtain⟨n,rfl⟩:=WideShapes.okWide_bool (und_bool hG e) hv
  rfl
 | str=>
  refine one ?_ fun pcs h p hp=>by subst hp;simp only[ShV,e];exact h
  obtain⟨n,rfl⟩:=WideShapes.okWide_string (uK hG e) hv
  rfl
 | slice el=>
  refine one ?_ fun pcs h p hp=>by subst hp;simp only[ShV,e];exact h
  obtain⟨a,l,c,rfl⟩:=WideShapes.okWide_slice (cV hG e) hv
  rfl
 | struct fs=>
  obtain⟨gs,hu,_⟩:=oR hG e
  obtain⟨cs,rfl,_⟩:=WideShapes.okWide_struct hu hv
  refine⟨.agg pcs,n,.agg _ _ (by rw[h1.1];simp[Value.cells]) fun i h3 h4=>?_,by simp only[ShV,e];exact⟨_,rfl,h2⟩,by simp only[szV];omega⟩
  have:=h1.2 i (by simpa[Value.cells] using h3) h4
  simpa[Value.cells] using this
 | arr _ _=>rw[e] at hk;cases hk
 | map _ _=>rw[e] at hk;cases hk
 | ptr _=>rw[e] at hk;cases hk
 | func=>rw[e] at hk;cases hk
 | iface=>rw[e] at hk;cases hk
 | other=>rw[e] at hk;cases hk
theorem yO {fr':Nat→Prop} {m':aQ} {S':aD} {W':World} (st:bZ W (frW W) noN (fun _=>none) W' fr' m' S') {b:Nat} (hb:b<W.heap.size):W'.heap[b]?=W.heap[b]?:=
 st.same b hb fun⟨g,x,v,h,_⟩=>by cases h
theorem vX {fr':Nat→Prop} {m':aQ} {S':aD} {W':World} (st:bZ W (frW W) noN (fun _=>none) W' fr' m' S') (may:MemPlace→Prop):W.keptBut W' may:=by
 refine⟨st.io.1,st.io.2,fun i hi=>?_⟩
 rw[yO st hi]
 split <;> simp_all
theorem nE (hl:laidOutB P=true) {t:TypeId} (hr:P.readableRec t=true) (hrow:t<P.types.size) {fr':Nat→Prop} {m':aQ} {S':aD} {W':World} (st:bZ W (frW W) noN (fun _=>none) W' fr' m' S') {v:Value} {d:DataW H} {ps:List MemPlace}
  (h:DataW.Trod enc P W 0 (fun _=>true) true t v d ps):DataW.Trod enc P W' 0 (fun b=>decide (b<W.heap.size)) true t v d ps:=by
 have hlt:∀ x∈ps,x.block<W.heap.size:=by obtain⟨m,hm⟩:=h;exact DataW.trod_lt m _ _ _ hm
 refine WideElems.Trod_stays hl hr hrow h (fun x hx=>?_) (fun x hx=>by simpa using hlt x hx)
 have hx:=hlt x hx
 cases x with
 | cell b o=>exact World.cell?_of_block (w:=W) (yO st hx)
 | map b=>exact yO st hx
theorem vN {α β:Type} {f:α→β} {Q:α→Prop}:∀ {xs:List β},(∀ c∈xs,∃ y,c=f y∧Q y)→∃ l:List α,xs=l.map f∧∀ y∈l,Q y
 | [],_=>⟨[],rfl,fun y h=>by cases h⟩
 | c::xs,h=>by
  obtain⟨y,hy,hq⟩:=h c (by simp)
  obtain⟨l,hl,hq'⟩:=vN (xs:=xs) fun c hc=>h c (by simp[hc])
  exact⟨y::l,by simp[hy,hl],fun z hz=>by
   rcases List.mem_cons.1 hz with rfl | hz
   ·exact hq
   ·exact hq' z hz⟩
theorem zQ {α:Type} {f:α→List PV} {Q:α→Prop} {n t e:Nat} {cs:List PV} (hk:(aH G t).kind=.slice e) (hz:(aH G e).size≠0) (h:Sh G n t cs) (hf:∀ m,m<n→∀ c,Sh G m e c→∃ y,c=f y∧Q y) :
  ∃ l:List α,cs=[.list (aH G e).bytes (l.map f)]∧l.length*(aH G e).bytes≤140737488351232∧∀ y∈l,Q y:=by
 cases n with
 | zero=>exact h.elim
 | succ n=>
  simp only[Sh,hk] at h
  obtain⟨xs,rfl,hb,hx⟩:=h hz
  obtain⟨l,rfl,hq⟩:=vN fun c hc=>hf n (by omega) c (hx c hc)
  exact⟨l,rfl,by simpa using hb,hq⟩
theorem wX {n t:Nat} {fs:List (Nat × Nat)} {cs:List PV} (hk:(aH G t).kind=.struct fs) (h:Sh G n t cs):∃ m,m<n∧ShF (Sh G m) fs cs:=by
 cases n with
 | zero=>exact h.elim
 | succ n=>exact⟨n,by omega,by simpa only[Sh,hk] using h⟩
theorem jL {α:Type} {f:α→List PV} {Q:α→Prop} {n t e:Nat} {cs:List PV} (hk:(aH G t).kind=.slice e) (hz:(aH G e).size≠0) (h:Sh G n t cs) (hf:∀ n c,Sh G n e c→∃ y,c=f y∧Q y) :
  ∃ l:List α,cs=[.list (aH G e).bytes (l.map f)]∧l.length*(aH G e).bytes≤140737488351232∧∀ y∈l,Q y:=by
 cases n with
 | zero=>exact h.elim
 | succ n=>
  simp only[Sh,hk] at h
  obtain⟨xs,rfl,hb,hx⟩:=h hz
  obtain⟨l,rfl,hq⟩:=vN fun c hc=>hf n c (hx c hc)
  exact⟨l,rfl,by simpa using hb,hq⟩
theorem sh_str {n t:Nat} {cs:List PV} (hk:(aH G t).kind=.str) (h:Sh G n t cs):∃ s:ByteArray,cs=[.str s]∧s.size≤140737488351232:=by
 cases n with
 | zero=>exact h.elim
 | succ n=>simpa only[Sh,hk] using h
theorem sh_int {n t:Nat} {k:IntKind} {cs:List PV} (hk:(aH G t).kind=.int k) (h:Sh G n t cs):∃ v,cs=[.int k v]∧k.has v:=by
 cases n with
 | zero=>exact h.elim
 | succ n=>simpa only[Sh,hk] using h
theorem sh_bool {n t:Nat} {cs:List PV} (hk:(aH G t).kind=.bool) (h:Sh G n t cs):∃ b,cs=[.bool b]:=by
 cases n with
 | zero=>exact h.elim
 | succ n=>simpa only[Sh,hk] using h
theorem kW {n t:Nat} {fs:List (Nat × Nat)} {cs:List PV} (hk:(aH G t).kind=.struct fs) (h:Sh G n t cs):∃ m,ShF (Sh G m) fs cs:=by
 cases n with
 | zero=>exact h.elim
 | succ n=>exact⟨n,by simpa only[Sh,hk] using h⟩
end
end
section
set_option maxRecDepth 10000
theorem GL_ok:wI GT GT=true:=by decide
theorem sh9 {n:Nat} {cs:List PV} (h:Sh GT n 9 cs):∃ s:ByteArray,cs=[.str s]:=by
 obtain⟨s,h1,_⟩:=sh_str (G:=GT) (t:=9) rfl h
 exact⟨s,h1⟩
theorem sh3 {n:Nat} {cs:List PV} (h:Sh GT n 3 cs):∃ v:Int,cs=[.int .i64 v]∧-9223372036854775808≤v∧v≤9223372036854775807:=by
 obtain⟨v,h1,h2⟩:=sh_int (G:=GT) (t:=3) (k:=.i64) rfl h
 exact⟨v,h1,h2⟩
theorem sh4 {n:Nat} {cs:List PV} (h:Sh GT n 4 cs):∃ b,cs=[.bool b]:=sh_bool (G:=GT) (t:=4) rfl h
theorem sh26 {n:Nat} {cs:List PV} (h:Sh GT n 26 cs):∃ l:List ByteArray,cs=[LS l]:=by
 obtain⟨l,h1,_⟩:=jL (G:=GT) (f:=eS) (Q:=fun _=>True) (e:=9) rfl (by decide) h fun n c hc=>by
  obtain⟨s,h1⟩:=sh9 hc;exact⟨s,h1,trivial⟩
 exact⟨l,h1⟩
theorem shTy:∀ (n:Nat) (cs:List PV),Sh GT n 46 cs→∃ t:Ty,cs=eT t∧kH t:=by
 intro n
 induction n using Nat.strongRecOn with
 | _ n ih=>
  intro cs h
  obtain⟨m,hm,h⟩:=wX (G:=GT) (t:=46) rfl h
  obtain⟨c1,c2,rfl,h1,c3,c4,rfl,h2,c5,c6,rfl,h3,c7,c8,rfl,h4,c9,c10,rfl,h5,rfl⟩:=h
  obtain⟨k,rfl,_⟩:=sh3 h1
  obtain⟨s,rfl⟩:=sh9 h2
  obtain⟨lo,rfl,l1,_⟩:=sh3 h3
  obtain⟨hi,rfl,_,l2⟩:=sh3 h4
  obtain⟨l,rfl,_,hq⟩:=zQ (G:=GT) (f:=eT) (Q:=kH) (e:=46) rfl (by decide) h5 fun m' hm' c hc=>ih m' (by omega) c hc
  refine⟨.mk k s lo hi l,?_,(numB_eq _).2 ⟨⟨l1,l2⟩,hq⟩⟩
  show _=[PV.int .i64 k,.str s,.int .i64 lo,.int .i64 hi,.list 64 (tA l)]
  rw[nX];rfl
theorem sh44 {n:Nat} {cs:List PV} (h:Sh GT n 44 cs):∃ l:List Ty,cs=[TS l]:=by
 obtain⟨l,h1,_⟩:=jL (G:=GT) (f:=eT) (Q:=kH) (e:=46) rfl (by decide) h fun n c hc=>shTy n c hc
 exact⟨l,h1⟩
theorem sh161 {n:Nat} {cs:List PV} (h:Sh GT n 161 cs):∃ l:List (ByteArray × Ty),cs=[PS l]:=by
 obtain⟨l,h1,_⟩:=jL (G:=GT) (f:=eP) (Q:=fun _=>True) (e:=226) rfl (by decide) h fun n c hc=>by
  obtain⟨m,h⟩:=kW (G:=GT) (t:=226) rfl hc
  obtain⟨c1,c2,rfl,h1,c3,c4,rfl,h2,rfl⟩:=h
  obtain⟨s,rfl⟩:=sh9 h1
  obtain⟨t,rfl,_⟩:=shTy _ _ h2
  exact⟨(s,t),by simp,trivial⟩
 exact⟨l,h1⟩
theorem shEx:∀ (n:Nat) (cs:List PV),Sh GT n 163 cs→∃ e:Ex,cs=eX e:=by
 intro n
 induction n using Nat.strongRecOn with
 | _ n ih=>
  intro cs h
  obtain⟨m,hm,h⟩:=wX (G:=GT) (t:=163) rfl h
  obtain⟨c1,c2,rfl,h1,c3,c4,rfl,h2,c5,c6,rfl,h3,c7,c8,rfl,h4,c9,c10,rfl,h5,c11,c12,rfl,h6,c13,c14,rfl,h7,rfl⟩:=h
  obtain⟨k,rfl,_⟩:=sh3 h1
  obtain⟨s,rfl⟩:=sh9 h2
  obtain⟨v,rfl,_⟩:=sh3 h3
  obtain⟨t,rfl,_⟩:=shTy _ _ h4
  obtain⟨ps,rfl⟩:=sh161 h5
  obtain⟨ks,rfl⟩:=sh26 h6
  obtain⟨l,rfl,_,_⟩:=zQ (G:=GT) (f:=eX) (Q:=fun _=>True) (e:=163) rfl (by decide) h7 fun m' hm' c hc=>by
   obtain⟨e,he⟩:=ih m' (by omega) c hc;exact⟨e,he,trivial⟩
  refine⟨.mk k s v t ps ks l,?_⟩
  show _=[PV.int .i64 k,.str s,.int .i64 v,.int .i64 t.kind,.str t.name,.int .i64 t.lo,.int .i64 t.hi,.list 64 (tA t.args),PS ps,LS ks,.list 168 (xA l)]
  rw[xA_eq];rfl
theorem sh47 {n:Nat} {cs:List PV} (h:Sh GT n 47 cs):∃ l:List Ex,cs=[XS l]:=by
 obtain⟨l,h1,_⟩:=jL (G:=GT) (f:=eX) (Q:=fun _=>True) (e:=163) rfl (by decide) h fun n c hc=>by
  obtain⟨e,he⟩:=shEx n c hc;exact⟨e,he,trivial⟩
 exact⟨l,h1⟩
theorem sh49 {n:Nat} {cs:List PV} (h:Sh GT n 49 cs):∃ s:SlotT,cs=wN s∧kH s.ty:=by
 obtain⟨m,h⟩:=kW (G:=GT) (t:=49) rfl h
 obtain⟨c1,c2,rfl,h1,c3,c4,rfl,h2,c5,c6,rfl,h3,c7,c8,rfl,h4,c9,c10,rfl,h5,rfl⟩:=h
 obtain⟨s,rfl⟩:=sh9 h1
 obtain⟨t,rfl,hn⟩:=shTy _ _ h2
 obtain⟨k,rfl⟩:=sh9 h3
 obtain⟨a,rfl,_⟩:=sh3 h4
 obtain⟨l,rfl⟩:=sh47 h5
 exact⟨⟨s,t,k,a,l⟩,by simp,hn⟩
theorem sh55 {n:Nat} {cs:List PV} (h:Sh GT n 55 cs):∃ d:DefT,cs=eD d∧∀ s∈d.slots,kH s.ty:=by
 obtain⟨m,h⟩:=kW (G:=GT) (t:=55) rfl h
 obtain⟨c1,c2,rfl,h1,c3,c4,rfl,h2,c5,c6,rfl,h3,c7,c8,rfl,h4,c9,c10,rfl,h5,rfl⟩:=h
 obtain⟨s,rfl⟩:=sh9 h1
 obtain⟨l,rfl⟩:=sh26 h2
 obtain⟨ss,rfl,_,hq⟩:=jL (G:=GT) (f:=wN) (Q:=fun s=>kH s.ty) (e:=49) rfl (by decide) h3 fun n c hc=>sh49 hc
 obtain⟨a,rfl⟩:=sh4 h4
 obtain⟨b,rfl⟩:=sh4 h5
 exact⟨⟨s,l,ss,a,b⟩,rfl,hq⟩
theorem sh42 {n:Nat} {cs:List PV} (h:Sh GT n 42 cs):∃ c:ClassI,cs=eC c:=by
 obtain⟨m,h⟩:=kW (G:=GT) (t:=42) rfl h
 obtain⟨c1,c2,rfl,h1,c3,c4,rfl,h2,c5,c6,rfl,h3,c7,c8,rfl,h4,c9,c10,rfl,h5,c11,c12,rfl,h6,rfl⟩:=h
 obtain⟨s,rfl⟩:=sh9 h1
 obtain⟨l,rfl⟩:=sh9 h2
 obtain⟨u,rfl⟩:=sh26 h3
 obtain⟨v,rfl⟩:=sh26 h4
 obtain⟨a,rfl⟩:=sh4 h5
 obtain⟨b,rfl⟩:=sh4 h6
 exact⟨⟨s,l,u,v,a,b⟩,rfl⟩
theorem sh200 {n:Nat} {cs:List PV} (h:Sh GT n 200 cs):∃ g:GenT,cs=eG g:=by
 obtain⟨m,h⟩:=kW (G:=GT) (t:=200) rfl h
 obtain⟨c1,c2,rfl,h1,c3,c4,rfl,h2,c5,c6,rfl,h3,c7,c8,rfl,h4,c9,c10,rfl,h5,c11,c12,rfl,h6,rfl⟩:=h
 obtain⟨s,rfl⟩:=sh9 h1
 obtain⟨l,rfl⟩:=sh9 h2
 obtain⟨a,rfl,_⟩:=sh3 h3
 obtain⟨b,rfl⟩:=sh4 h4
 obtain⟨ms,rfl,_,_⟩:=jL (G:=GT) (f:=eM) (Q:=fun _=>True) (e:=233) rfl (by decide) h5 fun n c hc=>by
  obtain⟨m,h⟩:=kW (G:=GT) (t:=233) rfl hc
  obtain⟨c1,c2,rfl,h1,c3,c4,rfl,h2,c5,c6,rfl,h3,c7,c8,rfl,h4,rfl⟩:=h
  obtain⟨i,rfl,_⟩:=sh3 h1
  obtain⟨s,rfl⟩:=sh9 h2
  obtain⟨ps,rfl⟩:=sh161 h3
  obtain⟨t,rfl,_⟩:=shTy _ _ h4
  exact⟨⟨i,s,ps,t⟩,by simp,trivial⟩
 obtain⟨ds,rfl,_,_⟩:=jL (G:=GT) (f:=eDm) (Q:=fun _=>True) (e:=236) rfl (by decide) h6 fun n c hc=>by
  obtain⟨m,h⟩:=kW (G:=GT) (t:=236) rfl hc
  obtain⟨c1,c2,rfl,h1,c3,c4,rfl,h2,rfl⟩:=h
  obtain⟨s,rfl⟩:=sh9 h1
  obtain⟨ts,rfl⟩:=sh44 h2
  exact⟨⟨s,ts⟩,rfl,trivial⟩
 exact⟨⟨s,l,a,b,ms,ds⟩,rfl⟩
theorem sv28 {n:Nat} {p:PV} (h:ShV GT n 28 p):∃ w:aW,p=WV w∧∀ d∈w.defs,∀ s∈d.slots,kH s.ty:=by
 obtain⟨cs,rfl,h0⟩:=(show ∃ cs,p=.agg cs∧Sh GT n 28 cs from h)
 obtain⟨m,h⟩:=kW (G:=GT) (t:=28) rfl h0
 obtain⟨c1,c2,rfl,h1,c3,c4,rfl,h2,c5,c6,rfl,h3,c7,c8,rfl,h4,c9,c10,rfl,h5,c11,c12,rfl,h6,c13,c14,rfl,h7,rfl⟩:=h
 obtain⟨cl,rfl,_,_⟩:=jL (G:=GT) (f:=eC) (Q:=fun _=>True) (e:=42) rfl (by decide) h1 fun n c hc=>by
  obtain⟨c,hc⟩:=sh42 hc;exact⟨c,hc,trivial⟩
 obtain⟨ds,rfl,_,hq⟩:=jL (G:=GT) (f:=eD) (Q:=fun d=>∀ s∈d.slots,kH s.ty) (e:=55) rfl (by decide) h2 fun n c hc=>sh55 hc
 obtain⟨vs,rfl,_,_⟩:=jL (G:=GT) (f:=eI) (Q:=fun _=>True) (e:=3) rfl (by decide) h3 fun n c hc=>by
  obtain⟨v,hv,_⟩:=sh3 hc;exact⟨v,hv,trivial⟩
 obtain⟨gs,rfl,_,_⟩:=jL (G:=GT) (f:=eG) (Q:=fun _=>True) (e:=200) rfl (by decide) h4 fun n c hc=>by
  obtain⟨g,hg⟩:=sh200 hc;exact⟨g,hg,trivial⟩
 obtain⟨ch,rfl⟩:=sh26 h5
 obtain⟨li,rfl⟩:=sh26 h6
 obtain⟨nx,rfl,_⟩:=sh3 h7
 exact⟨⟨cl,ds,vs,gs,ch,li,nx⟩,rfl,hq⟩
theorem sv3 {n:Nat} {p:PV} (h:ShV GT n 3 p):∃ v:Int,p=.int .i64 v∧-9223372036854775808≤v∧v≤9223372036854775807:=by
 obtain⟨v,hv,h1,h2⟩:=sh3 (show Sh GT n 3 [p] from h)
 exact⟨v,by injection hv,h1,h2⟩
theorem sv9 {n:Nat} {p:PV} (h:ShV GT n 9 p):∃ s:ByteArray,p=.str s:=by
 obtain⟨s,hs⟩:=sh9 (show Sh GT n 9 [p] from h)
 exact⟨s,by injection hs⟩
theorem sv26 {n:Nat} {p:PV} (h:ShV GT n 26 p):∃ l:List ByteArray,p=LS l:=by
 obtain⟨l,hl⟩:=sh26 (show Sh GT n 26 [p] from h)
 exact⟨l,by injection hl⟩
theorem szR_mem {r:List PV}:∀ {rs:List (List PV)},r∈rs→vA r≤szR rs
 | [],h=>by simp at h
 | x::rs,h=>by
  simp only[szR]
  rcases List.mem_cons.1 h with rfl | h
  ·omega
  ·have:=szR_mem h;omega
theorem cnts_sz:∀ l:List Ty,(∀ a∈l,a.cnt≤1+vA (eT a))→nK l≤szR (l.map eT)
 | [],_=>by simp[nK]
 | a::l,h=>by
  have h1:=h a (by simp)
  have h2:=cnts_sz l fun b hb=>h b (by simp[hb])
  simp only[nK,List.map_cons,szR]
  omega
theorem cnt_sz:∀ t:Ty,t.cnt≤1+vA (eT t):=by
 refine Ty.ind fun t ih=>?_
 have:=cnts_sz t.args ih
 rw[sR]
 simp only[vA,szV,nX]
 omega
theorem mac_of {w:aW} (hn:∀ d∈w.defs,∀ s∈d.slots,kH s.ty) (h:szV (WV w)≤1048576):rF w:=fun d hd s hs=>by
 refine⟨?_,hn d hd s hs⟩
 have h1:=cnt_sz s.ty
 have h2:vA (wN s)≤szR (d.slots.map wN):=szR_mem (List.mem_map.2 ⟨s,hs,rfl⟩)
 have h3:vA (eD d)≤szR (w.defs.map eD):=szR_mem (List.mem_map.2 ⟨d,hd,rfl⟩)
 simp only[vA,szV] at h1 h2 h3 h
 omega
end
theorem wf64 {a:Int} (h:(Lit.int .i64 a).wf=true):-9223372036854775808≤a∧a≤9223372036854775807:=by
 simpa[Lit.wf,IntKind.has,IntKind.min,IntKind.max,IntKind.signed,IntKind.bits] using h
theorem arg_pair {H:Type} {enc:TypeId × Value→H} {P:Program} {W:World} {base b0:Nat} {sp:Nat→Bool} {held:Bool} {k e:TypeId} {r:Reach} {v:Value} {d:DataW H} {ps:List MemPlace} (A:Go.WideMaps.ArrKey P k e 2) (he:P.underlying e=some (.int .i64))
  (hval:Value.okWide P W r b0 k v) (hd:DataW.Trod enc P W base sp held k v d ps) :
  ∃ a b,(-9223372036854775808≤a∧a≤9223372036854775807)∧(-9223372036854775808≤b∧b≤9223372036854775807)∧Rep W (frW W) noN v (.agg [.int .i64 a,.int .i64 b]):=by
 obtain⟨a,b,rfl,_,_,wa,wb⟩:=Go.WideMaps.open_pair A he hval hd
 have ha:IntKind.i64.has a:=by simpa[Lit.wf,IntKind.has] using wa
 have hb:IntKind.i64.has b:=by simpa[Lit.wf,IntKind.has] using wb
 refine⟨a,b,wf64 wa,wf64 wb,.agg _ _ rfl fun i h1 h2=>?_⟩
 match i,h1 with
 | 0,_=>exact .int _ _ ha
 | 1,_=>exact .int _ _ hb
end Go.Proofs.YtbojdflgjpjbiaaGreat.L
