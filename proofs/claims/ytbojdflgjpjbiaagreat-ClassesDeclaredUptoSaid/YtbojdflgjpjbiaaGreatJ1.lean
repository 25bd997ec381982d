/- A logic over the machine, and what the functions of the seat come to: part 1. No claim stands here; the theorems are used by the row. -/
import Derived.RangeFuncLeaves
import Derived.RangeFuncRecord
import Derived.Laws.NewBlocks
import Derived.KernelRfl
import Derived.Laws.Entries
import Derived.IntWalk
import Derived.Laws.Strings
import Derived.Laws.Cells
import Derived.Laws.Slices
import Derived.Laws.IdiomCopy
import Derived.Laws.AppendOwn
set_option linter.unusedSimpArgs false
set_option linter.unnecessarySimpa false
set_option linter.unusedVariables false
namespace Go.Proofs.YtbojdflgjpjbiaaGreat.L
open Go
inductive PV where
 | any
 | int (k:IntKind) (n:Int)
 | bool (b:Bool)
 | str (s:ByteArray)
 | agg (cs:List PV)
 | tup (vs:List PV)
 | list (e:Nat) (xs:List (List PV))
 | nils
 | row (g ver off len sz:Nat)
 | ptr (g ver i j sz:Nat)
 | fptr (cs:List PV) (j:Nat)
 | nilp
 | map (g:Nat)
 | nilm
 | fn (f:Fn) (first cap:List PV)
 | yld (g:Nat)
 | nilf
 | iface (t:Nat) (v:PV)
 | nili
 deriving Inhabited
inductive MK where
 | s (b:ByteArray)
 | i (n:Int)
 deriving DecidableEq
def MK.val:MK→Value
 | .s b=>.string b
 | .i n=>.int .i64 n
def MK.isS:MK→Bool
 | .s _=>true
 | .i _=>false
inductive AO where
 | row (ver sz e:Nat) (xs:List (List PV))
 | map (str:Bool) (g:MK→Option PV)
 | dfr
 | loop (st:LoopState) (pending:Option Code) (fn:FuncId) (t:List PV) (params:Array Tmp) (assign body:Code) (d:Nat)
def AO.ver:AO→Nat
 | .row v _ _ _=>v
 | _=>0
abbrev aD:=Nat→Option AO
abbrev aQ:=Nat→Option (Nat × Option Nat)
abbrev cap47:Nat:=140737488355328
def At (m:aQ) (g ver:Nat) (C:Option Nat→Prop):Prop:=∃ v b,m g=some (v,b)∧ver≤v∧(v=ver→C b)
inductive Rep (w:World) (fr:Nat→Prop) (m:aQ):Value→PV→Prop
 | any (v:Value):Rep w fr m v .any
 | int (k:IntKind) (n:Int) (h:k.has n):Rep w fr m (.int k n) (.int k n)
 | bool (b:Bool):Rep w fr m (.bool b) (.bool b)
 | str (s:ByteArray) (h:s.size≤cap47):Rep w fr m (.string s) (.str s)
 | agg (cs:Array Value) (ps:List PV) (hl:cs.size=ps.length) (h:∀ (i:Nat) (h1:i<cs.size) (h2:i<ps.length),Rep w fr m cs[i] ps[i]):Rep w fr m (.agg cs) (.agg ps)
 | tup (cs:Array Value) (ps:List PV) (hl:cs.size=ps.length) (h:∀ (i:Nat) (h1:i<cs.size) (h2:i<ps.length),Rep w fr m cs[i] ps[i]):Rep w fr m (.tuple cs) (.tup ps)
 | list0 (base:Option Addr) (cap e:Nat):Rep w fr m (.slice base 0 cap) (.list e [])
 | list (b o cap e sz:Nat) (xs:List (List PV)) (vals:Nat→Nat→Value) (hf:fr b) (hc:xs.length≤cap) (he:xs.length*e≤cap47)
   (hs:∀ (i:Nat) (h:i<xs.length),xs[i].length=sz)
   (hv:∀ i j,i<xs.length→j<sz→w.cell? ⟨b,o+(i*sz+j),none⟩=some (vals i j))
   (hr:∀ (i j:Nat) (hi:i<xs.length) (hj:j<xs[i].length),Rep w fr m (vals i j) xs[i][j]) :
   Rep w fr m (.slice (some ⟨b,o,none⟩) xs.length cap) (.list e xs)
 | nils:Rep w fr m (.slice none 0 0) .nils
 | row (v:Value) (g ver off len sz:Nat) (h:At m g ver fun
   | none=>v=.slice none 0 0∧off=0∧len=0
   | some b=>∃ cap N,v=.slice (some ⟨b,off*sz,none⟩) len cap∧len≤cap∧(w.shape? b).map (·.2)=some N∧(off+cap)*sz≤N) :
   Rep w fr m v (.row g ver off len sz)
 | ptr (v:Value) (g ver i j sz:Nat) (h:At m g ver fun ob=>∃ b,ob=some b∧v=.pointer (some ⟨b,i*sz+j,none⟩)):Rep w fr m v (.ptr g ver i j sz)
 | fptr (b o j:Nat) (cs:List PV) (vals:Nat→Value) (hf:fr b) (hv:∀ k,k<cs.length→w.cell? ⟨b,o+k,none⟩=some (vals k))
   (hr:∀ (k:Nat) (hk:k<cs.length),Rep w fr m (vals k) cs[k]):Rep w fr m (.pointer (some ⟨b,o+j,none⟩)) (.fptr cs j)
 | nilp:Rep w fr m (.pointer none) .nilp
 | map (v:Value) (g:Nat) (h:At m g 0 fun ob=>∃ b,ob=some b∧v=.map (some b)):Rep w fr m v (.map g)
 | nilm:Rep w fr m (.map none) .nilm
 | fn (f:Fn) (a c:Array Value) (pa pc:List PV) (ha:a.size=pa.length) (hc:c.size=pc.length)
   (hra:∀ (i:Nat) (h1:i<a.size) (h2:i<pa.length),Rep w fr m a[i] pa[i])
   (hrc:∀ (i:Nat) (h1:i<c.size) (h2:i<pc.length),Rep w fr m c[i] pc[i]):Rep w fr m (.func f a c) (.fn f pa pc)
 | yld (v:Value) (g:Nat) (h:At m g 0 fun ob=>∃ b,ob=some b∧v=.func (.yield b) #[] #[]):Rep w fr m v (.yld g)
 | nilf:Rep w fr m .nilFunc .nilf
 | iface (t:Nat) (v:Value) (p:PV) (h:Rep w fr m v p):Rep w fr m (.iface t v) (.iface t p)
 | nili:Rep w fr m .nilIface .nili
def Nle (m m':aQ):Prop:=∀ g v b,m g=some (v,b)→∃ v' b',m' g=some (v',b')∧v≤v'∧(v'=v→b'=b)
theorem Nle.refl (m:aQ):Nle m m:=fun _ v b h=>⟨v,b,h,Nat.le_refl _,fun _=>rfl⟩
theorem Nle.trans {m m' m'':aQ} (h:Nle m m') (k:Nle m' m''):Nle m m'':=fun g v b hg=>by
 obtain⟨v1,b1,h1,h2,h3⟩:=h g v b hg
 obtain⟨v2,b2,k1,k2,k3⟩:=k g v1 b1 h1
 exact⟨v2,b2,k1,Nat.le_trans h2 k2,fun e=>by
  have e1:v1=v:=by omega
  rw[k3 (by omega),h3 e1]⟩
structure iT (w:World) (fr:Nat→Prop) (m:aQ) (w':World) (fr':Nat→Prop) (m':aQ):Prop where
 up:∀ b,fr b→fr' b
 same:∀ b,fr b→w'.heap[b]?=w.heap[b]?
 shape:∀ b N,(w.shape? b).map (·.2)=some N→(w'.shape? b).map (·.2)=some N
 nam:Nle m m'
theorem iT.refl (w:World) (fr:Nat→Prop) (m:aQ):iT w fr m w fr m:=⟨fun _ h=>h,fun _ _=>rfl,fun _ _ h=>h,Nle.refl m⟩
theorem iT.trans {w w' w'':World} {fr fr' fr'':Nat→Prop} {m m' m'':aQ} (h:iT w fr m w' fr' m') (k:iT w' fr' m' w'' fr'' m''):iT w fr m w'' fr'' m'':=
 ⟨fun b hb=>k.up b (h.up b hb),fun b hb=>(k.same b (h.up b hb)).trans (h.same b hb),fun b N hN=>k.shape b N (h.shape b N hN),h.nam.trans k.nam⟩
theorem iT.cell {w w':World} {fr fr':Nat→Prop} {m m':aQ} (k:iT w fr m w' fr' m') {b o:Nat} {s:Option Nat} (hb:fr b):w'.cell? ⟨b,o,s⟩=w.cell? ⟨b,o,s⟩:=by
 simp only[World.cell?,k.same b hb]
theorem At.keep {w w':World} {fr fr':Nat→Prop} {m m':aQ} (k:iT w fr m w' fr' m') {g ver:Nat} {C C':Option Nat→Prop} (h:At m g ver C) (hC:∀ b,C b→C' b):At m' g ver C':=by
 obtain⟨v,b,h1,h2,h3⟩:=h
 obtain⟨v',b',k1,k2,k3⟩:=k.nam g v b h1
 exact⟨v',b',k1,Nat.le_trans h2 k2,fun e=>by
  have e1:v'=v:=by omega
  rw[k3 e1];exact hC _ (h3 (by omega))⟩
theorem Rep.keep {w w':World} {fr fr':Nat→Prop} {m m':aQ} {v:Value} {p:PV} (h:Rep w fr m v p) (k:iT w fr m w' fr' m'):Rep w' fr' m' v p:=by
 induction h with
 | any v=>exact .any v
 | int k n h=>exact .int k n h
 | bool b=>exact .bool b
 | str s h=>exact .str s h
 | agg cs ps hl h ih=>exact .agg cs ps hl ih
 | tup cs ps hl h ih=>exact .tup cs ps hl ih
 | list0 base cap e=>exact .list0 base cap e
 | list b o cap e sz xs vals hf hc he hs hv hr ih=>exact .list b o cap e sz xs vals (k.up b hf) hc he hs (fun i j hi hj=>(k.cell hf).trans (hv i j hi hj)) ih
 | nils=>exact .nils
 | row v g ver off len sz h=>
  exact .row v g ver off len sz (h.keep k fun b hb=>by
   cases b with
   | none=>exact hb
   | some b=>obtain⟨cap,N,h1,h2,h3,h4⟩:=hb;exact⟨cap,N,h1,h2,k.shape b N h3,h4⟩)
 | ptr v g ver i j sz h=>exact .ptr v g ver i j sz (h.keep k fun b hb=>hb)
 | fptr b o j cs vals hf hv hr ih=>exact .fptr b o j cs vals (k.up b hf) (fun i hi=>(k.cell hf).trans (hv i hi)) ih
 | nilp=>exact .nilp
 | map v g h=>exact .map v g (h.keep k fun b hb=>hb)
 | nilm=>exact .nilm
 | fn f a c pa pc ha hc hra hrc iha ihc=>exact .fn f a c pa pc ha hc iha ihc
 | yld v g h=>exact .yld v g (h.keep k fun b hb=>hb)
 | nilf=>exact .nilf
 | iface t v p h ih=>exact .iface t v p ih
 | nili=>exact .nili
def gD (w:World) (fr:Nat→Prop) (m:aQ) (vs:Array Value) (ps:List PV):Prop:=
 vs.size=ps.length∧∀ (i:Nat) (h1:i<vs.size) (h2:i<ps.length),Rep w fr m vs[i] ps[i]
theorem gD.keep {w w':World} {fr fr':Nat→Prop} {m m':aQ} {vs:Array Value} {ps:List PV} (h:gD w fr m vs ps) (k:iT w fr m w' fr' m'):gD w' fr' m' vs ps:=
 ⟨h.1,fun i h1 h2=>(h.2 i h1 h2).keep k⟩
def OptR (w:World) (fr:Nat→Prop) (m:aQ):Option Value→Option PV→Prop
 | none,none=>True
 | some v,some p=>Rep w fr m v p
 | _,_=>False
theorem OptR.keep {w w':World} {fr fr':Nat→Prop} {m m':aQ} {v:Option Value} {p:Option PV} (h:OptR w fr m v p) (k:iT w fr m w' fr' m'):OptR w' fr' m' v p:=by
 cases v <;> cases p <;> simp only[OptR] at *
 exact h.keep k
def ObjR (w:World) (fr:Nat→Prop) (m:aQ) (o:Obj):AO→Prop
 | .row _ sz e xs=>xs.length*e≤cap47∧∃ arr el,o=.cells arr el (0,0)∧(∀ (i:Nat) (h:i<xs.length),xs[i].length=sz)∧xs.length*sz≤arr.size ∧
   ∀ (i j:Nat) (hi:i<xs.length) (hj:j<xs[i].length),∃ v,arr[i*sz+j]?=some v∧Rep w fr m v xs[i][j]
 | .map str g=>∃ es clock,∃ ks:List (MK × Value),o=.map es clock∧es.toList.map (fun e=>(e.key,e.val))=ks.map (fun x=>(x.1.val,x.2))∧(∀ x∈ks,x.1.isS=str) ∧
   ∀ k:MK,OptR w fr m ((ks.find? (fun x=>decide (x.1=k))).map (·.2)) (g k)
 | .dfr=>o=.deferred (some [])
 | .loop st pending fn t params assign body d=>∃ tmps:Array Value,∃ db:Nat,At m d 0 (fun ob=>ob=some db)∧o=.loop { state:=st,pending,fn,tmps,params,assign,body,defers:=db }∧gD w fr m tmps t
theorem ObjR.keep {w w':World} {fr fr':Nat→Prop} {m m':aQ} {o:Obj} {x:AO} (h:ObjR w fr m o x) (k:iT w fr m w' fr' m'):ObjR w' fr' m' o x:=by
 cases x with
 | row ver sz e xs=>
  obtain⟨he,arr,el,ho,h1,h2,h3⟩:=h
  exact⟨he,arr,el,ho,h1,h2,fun i j hi hj=>let ⟨v,hv,hr⟩:=h3 i j hi hj;⟨v,hv,hr.keep k⟩⟩
 | map str g=>
  obtain⟨es,clock,ks,ho,h1,h2,h3⟩:=h
  exact⟨es,clock,ks,ho,h1,h2,fun x=>(h3 x).keep k⟩
 | dfr=>exact h
 | loop st pending fn t params assign body d=>
  obtain⟨tmps,db,hd,ho,h1⟩:=h
  exact⟨tmps,db,hd.keep k (fun _ h=>h),ho,h1.keep k⟩
def Own (m:aQ) (S:aD) (b:Nat):Prop:=∃ g x v,S g=some x∧m g=some (v,some b)
def ObjAt (w:World) (fr:Nat→Prop) (m:aQ) (x:AO):Option Nat→Prop
 | none=>∃ ver sz e,x=.row ver sz e []
 | some b=>∃ o,w.heap[b]?=some o∧ObjR w fr m o x
structure RelS (w:World) (fr:Nat→Prop) (m:aQ) (S:aD):Prop where
 obj:∀ g x,S g=some x→∃ ob,m g=some (x.ver,ob)∧ObjAt w fr m x ob
 apart:∀ b,fr b→¬ Own m S b
 inj:∀ g g' x x' v v' b,S g=some x→S g'=some x'→m g=some (v,some b)→m g'=some (v',some b)→g=g'
 frz:∀ b,fr b→b<w.heap.size
 bnd:∃ n,∀ g,n≤g→m g=none
theorem RelS.lt {w:World} {fr:Nat→Prop} {m:aQ} {S:aD} (h:RelS w fr m S) {b:Nat} (hb:Own m S b):b<w.heap.size:=by
 obtain⟨g,x,v,hg,hm⟩:=hb
 obtain⟨ob,h1,h2⟩:=h.obj g x hg
 rw[hm] at h1
 cases h1
 obtain⟨o,ho,_⟩:=h2
 exact (Array.getElem?_eq_some_iff.1 ho).1
structure bZ (w:World) (fr:Nat→Prop) (m:aQ) (S:aD) (w':World) (fr':Nat→Prop) (m':aQ) (S':aD):Prop where
 size:w.heap.size≤w'.heap.size
 up:∀ b,fr b→fr' b
 frn:∀ b,fr' b→fr b∨Own m S b∨w.heap.size≤b
 own:∀ b,Own m' S' b→Own m S b∨w.heap.size≤b
 dom:∀ g,(S' g).isSome=true→(S g).isSome=true∨m g=none
 same:∀ b,b<w.heap.size→¬ Own m S b→w'.heap[b]?=w.heap[b]?
 shape:∀ b N,(w.shape? b).map (·.2)=some N→(w'.shape? b).map (·.2)=some N
 nam:Nle m m'
 out:∀ g,(m g).isSome=true→S g=none→m' g=m g
 io:w'.os=w.os∧w'.output=w.output
theorem bZ.refl (w:World) (fr:Nat→Prop) (m:aQ) (S:aD):bZ w fr m S w fr m S:=
 ⟨Nat.le_refl _,fun _ h=>h,fun _ h=>.inl h,fun _ h=>.inl h,fun _ h=>.inl h,fun _ _ _=>rfl,fun _ _ h=>h,Nle.refl m,fun _ _ _=>rfl,rfl,rfl⟩
theorem bZ.trans {w w' w'':World} {fr fr' fr'':Nat→Prop} {m m' m'':aQ} {S S' S'':aD} (h:bZ w fr m S w' fr' m' S') (k:bZ w' fr' m' S' w'' fr'' m'' S''):bZ w fr m S w'' fr'' m'' S'' where
 size:=Nat.le_trans h.size k.size
 up:=fun b hb=>k.up b (h.up b hb)
 frn:=fun b hb=>by
  rcases k.frn b hb with h1 | h1 | h1
  ·exact h.frn b h1
  ·exact .inr (h.own b h1)
  ·exact .inr (.inr (Nat.le_trans h.size h1))
 own:=fun b hb=>by
  rcases k.own b hb with h1 | h1
  ·exact h.own b h1
  ·exact .inr (Nat.le_trans h.size h1)
 dom:=fun g hg=>by
  rcases k.dom g hg with h1 | h1
  ·exact h.dom g h1
  ·cases hm:m g with
   | none=>exact .inr rfl
   | some x=>
    obtain⟨v,b⟩:=x
    obtain⟨v',b',e,_⟩:=h.nam g v b hm
    rw[h1] at e;cases e
 same:=fun b hb hS=>by
  have h1:=h.same b hb hS
  refine (k.same b (Nat.lt_of_lt_of_le hb h.size) ?_).trans h1
  intro ho
  rcases h.own b ho with h2 | h2
  ·exact hS h2
  ·omega
 shape:=fun b N hN=>k.shape b N (h.shape b N hN)
 nam:=h.nam.trans k.nam
 io:=⟨k.io.1.trans h.io.1,k.io.2.trans h.io.2⟩
 out:=fun g hg hS=>by
  have h1:=h.out g hg hS
  refine (k.out g (by rw[h1];exact hg) ?_).trans h1
  cases hS':S' g with
  | none=>rfl
  | some x=>
   rcases h.dom g (by simp[hS']) with h2 | h2
   ·simp[hS] at h2
   ·simp[h2] at hg
theorem bZ.keep {w w':World} {fr fr':Nat→Prop} {m m':aQ} {S S':aD} (h:bZ w fr m S w' fr' m' S') (r:RelS w fr m S):iT w fr m w' fr' m':=
 ⟨h.up,fun b hb=>h.same b (r.frz b hb) (r.apart b hb),h.shape,h.nam⟩
inductive DA where
 | call (f:Nat) (args:List PV)
 | mark (g:Nat)
def DR (w:World) (fr:Nat→Prop) (m:aQ) (d:Deferred):DA→Prop
 | .call f args=>∃ cap,d.target=.fn (.func f) cap∧gD w fr m (d.args++cap) args
 | .mark g=>At m g 0 fun ob=>∃ b,ob=some b∧d={ target:=.collected b,args:=#[] }
theorem DR.keep {w w':World} {fr fr':Nat→Prop} {m m':aQ} {d:Deferred} {x:DA} (h:DR w fr m d x) (k:iT w fr m w' fr' m'):DR w' fr' m' d x:=by
 cases x with
 | call f args=>obtain⟨cap,h1,h2⟩:=h;exact⟨cap,h1,h2.keep k⟩
 | mark g=>exact At.keep k h (fun _ h=>h)
def DsR (w:World) (fr:Nat→Prop) (m:aQ):List Deferred→List DA→Prop
 | [],[]=>True
 | d::ds,x::xs=>DR w fr m d x∧DsR w fr m ds xs
 | _,_=>False
theorem DsR.keep {w w':World} {fr fr':Nat→Prop} {m m':aQ} (k:iT w fr m w' fr' m'):∀ {ds:List Deferred} {xs:List DA},DsR w fr m ds xs→DsR w' fr' m' ds xs
 | [],[],_=>trivial
 | _::_,_::_,h=>⟨h.1.keep k,DsR.keep k h.2⟩
 | [],_::_,h=>h.elim
 | _::_,[],h=>h.elim
def getT:List PV→Nat→PV
 | [],_=>.any
 | x::_,0=>x
 | _::l,n+1=>getT l n
structure kZ (a:Act) (w:World) (fr:Nat→Prop) (m:aQ) (t:List PV) (S:aD) (D:List DA):Prop where
 rel:RelS w fr m S
 len:a.tmps.size=t.length
 tmp:∀ i,Rep w fr m (a.tmps.getD i undef) (getT t i)
 dfr:DsR w fr m a.defers D
theorem kZ.step {a:Act} {w w':World} {fr fr':Nat→Prop} {m m':aQ} {t:List PV} {S S':aD} {D:List DA} (h:kZ a w fr m t S D) (s:bZ w fr m S w' fr' m' S') (r:RelS w' fr' m' S'):kZ a w' fr' m' t S' D:=
 ⟨r,h.len,fun i=>(h.tmp i).keep (s.keep h.rel),h.dfr.keep (s.keep h.rel)⟩
theorem fU (l:List PV) (d i:Nat) (v:PV):getT (l.set d v) i=if i=d∧d<l.length then v else getT l i:=by
 induction l generalizing d i with
 | nil=>simp[getT]
 | cons x l ih=>
  cases d with
  | zero=>cases i <;> simp[getT]
  | succ d=>cases i <;> simp[getT,ih]
def jH (t:List PV):Option Nat→PV→List PV
 | some d,v=>t.set d v
 | none,_=>t
theorem vT (xs:Array Value) (d i:Nat) (v u:Value):(xs.setIfInBounds d v).getD i u=if i=d∧d<xs.size then v else xs.getD i u:=by
 simp only[Array.getD_eq_getD_getElem?,Array.getElem?_setIfInBounds]
 by_cases h:d=i
 ·subst h
  by_cases h2:d<xs.size <;> simp[h2]
 ·simp[h,Ne.symm h]
theorem kZ.put {a:Act} {w:World} {fr:Nat→Prop} {m:aQ} {t:List PV} {S:aD} {D:List DA} (h:kZ a w fr m t S D) (d:Option Nat) {v:Value} {p:PV} (hv:Rep w fr m v p):kZ (a.put d v) w fr m (jH t d p) S D:=by
 cases d with
 | none=>exact h
 | some d=>
  refine⟨h.rel,by simp[Act.put,jH,h.len],fun i=>?_,h.dfr⟩
  simp only[Act.put,jH,vT,fU,h.len]
  split
  ·exact hv
  ·exact h.tmp i
inductive AX where
 | normal
 | exit (id:Nat)
 | goto (l:Nat)
 | ret
 | panic (p:PV)
def XR (w:World) (fr:Nat→Prop) (m:aQ):Exit→AX→Prop
 | .normal,.normal=>True
 | .exit i,.exit j=>i=j
 | .goto i,.goto j=>i=j
 | .ret,.ret=>True
 | .panic [{ v,recovered:=false,goexit:=false }],.panic p=>Rep w fr m v p
 | _,_=>False
abbrev bQ:=AX→List PV→aD→List DA→Prop
def dF (w:World) (fr:Nat→Prop) (m:aQ) (S:aD) (Q:bQ):Exit→Act→World→Prop:=fun e a' w'=>
 ∃ x t' S' D' fr' m',Q x t' S' D'∧XR w' fr' m' e x∧kZ a' w' fr' m' t' S' D'∧bZ w fr m S w' fr' m' S'
theorem dF.trans {w w':World} {fr fr':Nat→Prop} {m m':aQ} {S S':aD} {Q:bQ} (s:bZ w fr m S w' fr' m' S') {e:Exit} {a:Act} {w'':World} (h:dF w' fr' m' S' Q e a w''):dF w fr m S Q e a w'':=
 let ⟨x,t,S2,D2,fr2,m2,h1,h2,h3,h4⟩:=h
 ⟨x,t,S2,D2,fr2,m2,h1,h2,h3,s.trans h4⟩
abbrev FR (r:Option Nat):Fence:={ Fence.wide with round:=r }
def T (P:Program) (r:Option Nat) (c:Code) (Q:bQ) (t:List PV) (S:aD) (D:List DA):Prop:=
 ∀ a w fr m,kZ a w fr m t S D→c.wpIn (FR r) 0 P (dF w fr m S Q) a w
def TO (P:Program) (r:Option Nat) (ops:Array Oper) (idx:List Nat) (Q:bQ) (t:List PV) (S:aD) (D:List DA):Prop:=
 ∀ a w fr m,kZ a w fr m t S D→wpOpsIn (FR r) 0 P ops (dF w fr m S Q) idx a w
inductive iY where
 | ret (p:PV)
 | pan (p:PV)
def nQ (w:World) (fr:Nat→Prop) (m:aQ):Ending→iY→Prop
 | .returned v,.ret p=>Rep w fr m v p
 | .panicked [{ v,recovered:=false,goexit:=false }],.pan p=>Rep w fr m v p
 | _,_=>False
def xY (P:Program) (f:Nat):Prop:=∃ fn,P.funcs[f]?=some fn∧(fn.name == "runtime.NumGoroutine")=false∧fn.body.isNone=false
def Fn (P:Program) (f:Nat) (args:List PV) (S:aD) (R:iY→aD→Prop):Prop:=
 xY P f∧∀ w fr m vs,RelS w fr m S→gD w fr m vs args →
  Calls P f vs w fun e w'=>∃ o S' fr' m',R o S'∧nQ w' fr' m' e o∧RelS w' fr' m' S'∧bZ w fr m S w' fr' m' S'
section
variable {P:Program} {r:Option Nat}
theorem T.mono {c:Code} {Q Q':bQ} {t:List PV} {S:aD} {D:List DA} (h:T P r c Q t S D) (hq:∀ x t S D,Q x t S D→Q' x t S D):T P r c Q' t S D:=
 fun a w fr m hs=>wpIn_mono (h a w fr m hs) fun _ _ _ ⟨x,t',S',D',fr',m',h1,h2,h3,h4⟩=>⟨x,t',S',D',fr',m',hq _ _ _ _ h1,h2,h3,h4⟩
theorem T_skip {Q:bQ} {t:List PV} {S:aD} {D:List DA} (h:Q .normal t S D):T P r .skip Q t S D:=
 fun _ _ _ _ hs=>wpIn_skip ⟨_,_,_,_,_,_,h,trivial,hs,.refl _ _ _ _⟩
theorem T_label {l:Nat} {Q:bQ} {t:List PV} {S:aD} {D:List DA} (h:Q .normal t S D):T P r (.label l) Q t S D:=
 fun _ _ _ _ hs=>wpIn_label ⟨_,_,_,_,_,_,h,trivial,hs,.refl _ _ _ _⟩
theorem T_exit {i:Nat} {Q:bQ} {t:List PV} {S:aD} {D:List DA} (h:Q (.exit i) t S D):T P r (.exit i) Q t S D:=
 fun _ _ _ _ hs=>wpIn_exit ⟨_,_,_,_,_,_,h,rfl,hs,.refl _ _ _ _⟩
theorem T_goto {i:Nat} {Q:bQ} {t:List PV} {S:aD} {D:List DA} (h:Q (.goto i) t S D):T P r (.goto i) Q t S D:=
 fun _ _ _ _ hs=>wpIn_goto ⟨_,_,_,_,_,_,h,rfl,hs,.refl _ _ _ _⟩
theorem T_ret {Q:bQ} {t:List PV} {S:aD} {D:List DA} (h:Q .ret t S D):T P r .ret Q t S D:=
 fun _ _ _ _ hs=>wpIn_ret ⟨_,_,_,_,_,_,h,trivial,hs,.refl _ _ _ _⟩
def uA (K:List PV→aD→List DA→Prop) (Q:bQ):bQ
 | .normal=>K
 | x=>Q x
theorem XR.normal {w:World} {fr:Nat→Prop} {m:aQ} {x:AX} (h:XR w fr m .normal x):x=.normal:=by cases x <;> simp_all [XR]
theorem XR.not_normal {w:World} {fr:Nat→Prop} {m:aQ} {e:Exit} (h:XR w fr m e .normal):e=.normal:=by
 cases e with
 | normal=>rfl
 | panic l=>unfold XR at h;split at h <;> simp_all
 | _=>simp_all [XR]
theorem XR.exit {w:World} {fr:Nat→Prop} {m:aQ} {i:Nat} {x:AX} (h:XR w fr m (.exit i) x):x=.exit i:=by cases x <;> simp_all [XR]
theorem XR.not_exit {w:World} {fr:Nat→Prop} {m:aQ} {e:Exit} {i:Nat} (h:XR w fr m e (.exit i)):e=.exit i:=by
 cases e with
 | exit j=>simp_all [XR]
 | panic l=>unfold XR at h;split at h <;> simp_all
 | _=>simp_all [XR]
theorem XR.keep {w w':World} {fr fr':Nat→Prop} {m m':aQ} {e:Exit} {x:AX} (h:XR w fr m e x) (k:iT w fr m w' fr' m'):XR w' fr' m' e x:=by
 unfold XR at h
 split at h
 ·trivial
 ·exact h
 ·exact h
 ·trivial
 ·exact h.keep k
 ·exact h.elim
theorem then_post {c:Code} {K:List PV→aD→List DA→Prop} {Q:bQ} {w:World} {fr:Nat→Prop} {m:aQ} {S:aD}
  (hK:∀ t S' D a w' fr' m',K t S' D→kZ a w' fr' m' t S' D→bZ w fr m S w' fr' m' S'→c.wpIn (FR r) 0 P (dF w fr m S Q) a w') :
  ∀ e a w',dF w fr m S (uA K Q) e a w'→Exit.then (c.wpIn (FR r) 0 P (dF w fr m S Q)) (dF w fr m S Q) e a w':=by
 rintro e a w' ⟨x,t',S',D',fr',m',h1,h2,h3,h4⟩
 cases e with
 | normal=>
  have hx:=h2.normal
  subst hx
  exact hK _ _ _ _ _ _ _ h1 h3 h4
 | outgrown=>cases x <;> exact (by simpa[XR] using h2:False).elim
 | _=>
  cases x with
  | normal=>have:=h2.not_normal;simp at this
  | _=>exact⟨_,_,_,_,_,_,h1,h2,h3,h4⟩
theorem T_seq {x y:Code} {Q:bQ} {t:List PV} {S:aD} {D:List DA} (h:T P r x (uA (T P r y Q) Q) t S D):T P r (.seq x y) Q t S D:=by
 intro a w fr m hs
 refine wpIn_seq (wpIn_mono (h a w fr m hs) (then_post ?_))
 intro t' S' D' a' w' fr' m' hk hs' hst
 exact wpIn_mono (hk a' w' fr' m' hs') fun _ _ _ h=>dF.trans hst h
def blockX (i:Nat) (Q:bQ):bQ
 | .exit j=>if j=i then Q .normal else Q (.exit j)
 | x=>Q x
theorem T_block {i:Nat} {c:Code} {Q:bQ} {t:List PV} {S:aD} {D:List DA} (h:T P r c (blockX i Q) t S D):T P r (.block i c) Q t S D:=by
 intro a w fr m hs
 refine wpIn_block (wpIn_mono (h a w fr m hs) ?_)
 rintro e a' w' ⟨x,t',S',D',fr',m',h1,h2,h3,h4⟩
 cases e with
 | exit j=>
  have hx:=h2.exit
  subst hx
  simp only[blockX] at h1
  simp only[Exit.inBlock]
  split
  ·rw[if_pos (by assumption)] at h1
   exact⟨_,_,_,_,_,_,h1,trivial,h3,h4⟩
  ·rw[if_neg (by assumption)] at h1
   exact⟨_,_,_,_,_,_,h1,rfl,h3,h4⟩
 | outgrown=>cases x <;> exact (by simpa[XR] using h2:False).elim
 | _=>
  cases x with
  | exit j=>have:=h2.not_exit;simp at this
  | _=>exact⟨_,_,_,_,_,_,h1,h2,h3,h4⟩
def yH:List PV→List PV→Prop
 | [],[]=>True
 | _::l,.any::l'=>yH l l'
 | x::l,y::l'=>x=y∧yH l l'
 | _,_=>False
theorem tle_len:∀ {l l':List PV},yH l l'→l.length=l'.length
 | [],[],_=>rfl
 | x::l,y::l',h=>by
  have:yH l l':=by
   cases y with
   | any=>exact h
   | _=>exact h.2
  simp[tle_len this]
 | [],_::_,h=>h.elim
 | _::_,[],h=>h.elim
theorem tle_get:∀ {l l':List PV},yH l l'→∀ i,getT l' i=.any∨getT l' i=getT l i
 | [],[],_,i=>.inr rfl
 | x::l,y::l',h,0=>by
  cases y with
  | any=>exact .inl rfl
  | _=>exact .inr h.1.symm
 | x::l,y::l',h,i+1=>by
  have:yH l l':=by
   cases y with
   | any=>exact h
   | _=>exact h.2
  exact tle_get this i
 | [],_::_,h,_=>h.elim
 | _::_,[],h,_=>h.elim
theorem aZ:∀ (l:List PV),yH l l
 | []=>trivial
 | x::l=>by
  cases x with
  | any=>exact aZ l
  | _=>exact⟨rfl,aZ l⟩
def bV (S S':aD):Prop:=∀ g x,S' g=some x→S g=some x
theorem aB (S:aD):bV S S:=fun _ _ h=>h
theorem bV.trans {A B C:aD} (h:bV A B) (k:bV B C):bV A C:=fun g x hx=>h g x (k g x hx)
theorem RelS.weak {w:World} {fr:Nat→Prop} {m:aQ} {S S':aD} (h:RelS w fr m S) (hs:bV S S'):RelS w fr m S' where
 obj:=fun g x hx=>h.obj g x (hs g x hx)
 apart:=fun b hb ⟨g,x,v,h1,h2⟩=>h.apart b hb ⟨g,x,v,hs g x h1,h2⟩
 inj:=fun g g' x x' v v' b h1 h2=>h.inj g g' x x' v v' b (hs g x h1) (hs g' x' h2)
 frz:=h.frz
 bnd:=h.bnd
theorem bZ.weak (w:World) (fr:Nat→Prop) (m:aQ) {S S':aD} (hs:bV S S'):bZ w fr m S w fr m S':=
 { bZ.refl w fr m S with
  own:=fun b ⟨g,x,v,h1,h2⟩=>.inl ⟨g,x,v,hs g x h1,h2⟩
  dom:=fun g hg=>by
   obtain⟨x,hx⟩:=Option.isSome_iff_exists.1 hg
   exact .inl (by rw[hs g x hx];rfl) }
theorem kZ.weak {a:Act} {w:World} {fr:Nat→Prop} {m:aQ} {t t':List PV} {S S':aD} {D:List DA} (h:kZ a w fr m t S D) (ht:yH t t') (hs:bV S S'):kZ a w fr m t' S' D:=
 ⟨h.rel.weak hs,h.len.trans (tle_len ht),fun i=>by
  rcases tle_get ht i with e | e
  ·rw[e];exact .any _
  ·rw[e];exact h.tmp i,h.dfr⟩
theorem T.weak {c:Code} {Q:bQ} {t t':List PV} {S S':aD} {D:List DA} (h:T P r c Q t' S' D) (ht:yH t t') (hs:bV S S'):T P r c Q t S D:=
 fun a w fr m h0=>wpIn_mono (h a w fr m (h0.weak ht hs)) fun _ _ _ h=>dF.trans (bZ.weak w fr m hs) h
theorem aY {α:Type} {c:Code} {Q:bQ} {t:List PV} {S:aD} {D:List DA} (inv:α→Prop) (tm:α→List PV) (st:α→aD) (μ:α→Nat)
  (x₀:α) (h0:inv x₀) (ht:yH t (tm x₀)) (hS:bV S (st x₀))
  (round:∀ x,inv x→T P r c (uA (fun t' S' D'=>D'=D∧∃ x',inv x'∧μ x'<μ x∧yH t' (tm x')∧bV S' (st x')) Q) (tm x) (st x) D):T P r (.loop c) Q t S D:=by
 suffices H:∀ n x,μ x=n→inv x→∀ a w fr m,kZ a w fr m (tm x) (st x) D→∀ b k cs,b.roundOf=(FR r).round →
   ∃ e a' w',dF w fr m (st x) Q e a' w'∧ArrivesIn (Machine.fenced P (FR r)) P (lone (b.atR a (.code c :: .inLoop c::k)) cs w) b k cs e a' w' by
  intro a w fr m hs b k cs hro hb hr
  obtain⟨e,a',w',hq,harr⟩:=H _ x₀ rfl h0 a w fr m (hs.weak ht hS) b k cs hro
  exact⟨e,a',w',dF.trans (bZ.weak w fr m hS) hq,.of_steps (.one (fenced_calm hb hr rfl) stepR_loop) harr⟩
 intro n
 induction n using Nat.strongRecOn with
 | _ n ih=>
  intro x hn hx a w fr m hs b k cs hro
  have hr:(FR r).room (cs.length+1+0):=fun _ h=>by simp[FR,Fence.wide] at h
  obtain⟨e,a₁,w₁,⟨y,t',S',D',fr',m',h1,h2,h3,h4⟩,harr⟩:=round x hx a w fr m hs b (.inLoop c::k) cs hro trivial hr
  cases e with
  | normal=>
   have hy:=h2.normal
   subst hy
   obtain⟨rfl,x',hx',hlt,ht',hS'⟩:=h1
   obtain⟨e₂,a₂,w₂,hq₂,harr₂⟩:=ih (μ x') (hn ▸ hlt) x' rfl hx' a₁ w₁ fr' m' (h3.weak ht' hS') b k cs hro
   exact⟨e₂,a₂,w₂,dF.trans (h4.trans (bZ.weak _ _ _ hS')) hq₂,.of_steps (StepsIn.trans harr (.one (fenced_calm (n:=0) trivial hr rfl) stepR_inLoop)) harr₂⟩
  | outgrown=>cases y <;> exact (by simpa[XR] using h2:False).elim
  | _=>
   cases y with
   | normal=>have:=h2.not_normal;simp at this
   | _=>exact⟨_,a₁,w₁,⟨_,_,_,_,_,_,h1,h2,h3,h4⟩,.pass (x:=.inLoop c) rfl (fun _ _=>.inl (by simp)) harr⟩
theorem T_region {id:Nat} {ops:Array Oper} {Q:bQ} {t:List PV} {S:aD} {D:List DA} (h:TO P r ops (List.range ops.size) Q t S D):T P r (.region id ops false) Q t S D:=
 fun a w fr m hs=>wpIn_region (h a w fr m hs)
theorem TO_nil {ops:Array Oper} {Q:bQ} {t:List PV} {S:aD} {D:List DA} (h:Q .normal t S D):TO P r ops [] Q t S D:=
 fun _ _ _ _ hs=>⟨_,_,_,_,_,_,h,trivial,hs,.refl _ _ _ _⟩
def TOp (P:Program) (r:Option Nat) (o:Oper) (K:List PV→aD→List DA→Prop) (Q:bQ) (t:List PV) (S:aD) (D:List DA):Prop:=
 ∀ a w fr m,kZ a w fr m t S D→∀ (next:Act→World→Prop) (R:Exit→Act→World→Prop),
  (∀ t' S' D' a' w' fr' m',K t' S' D'→kZ a' w' fr' m' t' S' D'→bZ w fr m S w' fr' m' S'→next a' w') →
  (∀ e a' w',dF w fr m S Q e a' w'→R e a' w')→o.uponIn (FR r) 0 P a next R ((o.semAt (FR r).round a.eval).run P w)
theorem xU {Q Q':Exit→Act→World→Prop} (h:LetsOut Q) (hq:∀ e a w,Q e a w→Q' e a w):LetsOut Q':=let ⟨a,w,h⟩:=h;⟨a,w,hq _ _ _ h⟩
theorem fP {F:Fence} {n:Nat} {o:Oper} {a:Act} {next next':Act→World→Prop} {Q Q':Exit→Act→World→Prop} {res:Result Next} (h:o.uponIn F n P a next Q res)
  (hn:∀ a w,next a w→next' a w) (hq:∀ e a w,Q e a w→Q' e a w):o.uponIn F n P a next' Q' res:=by
 unfold Oper.uponIn at h ⊢
 split at h
 ·exact hn _ _ h
 ·exact hn _ _ h
 ·exact hn _ _ h
 ·refine⟨h.1,h.2.1,fun cs hr=>?_⟩
  obtain⟨e,w',f,hR,hrest⟩:=h.2.2 cs hr
  refine⟨e,w',f,?_,hrest⟩
  cases e with
  | returned v=>exact hn _ _ hR
  | panicked c=>exact hq _ _ _ hR
  | outgrown=>exact xU hR hq
 ·exact⟨h.1,RowsIn.mono h.2 fun _ _ h=>hn _ _ h⟩
 ·refine⟨h.1,RoundIn.mono h.2 fun e w' hR=>?_⟩
  cases e with
  | returned v=>exact hn _ _ hR
  | panicked c=>exact hq _ _ _ hR
  | outgrown=>exact xU hR hq
 ·exact hq _ _ _ h
 ·exact h.elim
theorem gO {F:Fence} {n:Nat} {ops:Array Oper} {Q Q':Exit→Act→World→Prop} (hq:∀ e a w,Q e a w→Q' e a w):∀ {idx:List Nat} {a:Act} {w:World},wpOpsIn F n P ops Q idx a w→wpOpsIn F n P ops Q' idx a w
 | [],_,_,h=>hq _ _ _ h
 | i::rest,a,w,h=>by
  simp only[wpOpsIn] at h ⊢
  split
  ·rename_i ho
   rw[ho] at h
   exact gO hq h
  ·rename_i o ho
   rw[ho] at h
   dsimp only at h ⊢
   split
   ·rename_i hw
    rw[if_pos hw] at h
    exact⟨h.1,fP h.2 (fun _ _ h=>gO hq h) hq⟩
   ·rename_i hw
    rw[if_neg hw] at h
    exact⟨h.1,gO hq h.2⟩
theorem TO_cons {ops:Array Oper} {i:Nat} {rest:List Nat} {o:Oper} {Q:bQ} {t:List PV} {S:aD} {D:List DA} (ho:ops[i]?=some o) (hg:o.guard=none)
  (h:TOp P r o (TO P r ops rest Q) Q t S D):TO P r ops (i::rest) Q t S D:=by
 intro a w fr m hs
 simp only[wpOpsIn,ho,Region.wanted,hg,if_true]
 refine⟨fun _ _=>trivial,h a w fr m hs _ _ ?_ fun _ _ _ h=>h⟩
 intro t' S' D' a' w' fr' m' hk hs' hst
 have:=hk a' w' fr' m' hs'
 revert this
 exact gO fun _ _ _ h=>dF.trans hst h
end
section
inductive TK where
 | int (k:IntKind)
 | bool
 | str
 | slice (e:Nat)
 | arr (n e:Nat)
 | map (k e:Nat)
 | struct (fs:List (Nat × Nat))
 | ptr (e:Nat)
 | func
 | iface
 | other
structure TI where
 kind:TK
 size:Nat
 bytes:Nat
 zero:List PV
def TK.isAgg:TK→Bool
 | .struct _ | .arr _ _=>true
 | _=>false
def aH:List TI→Nat→TI
 | [],_=>⟨.other,0,0,[]⟩
 | x::_,0=>x
 | _::l,n+1=>aH l n
def inB (k:IntKind) (n:Int):Bool:=decide (k.min≤n) && decide (n≤k.max)
theorem inB_ok {k:IntKind} {n:Int} (h:inB k n=true):k.has n:=by simpa[inB,IntKind.has] using h
def repc:Value→PV→Bool
 | _,.any=>true
 | .int k n,.int k' n'=>decide (k=k') && decide (n=n') && inB k n
 | .bool b,.bool b'=>b == b'
 | .string s,.str s'=>decide (s.data.toList=s'.data.toList) && decide (s.size≤cap47)
 | .slice none 0 0,.nils=>true
 | .pointer none,.nilp=>true
 | .map none,.nilm=>true
 | .nilFunc,.nilf=>true
 | .nilIface,.nili=>true
 | _,_=>false
theorem repc_ok {w:World} {fr:Nat→Prop} {m:aQ} {v:Value} {p:PV} (h:repc v p=true):Rep w fr m v p:=by
 unfold repc at h
 split at h
 ·exact .any _
 ·simp only[Bool.and_eq_true,decide_eq_true_eq] at h
  obtain⟨⟨rfl,rfl⟩,h⟩:=h
  exact .int _ _ (inB_ok h)
 ·have:=eq_of_beq h;subst this;exact .bool _
 ·simp only[Bool.and_eq_true,decide_eq_true_eq] at h
  rename_i s s'
  have e:s=s':=by
   cases s with | mk d=>cases s' with | mk d'=>simpa using h.1
  subst e
  exact .str _ h.2
 ·exact .nils
 ·exact .nilp
 ·exact .nilm
 ·exact .nilf
 ·exact .nili
 ·cases h
def xN:List Value→List PV→Bool
 | [],[]=>true
 | v::vs,p::ps=>repc v p && xN vs ps
 | _,_=>false
theorem yA:∀ {vs:List Value} {ps:List PV},xN vs ps=true→vs.length=ps.length
 | [],[],_=>rfl
 | v::vs,p::ps,h=>by simp only[xN,Bool.and_eq_true] at h;simp[yA h.2]
 | [],_::_,h=>by cases h
 | _::_,[],h=>by cases h
theorem tO {w:World} {fr:Nat→Prop} {m:aQ}:∀ {vs:List Value} {ps:List PV},xN vs ps=true→∀ (i:Nat) (h1:i<vs.length) (h2:i<ps.length),Rep w fr m vs[i] ps[i]
 | v::vs,p::ps,h,0,_,_=>by simp only[xN,Bool.and_eq_true] at h;exact repc_ok h.1
 | v::vs,p::ps,h,i+1,h1,h2=>by simp only[xN,Bool.and_eq_true] at h;exact tO h.2 i (by simpa using h1) (by simpa using h2)
 | [],[],h,i,h1,_=>absurd h1 (Nat.not_lt_zero _)
 | [],_::_,h,_,_,_=>by cases h
 | _::_,[],h,_,_,_=>by cases h
def kOk:TypeDesc→TK→Bool
 | .int k,.int k'=>decide (k=k')
 | .bool,.bool=>true
 | .string,.str=>true
 | .slice e,.slice e'=>e == e'
 | .array n e,.arr n' e'=>n == n' && e == e'
 | .map k e,.map k' e'=>k == k' && e == e'
 | .struct fs,.struct gs=>fs.toList.map (fun f=>(f.offset,f.type)) == gs
 | .pointer e,.ptr e'=>e == e'
 | .func ..,.func=>true
 | .interface _,.iface=>true
 | _,_=>false
def zOk (k:TK):Option Value→List PV→Bool
 | some (.agg cs),z=>k.isAgg && xN cs.toList z
 | some v,z=>!k.isAgg && xN [v] z
 | none,_=>false
def tiB (P:Program) (t:Nat) (i:TI):Bool:=
 match i.kind with
 | .other=>i.size == 0 && i.bytes == 0
 | k=>match P.underlying t,P.info? t with
  | some d,some f=>kOk d k && f.size == i.size && f.bytes == i.bytes && i.size == i.zero.length && zOk k f.zero i.zero
  | _,_=>false
def gB (P:Program):Nat→List TI→Bool
 | _,[]=>true
 | n,i::l=>tiB P n i && gB P (n+1) l
structure TOk (P:Program) (t:Nat) (i:TI):Prop where
 ok:∃ d f,P.underlying t=some d∧P.info? t=some f∧kOk d i.kind=true∧f.size=i.size∧f.bytes=i.bytes∧i.size=i.zero.length∧zOk i.kind f.zero i.zero=true
def jI (P:Program) (G:List TI):Prop:=∀ t,(match (aH G t).kind with | .other=>(aH G t).size=0∧(aH G t).bytes=0 | _=>TOk P t (aH G t))
theorem gB_ok {P:Program} {G:List TI} (h:gB P 0 G=true):jI P G:=by
  suffices H:∀ (G:List TI) n,gB P n G=true→∀ t,(match (aH G t).kind with | .other=>(aH G t).size=0∧(aH G t).bytes=0 | _=>TOk P (n+t) (aH G t)) by
    intro t;have:=H G 0 h t;simpa using this
  intro G
  induction G with
  | nil=>intro n _ t;simp[aH]
  | cons i l ih=>
    intro n h t
    simp only[gB,Bool.and_eq_true] at h
    cases t with
    | zero=>
      simp only[aH,Nat.add_zero]
      have h1:=h.1
      cases hk:i.kind <;> simp only[tiB,hk] at h1 <;> first | (simpa using h1) |
        (cases hd:P.underlying n with
         | none=>simp[hd] at h1
         | some d=>
          cases hf:P.info? n with
          | none=>simp[hd,hf] at h1
          | some f=>
            simp only[hd,hf,Bool.and_eq_true,beq_iff_eq] at h1
            exact⟨d,f,hd,hf,by rw[hk];exact h1.1.1.1.1,h1.1.1.1.2,h1.1.1.2,h1.1.2,by rw[hk];exact h1.2⟩)
    | succ t=>
      have:=ih (n+1) h.2 t
      simp only[aH]
      rw[show n+(t+1)=n+1+t by omega]
      exact this
section types
variable {P:Program} {G:List TI} (hG:jI P G) {t:Nat}
include hG
theorem kG {k:TK} (hk:(aH G t).kind=k) (hn:k≠.other):TOk P t (aH G t):=by
 have:=hG t
 rw[hk] at this
 cases k <;> first | exact this | exact absurd rfl hn
theorem bY (h:(aH G t).size≠0):(aH G t).kind≠.other:=by
 intro e
 have:=hG t
 rw[e] at this
 exact h this.1
theorem cV {e:Nat} (hk:(aH G t).kind=.slice e):P.underlying t=some (.slice e):=by
 obtain⟨d,f,h1,_,h3,_⟩:=(kG hG hk (by simp)).ok
 rw[hk] at h3
 cases d <;> simp only[kOk,beq_iff_eq] at h3 <;> first | (subst h3;exact h1) | cases h3
theorem oR {fs:List (Nat × Nat)} (hk:(aH G t).kind=.struct fs):∃ gs,P.underlying t=some (.struct gs)∧gs.toList.map (fun f=>(f.offset,f.type))=fs:=by
 obtain⟨d,f,h1,_,h3,_⟩:=(kG hG hk (by simp)).ok
 rw[hk] at h3
 cases d <;> simp only[kOk,beq_iff_eq] at h3 <;> first | exact⟨_,h1,h3⟩ | cases h3
theorem und_arr {n e:Nat} (hk:(aH G t).kind=.arr n e):P.underlying t=some (.array n e):=by
 obtain⟨d,f,h1,_,h3,_⟩:=(kG hG hk (by simp)).ok
 rw[hk] at h3
 cases d <;> simp only[kOk,Bool.and_eq_true,beq_iff_eq] at h3 <;> first | (obtain⟨rfl,rfl⟩:=h3;exact h1) | cases h3
theorem und_map {k e:Nat} (hk:(aH G t).kind=.map k e):P.underlying t=some (.map k e):=by
 obtain⟨d,f,h1,_,h3,_⟩:=(kG hG hk (by simp)).ok
 rw[hk] at h3
 cases d <;> simp only[kOk,Bool.and_eq_true,beq_iff_eq] at h3 <;> first | (obtain⟨rfl,rfl⟩:=h3;exact h1) | cases h3
theorem uK (hk:(aH G t).kind=.str):P.underlying t=some .string:=by
 obtain⟨d,f,h1,_,h3,_⟩:=(kG hG hk (by simp)).ok
 rw[hk] at h3
 cases d <;> simp only[kOk] at h3 <;> first | exact h1 | cases h3
theorem wQ {k:IntKind} (hk:(aH G t).kind=.int k):P.underlying t=some (.int k):=by
 obtain⟨d,f,h1,_,h3,_⟩:=(kG hG hk (by simp)).ok
 rw[hk] at h3
 cases d <;> simp only[kOk,decide_eq_true_eq] at h3 <;> first | (subst h3;exact h1) | cases h3
theorem uT (hn:(aH G t).kind≠.other):∃ f,P.info? t=some f∧f.size=(aH G t).size∧f.bytes=(aH G t).bytes:=by
 obtain⟨d,f,_,h2,_,h4,h5,_⟩:=(kG hG rfl hn).ok
 exact⟨f,h2,h4,h5⟩
theorem bJ (hn:(aH G t).kind≠.other) (w:World):(sizeOf t).run P w=.ok (aH G t).size w:=by
 obtain⟨f,h1,h2,_⟩:=uT hG hn
 simp[sizeOf,typeInfo,h1,h2]
theorem rO (hn:(aH G t).kind≠.other) (w:World):(isAgg t).run P w=.ok (aH G t).kind.isAgg w:=by
 obtain⟨d,f,h1,h2,h3,_⟩:=(kG hG rfl hn).ok
 revert h3
 generalize (aH G t).kind=k
 intro h3
 simp only[isAgg,underlying,Sem.run_bind,run_program,Result.andThen_ok,h1,Sem.run_pure]
 cases d <;> cases k <;> simp_all [kOk,TK.isAgg]
theorem qQ (hn:(aH G t).kind≠.other) (w:World):∃ z,(zeroValue t).run P w=.ok z w∧z.cells.toList.length=(aH G t).zero.length∧(∀ fr m,Rep w fr m z (if (aH G t).kind.isAgg then .agg (aH G t).zero else getT (aH G t).zero 0)) ∧
  ∀ fr m (i:Nat) (h1:i<z.cells.toList.length) (h2:i<(aH G t).zero.length),Rep w fr m z.cells.toList[i] (aH G t).zero[i]:=by
 obtain⟨d,f,h1,h2,h3,h4,h5,h6,h7⟩:=(kG hG rfl hn).ok
 revert h7
 generalize (aH G t).kind=k
 generalize (aH G t).zero=z
 intro h7
 cases hz:f.zero with
 | none=>rw[hz] at h7;simp[zOk] at h7
 | some v=>
  have hrun:(zeroValue t).run P w=.ok v w:=by simp[zeroValue,typeInfo,h2,hz]
  rw[hz] at h7
  by_cases hv:∃ cs,v=.agg cs
  ·obtain⟨cs,rfl⟩:=hv
   simp only[zOk,Bool.and_eq_true] at h7
   have hl:=yA h7.2
   refine⟨_,hrun,by simpa[Value.cells] using hl,fun fr m=>?_,fun fr m i h1 h2=>tO h7.2 i (by simpa[Value.cells] using h1) h2⟩
   rw[if_pos h7.1]
   exact .agg _ _ (by simpa using hl) fun i h1 h2=>tO h7.2 i (by simpa using h1) h2
  ·have h8:(!k.isAgg && xN [v] z)=true:=by
    cases v <;> first | exact h7 | exact absurd ⟨_,rfl⟩ hv
   have hc:v.cells=#[v]:=by
    cases v <;> first | rfl | exact absurd ⟨_,rfl⟩ hv
   simp only[Bool.and_eq_true,Bool.not_eq_true'] at h8
   have hl:=yA h8.2
   refine⟨_,hrun,by simpa[hc] using hl,fun fr m=>?_,fun fr m i h1 h2=>?_⟩
   ·rw[if_neg (by simp[h8.1])]
    cases z with
    | nil=>simp at hl
    | cons p l=>exact tO h8.2 0 (by simp) (by simp)
   ·have:=tO (w:=w) (fr:=fr) (m:=m) h8.2 i (by simpa[hc] using h1) h2
    simpa[hc] using this
end types
end
section
def getK:List PV→Nat→(PV→Prop)→Prop
 | [],_,k=>k .any
 | x::_,0,k=>k x
 | _::l,n+1,k=>getK l n k
theorem mU:∀ (t:List PV) (n:Nat) (k:PV→Prop),getK t n k=k (getT t n)
 | [],_,_=>rfl
 | _::_,0,_=>rfl
 | _::l,n+1,k=>mU l n k
def zS:List PV→Nat→PV→(List PV→Prop)→Prop
 | [],_,_,k=>k []
 | _::l,0,v,k=>k (v::l)
 | x::l,n+1,v,k=>zS l n v fun l'=>k (x::l')
theorem lG:∀ (t:List PV) (n:Nat) (v:PV) (k:List PV→Prop),zS t n v k=k (t.set n v)
 | [],_,_,_=>rfl
 | _::_,0,_,_=>rfl
 | x::l,n+1,v,k=>by simp only[zS,lG l n v,List.set]
def gX (t:List PV):Option Nat→PV→(List PV→Prop)→Prop
 | some d,v,k=>zS t d v k
 | none,_,k=>k t
theorem cD (t:List PV) (d:Option Nat) (v:PV) (k:List PV→Prop):gX t d v k=k (jH t d v):=by
 cases d <;> simp[gX,jH,lG]
def allK:List PV→(List PV→Prop)→Prop
 | [],k=>k []
 | x::l,k=>allK l fun l'=>k (x::l')
theorem allK_eq:∀ (l:List PV) (k:List PV→Prop),allK l k=k l
 | [],_=>rfl
 | x::l,k=>by simp only[allK,allK_eq l]
def kL:Value→(PV→Prop)→Prop
 | .int k n,K=>(match inB k n with | true=>K (.int k n) | false=>False)
 | .bool b,K=>K (.bool b)
 | .string s,K=>(match Nat.ble s.size cap47 with | true=>K (.str s) | false=>False)
 | .slice none 0 0,K=>K .nils
 | .pointer none,K=>K .nilp
 | .map none,K=>K .nilm
 | .nilFunc,K=>K .nilf
 | .nilIface,K=>K .nili
 | _,K=>K .any
def pQ:List Value→(List PV→Prop)→Prop
 | [],k=>k []
 | v::l,k=>kL v fun p=>pQ l fun ps=>k (p::ps)
def sO:Value→(PV→Prop)→Prop
 | .agg cs,K=>pQ cs.toList fun ps=>K (.agg ps)
 | v,K=>kL v K
theorem const1_ok {w:World} {fr:Nat→Prop} {m:aQ} {v:Value} {k:PV→Prop} (hk:kL v k):∃ p,Rep w fr m v p∧k p:=by
 unfold kL at hk
 split at hk
 ·split at hk
  ·exact⟨_,.int _ _ (inB_ok (by assumption)),hk⟩
  ·exact hk.elim
 ·exact⟨_,.bool _,hk⟩
 ·split at hk
  ·exact⟨_,.str _ (Nat.le_of_ble_eq_true (by assumption)),hk⟩
  ·exact hk.elim
 ·exact⟨_,.nils,hk⟩
 ·exact⟨_,.nilp,hk⟩
 ·exact⟨_,.nilm,hk⟩
 ·exact⟨_,.nilf,hk⟩
 ·exact⟨_,.nili,hk⟩
 ·exact⟨_,.any _,hk⟩
theorem consts_ok {w:World} {fr:Nat→Prop} {m:aQ}:∀ {l:List Value} {k:List PV→Prop},pQ l k→∃ ps:List PV,l.length=ps.length∧(∀ (i:Nat) (h1:i<l.length) (h2:i<ps.length),Rep w fr m l[i] ps[i])∧k ps
 | [],k,h=>⟨[],rfl,fun i h1=>absurd h1 (by simp),h⟩
 | v::l,k,h=>by
  obtain⟨p,hp,h⟩:=const1_ok (w:=w) (fr:=fr) (m:=m) h
  obtain⟨ps,hl,hr,h⟩:=consts_ok (l:=l) h
  refine⟨p::ps,by simp[hl],fun i h1 h2=>?_,h⟩
  cases i with
  | zero=>exact hp
  | succ i=>exact hr i (by simpa using h1) (by simpa using h2)
theorem const_ok {w:World} {fr:Nat→Prop} {m:aQ} {v:Value} {k:PV→Prop} (hk:sO v k):∃ p,Rep w fr m v p∧k p:=by
 cases v with
 | agg cs=>
  obtain⟨ps,hl,hr,h⟩:=consts_ok (w:=w) (fr:=fr) (m:=m) (show pQ cs.toList _ from hk)
  exact⟨.agg ps,.agg cs ps (by simpa using hl) (fun i h1 h2=>by have:=hr i (by simpa using h1) h2;rw[Array.getElem_toList] at this;exact this),h⟩
 | _=>exact const1_ok hk
def iP (t:List PV):Operand→(PV→Prop)→Prop
 | .tmp n,k=>getK t n k
 | .const v,k=>sO v k
 | .func f,k=>k (.fn (.func f) [] [])
 | .global _,k=>k .any
theorem bP {a:Act} {w:World} {fr:Nat→Prop} {m:aQ} {t:List PV} {S:aD} {D:List DA} (h:kZ a w fr m t S D) {x:Operand} {k:PV→Prop} (hk:iP t x k):∃ p,Rep w fr m (a.eval x) p∧k p:=by
 cases x with
 | tmp n=>simp only[iP,mU] at hk;exact⟨_,h.tmp n,hk⟩
 | const v=>
  simp only[iP] at hk
  simp only[Act.eval]
  exact const_ok hk
 | func f=>exact⟨_,.fn _ _ _ [] [] rfl rfl (fun i h1=>absurd h1 (by simp)) (fun i h1=>absurd h1 (by simp)),hk⟩
 | global g=>exact⟨_,.any _,hk⟩
def vB (t:List PV):List Operand→(List PV→Prop)→Prop
 | [],k=>k []
 | x::l,k=>iP t x fun v=>vB t l fun vs=>k (v::vs)
def sX:List PV→List PV→(List PV→Prop)→Prop
 | [],b,k=>k b
 | x::a,b,k=>sX a b fun l=>k (x::l)
theorem iS:∀ (a b:List PV) (k:List PV→Prop),sX a b k=k (a++b)
 | [],_,_=>rfl
 | x::a,b,k=>by simp only[sX,iS a b,List.cons_append]
theorem uC {a:Act} {w:World} {fr:Nat→Prop} {m:aQ} {t:List PV} {S:aD} {D:List DA} (h:kZ a w fr m t S D):∀ {l:List Operand} {k:List PV→Prop},vB t l k →
  ∃ ps,ps.length=l.length∧(∀ (i:Nat) (h1:i<l.length) (h2:i<ps.length),Rep w fr m (a.eval l[i]) ps[i])∧k ps
 | [],k,hk=>⟨[],rfl,fun i h1=>absurd h1 (by simp),hk⟩
 | x::l,k,hk=>by
  obtain⟨p,hp,hk⟩:=bP h hk
  obtain⟨ps,hl,hr,hk⟩:=uC h hk
  refine⟨p::ps,by simp[hl],fun i h1 h2=>?_,hk⟩
  cases i with
  | zero=>exact hp
  | succ i=>exact hr i (by simpa using h1) (by simpa using h2)
theorem yR {a:Act} {w:World} {fr:Nat→Prop} {m:aQ} {t:List PV} {S:aD} {D:List DA} (h:kZ a w fr m t S D) {l:Array Operand} {k:List PV→Prop} (hk:vB t l.toList k) :
  ∃ ps,gD w fr m (l.map a.eval) ps∧k ps:=by
 obtain⟨ps,h1,h2,h3⟩:=uC h hk
 refine⟨ps,⟨by simpa using h1.symm,fun i i1 i2=>?_⟩,h3⟩
 have:=h2 i (by simpa using i1) i2
 simpa using this
@[irreducible] def idxW (xs:List (List PV)) (i:Int) (k:List PV→Prop):Prop:=0≤i∧∃ c,xs[i.toNat]?=some c∧k c
@[irreducible] def wY (k:IntKind) (n:Int):Prop:=k.has n
def getC:List PV→Nat→(PV→Prop)→Prop
 | [],_,_=>False
 | x::_,0,k=>k x
 | _::l,n+1,k=>getC l n k
theorem getC_ok:∀ {l:List PV} {n:Nat} {k:PV→Prop},getC l n k→∃ h:n<l.length,k l[n]
 | x::_,0,_,h=>⟨by simp,h⟩
 | _::l,n+1,k,h=>let ⟨h1,h2⟩:=getC_ok (l:=l) h;⟨by simpa using h1,by simpa using h2⟩
 | [],_,_,h=>h.elim
def binI (op:BinOp) (kd:IntKind) (x y:Int) (k:PV→Prop):Prop:=
 match op with
 | .add=>wY kd (x+y)∧k (.int kd (x+y))
 | .sub=>wY kd (x - y)∧k (.int kd (x - y))
 | .mul=>wY kd (x*y)∧k (.int kd (x*y))
 | .quo=>y≠0∧wY kd (x.tdiv y)∧k (.int kd (x.tdiv y))
 | .rem=>y≠0∧wY kd (x.tmod y)∧k (.int kd (x.tmod y))
 | .eql=>k (.bool (decide (x=y)))
 | .neq=>k (.bool (!decide (x=y)))
 | .lss=>k (.bool (decide (x<y)))
 | .leq=>k (.bool (decide (x≤y)))
 | .gtr=>k (.bool (decide (y<x)))
 | .geq=>k (.bool (decide (y≤x)))
 | _=>False
def binS (op:BinOp) (x y:ByteArray) (k:PV→Prop):Prop:=
 match op with
 | .add=>x.size+y.size≤cap47∧k (.str (x++y))
 | .eql=>k (.bool (decide (x=y)))
 | .neq=>k (.bool (!decide (x=y)))
 | .lss=>k (.bool (Op.bytesLess x.data.toList y.data.toList))
 | .gtr=>k (.bool (Op.bytesLess y.data.toList x.data.toList))
 | _=>False
def nilB (op:BinOp) (b:Bool) (k:PV→Prop):Prop:=
 match op with
 | .eql=>k (.bool b)
 | .neq=>k (.bool (!b))
 | _=>False
def binW (G:List TI) (op:BinOp) (xt:Nat) (a b:PV) (k:PV→Prop):Prop:=
 match a,b with
 | .int kd x,.int kd' y=>if kd=kd' then (match op with | .shl | .shr=>False | _=>binI op kd x y k) else False
 | .str x,.str y=>binS op x y k
 | .bool x,.bool y=>match (aH G xt).kind with | .bool=>nilB op (x == y) k | _=>False
 | .list _ xs,.nils=>match (aH G xt).kind with | .slice _=>(∀ b:Bool,(b=true→xs=[])→nilB op b k) | _=>False
 | .nils,.nils=>match (aH G xt).kind with | .slice _=>nilB op true k | _=>False
 | .nilp,.nilp=>match (aH G xt).kind with | .ptr _=>nilB op true k | _=>False
 | .ptr _ _ _ _ _,.nilp=>match (aH G xt).kind with | .ptr _=>False | _=>False
 | .fptr _ _,.nilp=>match (aH G xt).kind with | .ptr _=>nilB op false k | _=>False
 | .nili,.nili=>False
 | .iface _ _,.nili=>match (aH G xt).kind with | .iface=>nilB op false k | _=>False
 | _,_=>False
theorem beqBA {x y:ByteArray}:(x.toList == y.toList)=decide (x=y):=by
 rw[Bool.eq_iff_iff]
 simp only[beq_iff_eq,decide_eq_true_eq,ByteArray.toList_eq]
 constructor
 ·intro h
  cases x with | mk d=>cases y with | mk d'=>
  congr 1
  have:=congrArg List.toArray h
  simpa using this
 ·rintro rfl;rfl
theorem beqBA' {x y:ByteArray}:(x == y)=decide (x=y):=by
 rw[Bool.eq_iff_iff]
 simp only[decide_eq_true_eq]
 cases x with | mk d=>cases y with | mk d'=>
 show (d == d')=true↔_
 rw[beq_iff_eq]
 exact⟨fun h=>by rw[h],fun h=>by cases h;rfl⟩
theorem qW {k:IntKind} {n:Int} (h:k.has n):k.wrap n=n:=by
 unfold IntKind.has at h
 cases k <;> simp only[IntKind.wrap,IntKind.min,IntKind.max,IntKind.bits,IntKind.signed] at * <;> simp at * <;> (try split) <;> omega
theorem kC {k:IntKind} {n:Int} (h:wY k n):k.has n:=by unfold wY at h;exact h
section
variable {P:Program} {G:List TI} (hG:jI P G) {w:World} {fr:Nat→Prop} {m:aQ}
theorem binI_ok {op:BinOp} {kd:IntKind} {x y:Int} {k:PV→Prop} (xt:Nat) (xo yo:Operand) (h:binI op kd x y k) :
  ∃ v p,(do eqGuard op xt xo yo (.int kd x) (.int kd y);binOp op xt (.int kd x) (.int kd y):Sem Value).run P w=.ok v w∧Rep w fr m v p∧k p:=by
 cases op <;> simp only[binI] at h <;> first | exact h.elim | skip
 case add=>exact⟨_,_,by simp[eqGuard,binOp,Op.intArith,qW (kC h.1)],.int _ _ (kC h.1),h.2⟩
 case sub=>exact⟨_,_,by simp[eqGuard,binOp,Op.intArith,qW (kC h.1)],.int _ _ (kC h.1),h.2⟩
 case mul=>exact⟨_,_,by simp[eqGuard,binOp,Op.intArith,qW (kC h.1)],.int _ _ (kC h.1),h.2⟩
 case quo=>exact⟨_,_,by simp[eqGuard,binOp,Op.intDiv,h.1,qW (kC h.2.1)],.int _ _ (kC h.2.1),h.2.2⟩
 case rem=>exact⟨_,_,by simp[eqGuard,binOp,Op.intDiv,h.1],.int _ _ (kC h.2.1),h.2.2⟩
 case eql=>exact⟨.bool (decide (x=y)),_,by simp[eqGuard,binOp,Op.intCmp];rw[Bool.eq_iff_iff];simp,.bool _,h⟩
 case neq=>exact⟨.bool (!decide (x=y)),_,by simp[eqGuard,binOp,Op.intCmp,bne];rw[Bool.eq_iff_iff];simp,.bool _,h⟩
 case lss=>exact⟨_,_,by simp[eqGuard,binOp,Op.intCmp],.bool _,h⟩
 case leq=>exact⟨_,_,by simp[eqGuard,binOp,Op.intCmp],.bool _,h⟩
 case gtr=>exact⟨_,_,by simp[eqGuard,binOp,Op.intCmp],.bool _,h⟩
 case geq=>exact⟨_,_,by simp[eqGuard,binOp,Op.intCmp],.bool _,h⟩
theorem binS_ok {op:BinOp} {x y:ByteArray} {k:PV→Prop} (xt:Nat) (xo yo:Operand) (h:binS op x y k) :
  ∃ v p,(do eqGuard op xt xo yo (.string x) (.string y);binOp op xt (.string x) (.string y):Sem Value).run P w=.ok v w∧Rep w fr m v p∧k p:=by
 cases op <;> simp only[binS] at h <;> first | exact h.elim | skip
 case add=>
  have h1:=h.1
  have:¬ ((x.size+y.size:Nat):Int) > 9223372036854775807:=by unfold cap47 at h1;omega
  refine⟨_,_,?_,.str _ ?_,h.2⟩
  ·have h2:¬ (9223372036854775807:Int)<(x.size:Int)+(y.size:Int):=by unfold cap47 at h1;omega
   simp[eqGuard,binOp,Op.stringOp,IntKind.max_i64,h2]
  ·simpa using h1
 case eql=>exact⟨_,_,by simp[eqGuard,binOp,Op.stringOp,beqBA],.bool _,h⟩
 case neq=>exact⟨_,_,by simp[eqGuard,binOp,Op.stringOp,beqBA],.bool _,h⟩
 case lss=>exact⟨_,_,by simp[eqGuard,binOp,Op.stringOp,ByteArray.toList_eq],.bool _,h⟩
 case gtr=>
  have key:∀ a b:List UInt8,(!(Op.bytesLess a b || a == b))=Op.bytesLess b a:=by
   intro a
   induction a with
   | nil=>intro b;cases b <;> simp[Op.bytesLess]
   | cons x a ih=>
    intro b
    cases b with
    | nil=>simp[Op.bytesLess]
    | cons y b=>
     have:=ih b
     simp only[Op.bytesLess]
     rw[← this]
     by_cases h1:x<y
     ·have h2:¬ y<x:=by
       simp only[UInt8.lt_iff_toNat_lt] at *;omega
      have h3:x≠y:=by rintro rfl;exact absurd h1 h2
      simp[h1,h2,h3,Ne.symm h3]
     ·by_cases h2:y<x
      ·have h3:x≠y:=by rintro rfl;exact absurd h2 h1
       simp[h1,h2,h3,Ne.symm h3]
      ·have h3:x=y:=by
        apply UInt8.toNat_inj.1
        simp only[UInt8.lt_iff_toNat_lt] at *;omega
       subst h3
       simp[h1]
  refine⟨.bool (!(Op.bytesLess x.toList y.toList || x.toList == y.toList)),_,by simp only[eqGuard,binOp,Op.stringOp];simp,.bool _,?_⟩
  rw[ByteArray.toList_eq,ByteArray.toList_eq,key]
  exact h
theorem qI:∃ d,∀ t x y,Op.equal t x y=Op.equalIn (d+1) t x y:=⟨9999,fun _ _ _=>rfl⟩
theorem run_eq_bool {t:Nat} (hu:P.underlying t=some .bool) (x y:Bool):(Op.equal t (.bool x) (.bool y)).run P w=.ok (x == y) w:=by
 obtain⟨d,hd⟩:=qI
 simp[hd,Op.equalIn,underlying,hu]
theorem oG {t e:Nat} (hu:P.underlying t=some (.slice e)) (b:Option Addr) (n c:Nat):(Op.equal t (.slice b n c) (.slice none 0 0)).run P w=.ok b.isNone w:=by
 obtain⟨d,hd⟩:=qI
 cases b <;> simp[hd,Op.equalIn,underlying,hu]
theorem vO {t e:Nat} (hu:P.underlying t=some (.pointer e)) (b:Option Addr):(Op.equal t (.pointer b) (.pointer none)).run P w=.ok b.isNone w:=by
 obtain⟨d,hd⟩:=qI
 cases b <;> simp[hd,Op.equalIn,underlying,hu]
theorem run_eq_iface {t:Nat} {ms:Array (String × Nat)} (hu:P.underlying t=some (.interface ms)) (u:Nat) (v:Value):(Op.equal t (.iface u v) .nilIface).run P w=.ok false w:=by
 obtain⟨d,hd⟩:=qI
 simp[hd,Op.equalIn,underlying,hu]
theorem mR {op:BinOp} {xt:Nat} {va vb:Value} {b:Bool} {k:PV→Prop} (xo yo:Operand) (he:(Op.equal xt va vb).run P w=.ok b w)
  (hg:eqGuard op xt xo yo va vb=pure ()) (h1:binOp .eql xt va vb=(do pure (.bool (← Op.equal xt va vb)))) (h2:binOp .neq xt va vb=(do pure (.bool (!(← Op.equal xt va vb))))) (h:nilB op b k) :
  ∃ v p,(do eqGuard op xt xo yo va vb;binOp op xt va vb:Sem Value).run P w=.ok v w∧Rep w fr m v p∧k p:=by
 cases op <;> simp only[nilB] at h <;> first | exact h.elim | skip
 ·exact⟨_,_,by rw[hg,h1];simp[he],.bool _,h⟩
 ·exact⟨_,_,by rw[hg,h2];simp[he],.bool _,h⟩
include hG in
theorem binW_ok {op:BinOp} {xt:Nat} {va vb:Value} {a b:PV} {k:PV→Prop} (xo yo:Operand) (ha:Rep w fr m va a) (hb:Rep w fr m vb b) (h:binW G op xt a b k) :
  ∃ v p,(do eqGuard op xt xo yo va vb;binOp op xt va vb:Sem Value).run P w=.ok v w∧Rep w fr m v p∧k p:=by
 unfold binW at h
 split at h
 ·cases ha;cases hb
  rename_i kd x hx kd' y hy
  split at h
  ·rename_i e;subst e
   split at h
   ·exact h.elim
   ·exact h.elim
   ·exact binI_ok xt xo yo h
  ·exact h.elim
 ·cases ha;cases hb;exact binS_ok xt xo yo h
 ·cases ha;cases hb
  split at h
  ·rename_i hk
   obtain⟨d,f,h1,_,h3,_⟩:=(kG hG hk (by simp)).ok
   rw[hk] at h3
   have hu:P.underlying xt=some .bool:=by cases d <;> simp_all [kOk]
   exact mR xo yo (run_eq_bool hu _ _) (by cases op <;> rfl) rfl rfl h
  ·exact h.elim
 ·cases hb
  split at h
  ·rename_i hk
   have hu:=cV hG hk
   cases ha with
   | list0 base cap e=>exact mR xo yo (oG hu base 0 cap) (by cases op <;> rfl) rfl rfl (h _ (fun _=>rfl))
   | list b o cap e sz xs vals=>exact mR xo yo (oG hu (some ⟨b,o,none⟩) _ cap) (by cases op <;> rfl) rfl rfl (h false (fun e=>by cases e))
  ·exact h.elim
 ·cases ha;cases hb
  split at h
  ·rename_i hk
   exact mR xo yo (oG (cV hG hk) none 0 0) (by cases op <;> rfl) rfl rfl h
  ·exact h.elim
 ·cases ha;cases hb
  split at h
  ·rename_i e hk
   obtain⟨d,f,h1,_,h3,_⟩:=(kG hG hk (by simp)).ok
   rw[hk] at h3
   have hu:P.underlying xt=some (.pointer e):=by cases d <;> simp_all [kOk]
   exact mR xo yo (vO hu none) (by cases op <;> rfl) rfl rfl h
  ·exact h.elim
 ·cases hb
  split at h
  ·rename_i e hk
   obtain⟨d,f,h1,_,h3,_⟩:=(kG hG hk (by simp)).ok
   rw[hk] at h3
   have hu:P.underlying xt=some (.pointer e):=by cases d <;> simp_all [kOk]
   exact h.elim
  ·exact h.elim
 ·cases ha;cases hb
  split at h
  ·rename_i e hk
   obtain⟨d,f,h1,_,h3,_⟩:=(kG hG hk (by simp)).ok
   rw[hk] at h3
   have hu:P.underlying xt=some (.pointer e):=by cases d <;> simp_all [kOk]
   exact mR xo yo (vO hu (some _)) (by cases op <;> rfl) rfl rfl h
  ·exact h.elim
 ·exact h.elim
 ·cases ha;cases hb
  split at h
  ·rename_i hk
   obtain⟨d,f,h1,_,h3,_⟩:=(kG hG hk (by simp)).ok
   rw[hk] at h3
   have hu:∃ ms,P.underlying xt=some (.interface ms):=by cases d <;> simp_all [kOk]
   obtain⟨ms,hu⟩:=hu
   exact mR xo yo (run_eq_iface hu _ _) (by cases op <;> rfl) rfl rfl h
  ·exact h.elim
 ·exact h.elim
end
end
def xQ (G:List TI) (ft:Nat) (cs:List PV) (off:Nat) (k:PV→Prop):Prop:=
 match (aH G ft).kind with
 | .other=>False
 | .struct _ | .arr _ _=>off+(aH G ft).size≤cs.length∧allK ((cs.drop off).take (aH G ft).size) fun c=>k (.agg c)
 | _=>getC cs off k
@[irreducible] def dK (S:aD) (g ver:Nat):Prop:=∃ x,S g=some x∧x.ver=ver
@[irreducible] def ldW (S:aD) (g ver i sz:Nat) (k:List PV→Prop):Prop:=∃ e xs c,S g=some (.row ver sz e xs)∧xs[i]?=some c∧k c
@[irreducible] def lkW (S:aD) (g:Nat) (key:MK) (k:Option PV→Prop):Prop:=∃ f,S g=some (.map key.isS f)∧k (f key)
@[irreducible] def optW (o:Option PV) (ks:PV→Prop) (kn:Prop):Prop:=(∀ p,o=some p→ks p)∧(o=none→kn)
def keyW:PV→(MK→Prop)→Prop
 | .str s,k=>k (.s s)
 | .int .i64 n,k=>k (.i n)
 | _,_=>False
def zO (G:List TI) (t:Nat):MK→Prop
 | .s _=>(aH G t).kind=.str
 | .i _=>(aH G t).kind=.int .i64
def sK (G:List TI) (t:Nat) (k:PV→Prop):Prop:=
 match (aH G t).kind with
 | .other=>False
 | .struct _ | .arr _ _=>k (.agg (aH G t).zero)
 | _=>getK (aH G t).zero 0 k
def optEvK (t:List PV):Option Operand→(Option Int→Prop)→Prop
 | none,k=>k none
 | some x,k=>iP t x fun v=>match v with | .int _ n=>k (some n) | _=>False
@[irreducible] def bdW (lo hi:Option Int) (len:Nat) (k:Nat→Nat→Prop):Prop:=
 ∃ l h:Nat,(lo.getD 0=l)∧(hi.getD len=h)∧l≤h∧h≤len∧k l h
@[irreducible] def zT (lo hi:Option Int) (xs:List (List PV)) (k:List (List PV)→Prop):Prop:=bdW lo hi xs.length fun l h=>k ((xs.take h).drop l)
def lE:List PV→Nat→List PV→(List PV→Prop)→Prop
 | cells,_,[],k=>k cells
 | cells,off,c::cs,k=>zS cells off c fun cells'=>lE cells' (off+1) cs k
def lH (S:aD):PV→Prop
 | .any | .agg _ | .tup _=>False
 | .row g ver _ _ _=>dK S g ver
 | .ptr g ver _ _ _=>dK S g ver
 | .map g=>dK S g 0
 | .yld g=>dK S g 0
 | _=>True
def fillW (S:aD) (place:Nat→Option (Nat × Nat)):List (Nat × PV)→List PV→(List PV→Prop)→Prop
 | [],cells,k=>k cells
 | (i,v)::rest,cells,k=>match place i with
  | some (off,size)=>(match v with
   | .agg c=>c.length=size∧off+size≤cells.length∧lE cells off c fun cells'=>fillW S place rest cells' k
   | v=>lH S v∧1=size∧off+size≤cells.length∧lE cells off [v] fun cells'=>fillW S place rest cells' k)
  | none=>False
def zipL:List (Nat × Operand)→List PV→List (Nat × PV)
 | (i,_)::l,v::vs=>(i,v)::zipL l vs
 | _,_=>[]
def lenW (G:List TI) (S:aD) (ty:Nat) (v:PV) (k:PV→Prop):Prop:=
 match v with
 | .list e xs=>match (aH G ty).kind with | .slice _=>0<e∧(xs.length*e≤cap47→k (.int .i64 xs.length)) | _=>False
 | .nils=>match (aH G ty).kind with | .slice _=>k (.int .i64 0) | _=>False
 | .row g ver off len sz=>match (aH G ty).kind with | .slice _=>dK S g ver∧len≤4611686018427387904∧k (.int .i64 len) | _=>False
 | .str s=>match (aH G ty).kind with | .str=>s.size≤cap47→k (.int .i64 s.size) | _=>False
 | _=>False
def nG (G:List TI) (op:Op) (t:List PV) (S:aD) (k:PV→Prop):Prop:=
 match op with
 | .move x=>iP t x k
 | .assign x=>iP t x k
 | .pick c a b=>iP t c fun c=>match c with | .bool g=>(g=true→iP t a k)∧(g=false→iP t b k) | _=>False
 | .nilCheck x=>iP t x fun v=>match v with
  | .fptr cs j=>k (.fptr cs j)
  | .ptr g ver i j sz=>dK S g ver∧k (.ptr g ver i j sz)
  | .fn (.func f) a c=>k (.fn (.func f) a c)
  | _=>False
 | .binOp op xt x y _=>iP t x fun a=>iP t y fun b=>match a,b with
  | .ptr g ver _ _ _,.nilp=>match (aH G xt).kind with | .ptr _=>dK S g ver∧nilB op false k | _=>False
  | .row g ver off len sz,.nils=>match (aH G xt).kind with | .slice _=>dK S g ver∧0<len∧nilB op false k | _=>False
  | .nili,.nili=>(match y with | .const _=>(match (aH G xt).kind with | .iface=>nilB op true k | _=>False) | _=>False)
  | a,b=>binW G op xt a b k
 | .unOp op _ x=>iP t x fun v=>match op,v with
  | .not,.bool b=>k (.bool (!b))
  | .neg,.int kd n=>wY kd (0 - n)∧k (.int kd (0 - n))
  | _,_=>False
 | .makeInterface xt x=>match (aH G xt).kind with | .iface=>False | .other=>False | _=>iP t x fun v=>k (.iface xt v)
 | .makeFunc fn first cap=>vB t first.toList fun a=>vB t cap.toList fun c=>k (.fn fn a c)
 | .fieldAddr s x f=>match (aH G s).kind with
  | .struct fs=>match fs[f]? with
   | some (off,ft)=>(aH G ft).size≠0∧iP t x fun v=>match v with
    | .fptr cs j=>k (.fptr cs (j+off))
    | .ptr g ver i j sz=>dK S g ver∧k (.ptr g ver i (j+off) sz)
    | _=>False
   | none=>False
  | _=>False
 | .field s x f=>match (aH G s).kind with
  | .struct fs=>match fs[f]? with
   | some (off,ft)=>iP t x fun v=>match v with | .agg cs=>xQ G ft cs off k | _=>False
   | none=>False
  | _=>False
 | .indexAddr ty x i=>iP t x fun v=>iP t i fun i=>match v,i with
  | .list _ xs,.int _ n=>(match (aH G ty).kind with | .slice e=>idxW xs n fun c=>c.length=(aH G e).size∧(aH G e).size≠0∧k (.fptr c 0) | _=>False)
  | .row g ver off len sz,.int _ n=>(match (aH G ty).kind with | .slice e=>dK S g ver∧sz=(aH G e).size∧(aH G e).size≠0∧(∃ j:Nat,n=j∧j<len∧k (.ptr g ver (off+j) 0 sz)) | _=>False)
  | .ptr g ver i j sz,.int _ n=>(match (aH G ty).kind with | .arr ln e=>dK S g ver∧0≤n∧n<ln∧(aH G e).size≠0∧k (.ptr g ver i (j+n.toNat*(aH G e).size) sz) | _=>False)
  | _,_=>False
 | .index ty x i=>iP t x fun v=>iP t i fun i=>match v,i with
  | .str s,.int _ n=>(match (aH G ty).kind with | .str=>0≤n∧∃ b,s.data.toList[n.toNat]?=some b∧k (.int .u8 b.toNat) | _=>False)
  | .agg cs,.int _ n=>(match (aH G ty).kind with | .arr ln e=>0≤n∧n<ln∧xQ G e cs (n.toNat*(aH G e).size) k | _=>False)
  | _,_=>False
 | .slice ty x lo hi none=>iP t x fun v=>optEvK t lo fun lo=>optEvK t hi fun hi=>match v with
  | .str s=>(match (aH G ty).kind with | .str=>bdW lo hi s.size fun l h=>k (.str (s.extract l h)) | _=>False)
  | .list e xs=>(match (aH G ty).kind with | .slice el=>(aH G el).size≠0∧(∀ c∈xs,c.length=(aH G el).size)∧zT lo hi xs fun ys=>k (.list e ys) | _=>False)
  | .nils=>(match (aH G ty).kind with | .slice el=>bdW lo hi 0 fun _ _=>(aH G el).size≠0∧k .nils | _=>False)
  | .row g ver off len sz=>(match (aH G ty).kind with | .slice el=>dK S g ver∧sz=(aH G el).size∧(aH G el).size≠0∧bdW lo hi len fun l h=>(l=0∨l<len)∧k (.row g ver (off+l) (h - l) sz) | _=>False)
  | _=>False
 | .slice ty x none (some hi) (some mx)=>iP t x fun v=>iP t hi fun vh=>iP t mx fun vm=>match v,vh,vm with
  | .list e xs,.int _ n,.int _ n'=>(match (aH G ty).kind with | .slice el=>(aH G el).size≠0∧(∀ c∈xs,c.length=(aH G el).size)∧n=n'∧zT none (some n) xs fun ys=>k (.list e ys) | _=>False)
  | _,_,_=>False
 | .extract x ix=>iP t x fun v=>match v with | .tup vs=>getC vs ix k | _=>False
 | .build ty parts=>match (aH G ty).kind with
  | .struct fs=>(fs.all fun f=>(aH G f.2).size != 0)=true∧vB t (parts.toList.map (·.2)) fun vs=>fillW S (fun i=>(fs[i]?).map fun f=>(f.1,(aH G f.2).size)) (zipL parts.toList vs) (aH G ty).zero fun cs=>k (.agg cs)
  | .arr _ e=>(aH G e).size≠0∧vB t (parts.toList.map (·.2)) fun vs=>fillW S (fun i=>some (i*(aH G e).size,(aH G e).size)) (zipL parts.toList vs) (aH G ty).zero fun cs=>k (.agg cs)
  | _=>False
 | .load ty x=>iP t x fun v=>match v with
  | .fptr cs j=>xQ G ty cs j k
  | .ptr g ver i j sz=>ldW S g ver i sz fun c=>xQ G ty c j k
  | _=>False
 | .lookup xt x ix ok=>match (aH G xt).kind with
  | .map kt et=>iP t x fun v=>iP t ix fun key=>keyW key fun key=>zO G kt key∧match v with
   | .map g=>lkW S g key fun o=>optW o (fun p=>k (if ok then .tup [p,.bool true] else p)) (sK G et fun z=>k (if ok then .tup [z,.bool false] else z))
   | .nilm=>sK G et fun z=>k (if ok then .tup [z,.bool false] else z)
   | _=>False
  | _=>False
 | .typeAssert x xt asg ok=>match (aH G asg).kind with
  | .iface=>False
  | .other=>False
  | _=>iP t x fun v=>match v with
   | .iface u p=>if u=asg then k (if ok then .tup [p,.bool true] else p) else ok=true∧sK G asg fun z=>k (.tup [z,.bool false])
   | .nili=>ok=true∧sK G asg fun z=>k (.tup [z,.bool false])
   | _=>False
 | .convert src dst x=>match (aH G src).kind,(aH G dst).kind with
  | .int _,.int kd=>iP t x fun v=>match v with | .int _ n=>wY kd n∧k (.int kd n) | _=>False
  | _,_=>False
 | .call { callee:=.builtin .max,args,.. }=>match args.toList with
  | [x,y]=>iP t x fun a=>iP t y fun b=>match a,b with
   | .int kd n,.int kd' n'=>kd=kd'∧k (.int kd (max n n'))
   | _,_=>False
  | _=>False
 | .call { callee:=.builtin .len,args,argTypes }=>match args.toList,argTypes.toList with
  | [x],[ty]=>iP t x fun v=>lenW G S ty v k
  | _,_=>False
 | _=>False
section
theorem iJ (b o n:Nat):(⟨b,o,none⟩:Addr).add n=⟨b,o+n,none⟩:=by unfold Addr.add;split <;> simp_all
variable {P:Program} {G:List TI} {w:World} {fr:Nat→Prop} {m:aQ} {S:aD}
theorem uY (r:RelS w fr m S) {g ver:Nat} (hl:dK S g ver) {C:Option Nat→Prop} (h:At m g ver C):∃ ob,m g=some (ver,ob)∧C ob:=by
 unfold dK at hl
 obtain⟨x,hx,rfl⟩:=hl
 obtain⟨ob,h1,_⟩:=r.obj g x hx
 obtain⟨v,b,h2,h3,h4⟩:=h
 rw[h1] at h2;cases h2
 exact⟨ob,h1,h4 rfl⟩
theorem pU (r:RelS w fr m S) {g ver i j sz:Nat} {v:Value} (h:Rep w fr m v (.ptr g ver i j sz)) (hl:dK S g ver):∃ b,v=.pointer (some ⟨b,i*sz+j,none⟩)∧m g=some (ver,some b):=by
 cases h with
 | ptr _ _ _ _ _ _ h=>
  obtain⟨ob,h1,b,rfl,rfl⟩:=uY r hl h
  exact⟨b,rfl,h1⟩
theorem pL (r:RelS w fr m S) {g ver off len sz:Nat} {v:Value} (h:Rep w fr m v (.row g ver off len sz)) (hl:dK S g ver) :
  (m g=some (ver,none)∧v=.slice none 0 0∧off=0∧len=0) ∨
  (∃ b cap N,m g=some (ver,some b)∧v=.slice (some ⟨b,off*sz,none⟩) len cap∧len≤cap∧(w.shape? b).map (·.2)=some N∧(off+cap)*sz≤N):=by
 cases h with
 | row _ _ _ _ _ _ h=>
  obtain⟨ob,h1,h2⟩:=uY r hl h
  cases ob with
  | none=>exact .inl ⟨h1,h2⟩
  | some b=>obtain⟨cap,N,h3,h4,h5,h6⟩:=h2;exact .inr ⟨b,cap,N,h1,h3,h4,h5,h6⟩
def CellsAt (w:World) (fr:Nat→Prop) (m:aQ) (b o:Nat) (cs:List PV):Prop:=
 ∃ vals:Nat→Value,(∀ j,j<cs.length→w.cell? ⟨b,o+j,none⟩=some (vals j))∧∀ (j:Nat) (h:j<cs.length),Rep w fr m (vals j) cs[j]
theorem rep_fptr {cs:List PV} {j:Nat} {v:Value} (h:Rep w fr m v (.fptr cs j)):∃ b o,v=.pointer (some ⟨b,o+j,none⟩)∧fr b∧CellsAt w fr m b o cs:=by
 cases h with
 | fptr b o j cs vals hf hv hr=>exact⟨b,o,rfl,hf,vals,hv,hr⟩
theorem sY {ft:Nat} {cs:List PV} {off:Nat} {k:PV→Prop} (h:xQ G ft cs off k):(aH G ft).kind≠.other ∧
    (((aH G ft).kind.isAgg=true∧off+(aH G ft).size≤cs.length∧k (.agg ((cs.drop off).take (aH G ft).size))) ∨
     ((aH G ft).kind.isAgg=false∧∃ h:off<cs.length,k cs[off])):=by
  unfold xQ at h
  split at h
  · exact h.elim
  · rename_i hk;rw[allK_eq] at h;exact⟨by simp[hk],.inl ⟨by simp[hk,TK.isAgg],h⟩⟩
  · rename_i hk;rw[allK_eq] at h;exact⟨by simp[hk],.inl ⟨by simp[hk,TK.isAgg],h⟩⟩
  · rename_i k1 k2 k3
    refine⟨k1,.inr ⟨?_,getC_ok h⟩⟩
    revert k2 k3
    generalize (aH G ft).kind=kk
    intro k2 k3
    cases kk <;> first | rfl | exact absurd rfl (k2 _) | exact absurd rfl (k3 _ _)
theorem load_ok (hG:jI P G) {ty b o off:Nat} {cs:List PV} {k:PV→Prop} (hc:CellsAt w fr m b o cs) (h:xQ G ty cs off k) :
  ∃ v p,(loadVar ty ⟨b,o+off,none⟩).run P w=.ok v w∧Rep w fr m v p∧k p:=by
 obtain⟨vals,hv,hr⟩:=hc
 obtain⟨hn,⟨ha,hl,hk⟩ | ⟨ha,hl,hk⟩⟩:=sY h
 ·refine⟨.agg ((List.range (aH G ty).size).map fun j=>vals (off+j)).toArray,_,?_,?_,hk⟩
  ·simp only[loadVar,Sem.run_bind,rO hG hn,Result.andThen_ok,ha,if_true,bJ hG hn]
   rw[run_loadCells w _ _ (fun j=>vals (off+j)) (fun j hj=>by rw[iJ,Nat.add_assoc];exact hv (off+j) (by omega))]
   simp
  ·refine .agg _ _ (by simp;omega) fun i h1 h2=>?_
   simp only[List.getElem_toArray,List.getElem_map,List.getElem_range,List.getElem_take,List.getElem_drop]
   exact hr (off+i) (by simp at h2;omega)
 ·refine⟨vals off,_,?_,hr off hl,hk⟩
  simp only[loadVar,Sem.run_bind,rO hG hn,Result.andThen_ok,ha,Bool.false_eq_true,if_false,run_load,hv off hl]
theorem part_ok (hG:jI P G) {ft off:Nat} {arr:Array Value} {cs:List PV} {k:PV→Prop} (hc:gD w fr m arr cs) (h:xQ G ft cs off k) :
  ∃ v p,(part ft arr off).run P w=.ok v w∧Rep w fr m v p∧k p:=by
 obtain⟨hn,⟨ha,hl,hk⟩ | ⟨ha,hl,hk⟩⟩:=sY h
 ·refine⟨.agg (arr.extract off (off+(aH G ft).size)),_,?_,?_,hk⟩
  ·simp only[part,Sem.run_bind,rO hG hn,Result.andThen_ok,ha,if_true,bJ hG hn,Sem.run_pure]
  ·have hs:=hc.1
   refine .agg _ _ (by simp;omega) fun i h1 h2=>?_
   simp only[Array.getElem_extract,List.getElem_take,List.getElem_drop]
   simp at h1
   exact hc.2 (off+i) (by omega) (by omega)
 ·have hs:=hc.1
  refine⟨arr[off],_,?_,hc.2 off (by omega) hl,hk⟩
  simp only[part,Sem.run_bind,rO hG hn,Result.andThen_ok,ha,Bool.false_eq_true,if_false]
  rw[Array.getElem?_eq_getElem (by omega)]
  rfl
theorem row_cells (r:RelS w fr m S) {g ver sz e b v:Nat} {xs:List (List PV)} (hS:S g=some (.row ver sz e xs)) (hm:m g=some (v,some b)) {i:Nat} {c:List PV} (hc:xs[i]?=some c):c.length=sz∧CellsAt w fr m b (i*sz) c:=by
 obtain⟨ob,h1,h2⟩:=r.obj g _ hS
 rw[hm] at h1;cases h1
 obtain⟨o,ho,he,arr,el,rfl,hs,hl,hcs⟩:=h2
 obtain⟨hi,rfl⟩:=List.getElem?_eq_some_iff.1 hc
 refine⟨hs i hi,fun j=>arr.getD (i*sz+j) undef,fun j hj=>?_,fun j hj=>?_⟩
 ·obtain⟨v,hv,_⟩:=hcs i j hi hj
  simp only[World.cell?,ho,Option.isSome_none,Bool.false_eq_true,if_false,Array.getD_eq_getD_getElem?,hv,Option.getD_some]
 ·obtain⟨v,hv,hr⟩:=hcs i j hi hj
  simpa[Array.getD_eq_getD_getElem?,hv] using hr
theorem ld_live {g ver i sz:Nat} {k:List PV→Prop} (h:ldW S g ver i sz k):dK S g ver:=by
 unfold ldW at h;obtain⟨e,xs,c,h,_⟩:=h;unfold dK;exact⟨_,h,rfl⟩
theorem ld_block (r:RelS w fr m S) {g ver i sz j b:Nat} {k:List PV→Prop} (h:ldW S g ver i sz k) (hm:m g=some (ver,some b)):∃ c,c.length=sz∧CellsAt w fr m b (i*sz) c∧k c:=by
 unfold ldW at h
 obtain⟨e,xs,c,h1,h2,h3⟩:=h
 obtain⟨h4,h5⟩:=row_cells r h1 hm h2
 exact⟨c,h4,h5,h3⟩
theorem gD.set {a:Array Value} {ps:List PV} (h:gD w fr m a ps) (d:Nat) {v:Value} {p:PV} (hv:Rep w fr m v p):gD w fr m (a.setIfInBounds d v) (ps.set d p):=
 ⟨by simp[h.1],fun i h1 h2=>by
  rw[Array.getElem_setIfInBounds (by simpa using h1),List.getElem_set]
  split
  ·exact hv
  ·exact h.2 i (by simpa using h1) (by simpa using h2)⟩
theorem pC:∀ (cs cells:List PV) (off:Nat) (k:List PV→Prop),lE cells off cs k=k (cs.zipIdx.foldl (fun l (x:PV × Nat)=>l.set (off+x.2) x.1) cells)
 | [],cells,off,k=>by simp[lE]
 | c::cs,cells,off,k=>by
  have key:∀ (l:List PV) (j n:Nat) (acc:List PV),(l.zipIdx (j+1)).foldl (fun l (x:PV × Nat)=>l.set (n+x.2) x.1) acc=(l.zipIdx j).foldl (fun l (x:PV × Nat)=>l.set (n+1+x.2) x.1) acc:=by
   intro l
   induction l with
   | nil=>intros;rfl
   | cons x l ih=>intro j n acc;simp only[List.zipIdx_cons,List.foldl_cons];rw[ih,show n+(j+1)=n+1+j by omega]
  simp only[lE,lG,pC cs,List.zipIdx_cons,List.foldl_cons,Nat.add_zero]
  rw[key]
theorem yG {off:Nat}:∀ (vs:List Value) (ps:List PV) (j:Nat) (a:Array Value) (l:List PV),gD w fr m a l→vs.length=ps.length→(∀ (i:Nat) (h1:i<vs.length) (h2:i<ps.length),Rep w fr m vs[i] ps[i]) →
  gD w fr m ((vs.zipIdx j).foldl (fun cs (x:Value × Nat)=>cs.setIfInBounds (off+x.2) x.1) a) ((ps.zipIdx j).foldl (fun l (x:PV × Nat)=>l.set (off+x.2) x.1) l)
 | [],[],_,_,_,h,_,_=>h
 | v::vs,p::ps,j,a,l,h,hl,hr=>by
  simp only[List.zipIdx_cons,List.foldl_cons]
  exact yG vs ps (j+1) _ _ (h.set _ (hr 0 (by simp) (by simp))) (by simpa using hl) (fun i h1 h2=>hr (i+1) (by simpa using h1) (by simpa using h2))
 | [],_::_,_,_,_,_,hl,_=>by simp at hl
 | _::_,[],_,_,_,_,hl,_=>by simp at hl
theorem uD (r:RelS w fr m S) {v:Value} {p:PV} (h:Rep w fr m v p) (hs:lH S p):v.cells=#[v]∧v.oneCell'=true:=by
 cases p with
 | any=>exact hs.elim
 | agg cs=>exact hs.elim
 | tup vs=>exact hs.elim
 | row g ver off len sz=>
  rcases pL r h hs with ⟨_,rfl,_⟩ | ⟨_,_,_,_,rfl,_⟩ <;> exact⟨rfl,rfl⟩
 | ptr g ver i j sz=>obtain⟨b,rfl,_⟩:=pU r h hs;exact⟨rfl,rfl⟩
 | map g=>
  cases h with
  | map _ _ h=>obtain⟨ob,_,b,_,rfl⟩:=uY r hs h;exact⟨rfl,rfl⟩
 | yld g=>
  cases h with
  | yld _ _ h=>obtain⟨ob,_,b,_,rfl⟩:=uY r hs h;exact⟨rfl,rfl⟩
 | _=>cases h <;> exact⟨rfl,rfl⟩
theorem wZ (r:RelS w fr m S) {place:Nat→Option (Nat × Nat)} {ρ:Operand→Value} {k:List PV→Prop}:∀ (parts:List (Nat × Operand)) (vs:List PV) (a:Array Value) (l:List PV),vs.length=parts.length →
  (∀ (i:Nat) (h1:i<parts.length) (h2:i<vs.length),Rep w fr m (ρ parts[i].2) vs[i])→gD w fr m a l→fillW S place (zipL parts vs) l k →
  ∃ a' l',Instr.fill place a (parts.map fun x=>(x.1,ρ x.2))=some a'∧gD w fr m a' l'∧k l'
 | [],[],a,l,_,_,ha,hk=>⟨a,l,rfl,ha,hk⟩
 | (i,x)::parts,v::vs,a,l,hl,hr,ha,hk=>by
  have hv:=hr 0 (by simp) (by simp)
  simp only[List.getElem_cons_zero] at hv
  have hr':∀ (i:Nat) (h1:i<parts.length) (h2:i<vs.length),Rep w fr m (ρ parts[i].2) vs[i]:=fun i h1 h2=>hr (i+1) (by simpa using h1) (by simpa using h2)
  simp only[zipL,fillW] at hk
  simp only[List.map_cons,Instr.fill]
  revert hv
  generalize ρ x=vx
  intro hv
  cases hp:place i with
  | none=>rw[hp] at hk;exact hk.elim
  | some os=>
   obtain⟨off,size⟩:=os
   rw[hp] at hk
   dsimp only at hk ⊢
   have hs:=ha.1
   split at hk
   ·rename_i c
    cases hv with
    | agg cs ps hcl hcr=>
     obtain⟨h1,h2,h3⟩:=hk
     rw[pC] at h3
     obtain⟨a',l',h4,h5,h6⟩:=wZ r parts vs _ _ (by simpa using hl) hr' (yG (off:=off) cs.toList _ 0 _ _ ha (by simpa using hcl) (fun i i1 i2=>by simpa using hcr i (by simpa using i1) i2)) h3
     refine⟨a',l',?_,h5,h6⟩
     have e1:(Value.agg cs).cells.size=size:=hcl.trans h1
     have e2:∀ f:Array Value→Value × Nat→Array Value,(Value.agg cs).cells.zipIdx.foldl f a=cs.toList.zipIdx.foldl f a:=fun f=>by
      rw[← Array.foldl_toList,Array.toList_zipIdx];rfl
     rw[if_neg (by simp[e1];omega),e2]
     exact h4
   ·obtain⟨hsol,h1,h2,h3⟩:=hk
    have hc:=(uD r hv hsol).1
    rw[pC] at h3
    obtain⟨a',l',h4,h5,h6⟩:=wZ r parts vs _ _ (by simpa using hl) hr' (yG (off:=off) [_] [v] 0 _ _ ha rfl (fun i i1 i2=>by
     have:i=0:=by simp at i1;omega
     subst this;exact hv)) h3
    refine⟨a',l',?_,h5,h6⟩
    rw[hc,if_neg (by simp;omega)]
    simpa using h4
 | [],_::_,_,_,hl,_,_,_=>by simp at hl
 | _::_,[],_,_,hl,_,_,_=>by simp at hl
end
section
variable {P:Program} {G:List TI} {w:World} {fr:Nat→Prop} {m:aQ} {S:aD}
def pP (P:Program) (w:World) (fr:Nat→Prop) (m:aQ) (x:Sem Value) (k:PV→Prop):Prop:=∃ v p,x.run P w=.ok v w∧Rep w fr m v p∧k p
theorem xH (hG:jI P G) {t:Nat} {k:PV→Prop} (h:sK G t k):pP P w fr m (zeroValue t) k:=by
 have hn:(aH G t).kind≠.other:=by intro e;simp[sK,e] at h
 obtain⟨z,h1,_,h2,_⟩:=qQ hG hn w
 refine⟨z,_,h1,h2 fr m,?_⟩
 unfold sK at h
 split at h
 ·exact h.elim
 ·rename_i hk;simpa[hk,TK.isAgg] using h
 ·rename_i hk;simpa[hk,TK.isAgg] using h
 ·rename_i k1 k2 k3
  rw[mU] at h
  have:(aH G t).kind.isAgg=false:=by
   revert k2 k3
   generalize (aH G t).kind=kk
   intro k2 k3
   cases kk <;> first | rfl | exact absurd rfl (k2 _) | exact absurd rfl (k3 _ _)
  simpa[this] using h
theorem idx_list (hG:jI P G) {ty e e0:Nat} {xs:List (List PV)} {kd:IntKind} {n:Int} {v:Value} {k:PV→Prop} (hv:Rep w fr m v (.list e0 xs)) (hk:(aH G ty).kind=.slice e)
  (h:idxW xs n fun c=>c.length=(aH G e).size∧(aH G e).size≠0∧k (.fptr c 0)):pP P w fr m (Instr.indexAt ty v (.int kd n)) k:=by
 unfold idxW at h
 obtain⟨h0,c,hc,hl,hz,hk'⟩:=h
 have hu:=cV hG hk
 have hne:=bY hG hz
 cases hv with
 | list0 base cap e=>simp at hc
 | list b o cap e sz xs vals hf hcap he hs hv hr=>
  obtain⟨hi,rfl⟩:=List.getElem?_eq_some_iff.1 hc
  have hsz:=hs _ hi
  have hlt:n<(xs.length:Int):=by omega
  refine⟨.pointer (some ⟨b,o+n.toNat*sz+0,none⟩),_,?_,.fptr b (o+n.toNat*sz) 0 _ (fun j=>vals n.toNat j) hf (fun j hj=>?_) (fun j hj=>hr _ j hi hj),hk'⟩
  ·simp[Instr.indexAt,asIntOf,underlying,hu,h0,hlt,bJ hG hne,iJ,← hl,hsz]
  ·rw[show o+n.toNat*sz+j=o+(n.toNat*sz+j) by omega]
   exact hv _ _ hi (by omega)
theorem idx_row (hG:jI P G) (r:RelS w fr m S) {ty e g ver off len sz:Nat} {kd:IntKind} {j:Nat} {v:Value} {k:PV→Prop} (hv:Rep w fr m v (.row g ver off len sz)) (hk:(aH G ty).kind=.slice e)
  (hl:dK S g ver) (hs:sz=(aH G e).size) (hz:(aH G e).size≠0) (hj:j<len) (hk':k (.ptr g ver (off+j) 0 sz)):pP P w fr m (Instr.indexAt ty v (.int kd j)) k:=by
 have hu:=cV hG hk
 have hne:=bY hG hz
 rcases pL r hv hl with ⟨_,_,_,rfl⟩ | ⟨b,cap,N,hm,rfl,h1,h2,h3⟩
 ·omega
 ·refine⟨.pointer (some ⟨b,(off+j)*sz+0,none⟩),_,?_,.ptr _ g ver (off+j) 0 sz ⟨ver,some b,hm,Nat.le_refl _,fun _=>⟨b,rfl,rfl⟩⟩,hk'⟩
  have hlt:(j:Int)<(len:Int):=by omega
  simp[Instr.indexAt,asIntOf,underlying,hu,hj,bJ hG hne,iJ,← hs,Nat.add_mul]
theorem idx_arr (hG:jI P G) (r:RelS w fr m S) {ty e ln g ver i j sz:Nat} {kd:IntKind} {n:Int} {v:Value} {k:PV→Prop} (hv:Rep w fr m v (.ptr g ver i j sz)) (hk:(aH G ty).kind=.arr ln e)
  (hl:dK S g ver) (h0:0≤n) (h1:n<ln) (hz:(aH G e).size≠0) (hk':k (.ptr g ver i (j+n.toNat*(aH G e).size) sz)):pP P w fr m (Instr.indexAt ty v (.int kd n)) k:=by
 have hu:=und_arr hG hk
 have hne:=bY hG hz
 obtain⟨b,rfl,hm⟩:=pU r hv hl
 refine⟨.pointer (some ⟨b,i*sz+(j+n.toNat*(aH G e).size),none⟩),_,?_,.ptr _ g ver i _ sz ⟨ver,some b,hm,Nat.le_refl _,fun _=>⟨b,rfl,rfl⟩⟩,hk'⟩
 simp[Instr.indexAt,asIntOf,underlying,hu,Instr.sureAddr,h0,h1,bJ hG hne,iJ,Nat.add_assoc]
theorem field_ok (hG:jI P G) {s off ft f:Nat} {fs:List (Nat × Nat)} {b o:Nat} (hk:(aH G s).kind=.struct fs) (hf:fs[f]?=some (off,ft)) (hz:(aH G ft).size≠0) :
  (Instr.fieldAt s (.pointer (some ⟨b,o,none⟩)) f).run P w=.ok (.pointer (some ⟨b,o+off,none⟩)) w:=by
 obtain⟨gs,hu,he⟩:=oR hG hk
 have hne:=bY hG hz
 subst he
 simp only[List.getElem?_map,Option.map_eq_some_iff] at hf
 obtain⟨fd,h1,h2⟩:=hf
 cases h2
 have h3:gs[f]?=some fd:=by simpa using h1
 simp[Instr.fieldAt,underlying,hu,h3,Instr.sureAddr,fieldPlace,bJ hG hne,hz,iJ]
theorem bd_ok {lo hi:Option Int} {len:Nat} {k:Nat→Nat→Prop} (h:bdW lo hi len k):∃ l h:Nat,(lo.getD 0=l)∧(hi.getD len=h)∧l≤h∧h≤len∧k l h:=by
 unfold bdW at h;exact h
theorem oL (isS:Bool) {len cap l h:Nat} {lo hi:Option Int} {vlo vhi:Option Value} (h1:lo.getD 0=l) (h2:hi.getD len=h) (hlh:l≤h) (hlen:h≤len) (hc:len≤cap)
  (hlo:∀ n,lo=some n→∃ k,vlo=some (.int k n)) (hlo':lo=none→vlo=none) (hhi:∀ n,hi=some n→∃ k,vhi=some (.int k n)) (hhi':hi=none→vhi=none) :
  (Instr.sliceBounds isS len cap vlo vhi none).run P w=.ok (l,h,cap) w:=by
 cases lo with
 | none=>
  rw[hlo' rfl]
  have hl0:l=0:=by simpa using h1.symm
  subst hl0
  cases hi with
  | none=>
   rw[hhi' rfl]
   have:h=len:=by simp at h2;omega
   subst this
   simp[Instr.sliceBounds]
  | some n=>
   obtain⟨kd,rfl⟩:=hhi n rfl
   have:n=h:=by simpa using h2
   subst this
   simp[Instr.sliceBounds,Instr.sliceBound,asIntOf,(by omega:h≤cap)]
 | some nl=>
  obtain⟨kl,rfl⟩:=hlo nl rfl
  have:nl=l:=by simpa using h1
  subst this
  cases hi with
  | none=>
   rw[hhi' rfl]
   have:h=len:=by simp at h2;omega
   subst this
   simp[Instr.sliceBounds,Instr.sliceBound,asIntOf,hlh]
  | some n=>
   obtain⟨kd,rfl⟩:=hhi n rfl
   have:n=h:=by simpa using h2
   subst this
   simp[Instr.sliceBounds,Instr.sliceBound,asIntOf,(by omega:h≤cap),hlh]
theorem slice_list (hG:jI P G) {ty el e l h:Nat} {xs:List (List PV)} {lo hi:Option Int} {vlo vhi:Option Value} {v:Value} {k:PV→Prop} (hv:Rep w fr m v (.list e xs)) (hk:(aH G ty).kind=.slice el)
  (hz:(aH G el).size≠0) (hc:∀ c∈xs,c.length=(aH G el).size) (h1:lo.getD 0=l) (h2:hi.getD xs.length=h) (hlh:l≤h) (hlen:h≤xs.length)
  (hlo:∀ n,lo=some n→∃ k,vlo=some (.int k n)) (hlo':lo=none→vlo=none) (hhi:∀ n,hi=some n→∃ k,vhi=some (.int k n)) (hhi':hi=none→vhi=none)
  (hk':k (.list e ((xs.take h).drop l))):pP P w fr m (Instr.sliceAt ty v vlo vhi none) k:=by
 have hu:=cV hG hk
 have hne:=bY hG hz
 cases hv with
 | list0 base cap e=>
  have hl0:l=0:=by simp at hlen;omega
  have hh0:h=0:=by simp at hlen;omega
  subst hl0;subst hh0
  have hb:=oL (P:=P) (w:=w) true h1 (by simpa using h2) hlh (Nat.le_refl 0) (Nat.zero_le cap) hlo hlo' hhi hhi'
  refine⟨.slice (if cap=0 then base else base.map (·.add 0)) 0 cap,_,?_,.list0 _ _ e,by simpa using hk'⟩
  simp[Instr.sliceAt,underlying,hu,Instr.slice,hb,bJ hG hne]
 | list b o cap e sz xs vals hf hcap he hs hv hr=>
  have hb:=oL (P:=P) (w:=w) true h1 h2 hlh hlen hcap hlo hlo' hhi hhi'
  by_cases hlt:l<h
  ·have hsz:sz=(aH G el).size:=by
    have:=hs 0 (by omega)
    rw[← hc _ (List.getElem_mem (by omega:0<xs.length)),this]
   have hll:((xs.take h).drop l).length=h - l:=by simp;omega
   refine⟨.slice (some ⟨b,o+l*sz,none⟩) ((xs.take h).drop l).length (cap - l),_,?_,.list b (o+l*sz) (cap - l) e sz _ (fun i j=>vals (l+i) j) hf (by rw[hll];omega) (by rw[hll];exact Nat.le_trans (Nat.mul_le_mul_right _ (by omega)) he) (fun i hi=>?_) (fun i j hi hj=>?_) (fun i j hi hj=>?_),hk'⟩
   ·have hcl:¬ cap=l:=by omega
    rw[hll]
    simp[Instr.sliceAt,underlying,hu,Instr.slice,hb,bJ hG hne,hcl,iJ,hsz]
   ·simp only[List.getElem_drop,List.getElem_take];exact hs _ _
   ·rw[hll] at hi
    rw[show o+l*sz+(i*sz+j)=o+((l+i)*sz+j) by rw[Nat.add_mul];omega]
    exact hv _ _ (by omega) hj
   ·simp only[List.getElem_drop,List.getElem_take] at hj ⊢
    exact hr _ _ _ hj
  ·have hlh':l=h:=by omega
   subst hlh'
   refine⟨.slice (if cap=l then some ⟨b,o,none⟩ else some (⟨b,o+l*(aH G el).size,none⟩)) 0 (cap - l),_,?_,.list0 _ _ e,by simpa using hk'⟩
   simp[Instr.sliceAt,underlying,hu,Instr.slice,hb,bJ hG hne,iJ]
theorem bounds3_ok {len cap h:Nat} {k k':IntKind} (hlen:h≤len) (hc:len≤cap):(Instr.sliceBounds true len cap none (some (.int k h)) (some (.int k' h))).run P w=.ok (0,h,h) w:=by
 simp[Instr.sliceBounds,Instr.sliceBound,asIntOf,(by omega:h≤cap)]
theorem slice3_list (hG:jI P G) {ty el e h:Nat} {xs:List (List PV)} {k1 k2:IntKind} {v:Value} {k:PV→Prop} (hv:Rep w fr m v (.list e xs)) (hk:(aH G ty).kind=.slice el)
  (hz:(aH G el).size≠0) (hc:∀ c∈xs,c.length=(aH G el).size) (hlen:h≤xs.length)
  (hk':k (.list e (xs.take h))):pP P w fr m (Instr.sliceAt ty v none (some (.int k1 h)) (some (.int k2 h))) k:=by
 have hu:=cV hG hk
 have hne:=bY hG hz
 cases hv with
 | list0 base cap e=>
  have hh0:h=0:=by simp at hlen;omega
  subst hh0
  have hb:=bounds3_ok (P:=P) (w:=w) (k:=k1) (k':=k2) (Nat.le_refl 0) (Nat.zero_le cap)
  have hb0:(Instr.sliceBounds true 0 cap none (some (.int k1 0)) (some (.int k2 0))).run P w=.ok (0,0,0) w:=hb
  refine⟨.slice base 0 0,_,?_,.list0 _ _ e,by simpa using hk'⟩
  simp[Instr.sliceAt,underlying,hu,Instr.slice,hb0,bJ hG hne]
 | list b o cap e sz xs vals hf hcap he hs hv hr=>
  have hb:=bounds3_ok (P:=P) (w:=w) (k:=k1) (k':=k2) hlen hcap
  by_cases hlt:0<h
  ·have hsz:sz=(aH G el).size:=by
    have:=hs 0 (by omega)
    rw[← hc _ (List.getElem_mem (by omega:0<xs.length)),this]
   have hll:(xs.take h).length=h:=by simp;omega
   refine⟨.slice (some ⟨b,o,none⟩) (xs.take h).length h,_,?_,.list b o h e sz _ vals hf (by rw[hll];omega) (by rw[hll];exact Nat.le_trans (Nat.mul_le_mul_right _ (by omega)) he) (fun i hi=>?_) (fun i j hi hj=>?_) (fun i j hi hj=>?_),hk'⟩
   ·have hcl:¬ h=0:=by omega
    rw[hll]
    simp[Instr.sliceAt,underlying,hu,Instr.slice,hb,bJ hG hne,hcl,iJ,hsz]
   ·simp only[List.getElem_take];exact hs _ _
   ·rw[hll] at hi
    exact hv _ _ (by omega) hj
   ·simp only[List.getElem_take] at hj ⊢
    exact hr _ _ _ hj
  ·have hh0:h=0:=by omega
   subst hh0
   have hb0:(Instr.sliceBounds true xs.length cap none (some (.int k1 0)) (some (.int k2 0))).run P w=.ok (0,0,0) w:=hb
   refine⟨.slice (some ⟨b,o,none⟩) 0 0,_,?_,.list0 _ _ e,by simpa using hk'⟩
   simp[Instr.sliceAt,underlying,hu,Instr.slice,hb0,bJ hG hne,iJ]
theorem slice_row (hG:jI P G) (r:RelS w fr m S) {ty el g ver off len sz l h:Nat} {lo hi:Option Int} {vlo vhi:Option Value} {v:Value} {k:PV→Prop} (hv:Rep w fr m v (.row g ver off len sz)) (hk:(aH G ty).kind=.slice el)
  (hl:dK S g ver) (hs:sz=(aH G el).size) (hz:(aH G el).size≠0) (h1:lo.getD 0=l) (h2:hi.getD len=h) (hlh:l≤h) (hlen:h≤len)
  (hlo:∀ n,lo=some n→∃ k,vlo=some (.int k n)) (hlo':lo=none→vlo=none) (hhi:∀ n,hi=some n→∃ k,vhi=some (.int k n)) (hhi':hi=none→vhi=none)
  (hll:l=0∨l<len) (hk':k (.row g ver (off+l) (h - l) sz)):pP P w fr m (Instr.sliceAt ty v vlo vhi none) k:=by
 have hu:=cV hG hk
 have hne:=bY hG hz
 rcases pL r hv hl with ⟨hm,rfl,rfl,rfl⟩ | ⟨b,cap,N,hm,rfl,h3,h4,h5⟩
 ·have hl0:l=0:=by omega
  have hh0:h=0:=by omega
  subst hl0;subst hh0
  have hb:=oL (P:=P) (w:=w) true h1 h2 hlh (Nat.le_refl 0) (Nat.le_refl 0) hlo hlo' hhi hhi'
  refine⟨.slice none 0 0,_,?_,.row _ g ver 0 0 sz ⟨ver,none,hm,Nat.le_refl _,fun _=>⟨rfl,rfl,rfl⟩⟩,by simpa using hk'⟩
  simp[Instr.sliceAt,underlying,hu,Instr.slice,hb,bJ hG hne]
 ·have hb:=oL (P:=P) (w:=w) true h1 h2 hlh hlen h3 hlo hlo' hhi hhi'
  refine⟨.slice (some ⟨b,(off+l)*sz,none⟩) (h - l) (cap - l),_,?_,.row _ g ver (off+l) (h - l) sz ⟨ver,some b,hm,Nat.le_refl _,fun _=>⟨cap - l,N,rfl,by omega,h4,?_⟩⟩,hk'⟩
  ·rcases hll with rfl | hll
   ·simp[Instr.sliceAt,underlying,hu,Instr.slice,hb,bJ hG hne,iJ]
   ·have hcl:¬ cap=l:=by omega
    simp[Instr.sliceAt,underlying,hu,Instr.slice,hb,bJ hG hne,hcl,iJ,← hs,Nat.add_mul]
  ·rw[show off+l+(cap - l)=off+cap by omega];exact h5
theorem slice_str (hG:jI P G) {ty l h:Nat} {s:ByteArray} {lo hi:Option Int} {vlo vhi:Option Value} {v:Value} {k:PV→Prop} (hv:Rep w fr m v (.str s)) (hk:(aH G ty).kind=.str)
  (h1:lo.getD 0=l) (h2:hi.getD s.size=h) (hlh:l≤h) (hlen:h≤s.size)
  (hlo:∀ n,lo=some n→∃ k,vlo=some (.int k n)) (hlo':lo=none→vlo=none) (hhi:∀ n,hi=some n→∃ k,vhi=some (.int k n)) (hhi':hi=none→vhi=none)
  (hk':k (.str (s.extract l h))):pP P w fr m (Instr.sliceAt ty v vlo vhi none) k:=by
 have hu:=uK hG hk
 cases hv with
 | str s hs=>
  have hb:=oL (P:=P) (w:=w) false h1 h2 hlh hlen (Nat.le_refl _) hlo hlo' hhi hhi'
  refine⟨.string (s.extract l h),_,?_,.str _ (by simp;omega),hk'⟩
  simp[Instr.sliceAt,underlying,hu,Instr.slice,hb]
theorem idx_str (hG:jI P G) {ty:Nat} {s:ByteArray} {kd:IntKind} {n:Int} {b:UInt8} {v:Value} {k:PV→Prop} (hv:Rep w fr m v (.str s)) (hk:(aH G ty).kind=.str) (h0:0≤n)
  (hb:s.data.toList[n.toNat]?=some b) (hk':k (.int .u8 b.toNat)):pP P w fr m (Instr.index ty v (.int kd n)) k:=by
 have hu:=uK hG hk
 cases hv
 obtain⟨hlt,hb'⟩:=List.getElem?_eq_some_iff.1 hb
 have hlt':n.toNat<s.size:=by simpa using hlt
 have h2:s[n.toNat]?=some b:=by
  rw[ByteArray.getElem?_lt' s _ hlt',← hb']
  rfl
 refine⟨.int .u8 b.toNat,_,?_,.int _ _ ?_,hk'⟩
 ·simp[Instr.index,asIntOf,underlying,hu,h0,h2]
 ·have:=b.toNat_lt
  simp[IntKind.has,IntKind.min,IntKind.max,IntKind.signed,IntKind.bits];omega
theorem optEv_ok {a:Act} {t:List PV} {D:List DA} (h:kZ a w fr m t S D) {x:Option Operand} {k:Option Int→Prop} (hk:optEvK t x k) :
  ∃ o:Option Int,(∀ n,o=some n→∃ kd,x.map a.eval=some (.int kd n))∧(o=none→x.map a.eval=none)∧k o:=by
 cases x with
 | none=>exact⟨none,fun n e=>(by cases e),fun _=>rfl,hk⟩
 | some x=>
  simp only[optEvK] at hk
  obtain⟨p,hp,hk⟩:=bP h hk
  revert hp
  generalize he:a.eval x=vx
  intro hp
  split at hk
  ·rename_i kd n
   cases hp
   exact⟨some n,fun n' e'=>by cases e';exact⟨kd,by simp[he]⟩,fun e'=>(by cases e'),hk⟩
  ·exact hk.elim
end
section
variable {P:Program} {G:List TI} {w:World} {fr:Nat→Prop} {m:aQ} {S:aD}
theorem gD.get {a:Array Value} {ps:List PV} (h:gD w fr m a ps) {i:Nat} (hi:i<ps.length):∃ v,a[i]?=some v∧Rep w fr m v ps[i]:=
 ⟨a[i]'(by rw[h.1];exact hi),by rw[Array.getElem?_eq_getElem],h.2 i (by rw[h.1];exact hi) hi⟩
theorem len_ok (hG:jI P G) (r:RelS w fr m S) {ty ty':Nat} {v:Value} {p:PV} {k:PV→Prop} (hv:Rep w fr m v p) (h:lenW G S ty p k):pP P w fr m (Builtin.len_ #[ty] ty' #[v]) k:=by
 unfold lenW at h
 split at h
 ·split at h
  ·rename_i e xs _ el hk
   have hu:=cV hG hk
   obtain⟨he,h⟩:=h
   have key:∀ base n cap,v=.slice base n cap→n=xs.length→xs.length*e≤cap47→pP P w fr m (Builtin.len_ #[ty] ty' #[v]) k:=by
    rintro base n cap rfl rfl hb
    refine⟨.int .i64 xs.length,_,by simp[Builtin.len_,underlying,hu,goInt],.int _ _ ?_,h hb⟩
    have:xs.length≤xs.length*e:=Nat.le_mul_of_pos_right _ he
    unfold cap47 at hb
    simp[IntKind.has,IntKind.min,IntKind.max,IntKind.signed,IntKind.bits]
    omega
   cases hv with
   | list0 base cap e=>exact key _ _ _ rfl rfl (by simp)
   | list b o cap e sz xs vals hf hcap he'=>exact key _ _ _ rfl rfl he'
  ·exact h.elim
 ·split at h
  ·rename_i el hk
   have hu:=cV hG hk
   cases hv
   exact⟨.int .i64 0,_,by simp[Builtin.len_,underlying,hu,goInt],.int _ _ (by simp[IntKind.has,IntKind.min,IntKind.max,IntKind.signed,IntKind.bits]),h⟩
  ·exact h.elim
 ·split at h
  ·rename_i g ver off len sz _ el hk
   have hu:=cV hG hk
   obtain⟨h1,h2,h3⟩:=h
   have hfit:IntKind.i64.has (len:Int):=by simp[IntKind.has,IntKind.min,IntKind.max,IntKind.signed,IntKind.bits];omega
   rcases pL r hv h1 with ⟨_,rfl,_,rfl⟩ | ⟨b,cap,N,hm,rfl,_⟩
   ·exact⟨.int .i64 0,_,by simp[Builtin.len_,underlying,hu,goInt],.int _ _ hfit,h3⟩
   ·exact⟨.int .i64 len,_,by simp[Builtin.len_,underlying,hu,goInt],.int _ _ hfit,h3⟩
  ·exact h.elim
 ·split at h
  ·rename_i hk
   have hu:=uK hG hk
   cases hv with
   | str s hs=>
    refine⟨_,_,by simp[Builtin.len_,underlying,hu,goInt],.int _ _ ?_,h hs⟩
    unfold cap47 at hs
    simp[IntKind.has,IntKind.min,IntKind.max,IntKind.signed,IntKind.bits];omega
  ·exact h.elim
 ·exact h.elim
theorem find_now {str:Bool} {td:TypeDesc} (hd:∀ x:MK,x.isS=str→∀ y:MK,y.isS=str→Instr.sameNow td x.val y.val=some (decide (y=x))) (key:MK) (hk:key.isS=str) :
  ∀ (es:List MapEntry) (ks:List (MK × Value)) (i:Nat),es.map (fun e=>(e.key,e.val))=ks.map (fun x=>(x.1.val,x.2))→(∀ x∈ks,x.1.isS=str) →
  ∃ j,Instr.findNow td key.val es i=some ((ks.find? (fun x=>decide (x.1=key))).map fun x=>(j,x.2))
 | [],[],i,_,_=>⟨0,rfl⟩
 | e::es,x::ks,i,h,hs=>by
  simp only[List.map_cons,List.cons.injEq,Prod.mk.injEq] at h
  obtain⟨⟨h1,h2⟩,h3⟩:=h
  simp only[Instr.findNow,h1,hd key hk x.1 (hs x (by simp))]
  by_cases he:x.1=key
  ·exact⟨i,by simp[he,h2]⟩
  ·simp only[he,decide_false,List.find?_cons]
   exact find_now hd key hk es ks (i+1) h3 (fun y hy=>hs y (by simp[hy]))
 | [],_::_,_,h,_=>by simp at h
 | _::_,[],_,h,_=>by simp at h
theorem same_str (x:MK) (hx:x.isS=true) (y:MK) (hy:y.isS=true):Instr.sameNow .string x.val y.val=some (decide (y=x)):=by
 cases x <;> cases y <;> simp[MK.isS] at hx hy
 rename_i a b
 simp only[MK.val,Instr.sameNow,beqBA',Option.some.injEq,MK.s.injEq]
 rw[Bool.eq_iff_iff];simp[eq_comm]
theorem same_int (x:MK) (hx:x.isS=false) (y:MK) (hy:y.isS=false):Instr.sameNow (.int .i64) x.val y.val=some (decide (y=x)):=by
 cases x <;> cases y <;> simp[MK.isS] at hx hy
 rename_i a b
 show (if IntKind.i64=IntKind.i64 then some (a == b) else none)=_
 rw[if_pos rfl]
 congr 1
 rw[Bool.eq_iff_iff,beq_iff_eq,decide_eq_true_eq,MK.i.injEq]
 exact eq_comm
theorem key_ok {v:Value} {p:PV} {k:MK→Prop} (hv:Rep w fr m v p) (h:keyW p k):∃ key:MK,v=key.val∧k key:=by
 unfold keyW at h
 split at h
 ·cases hv;exact⟨.s _,rfl,h⟩
 ·cases hv;exact⟨.i _,rfl,h⟩
 ·exact h.elim
theorem keyTy_ok (hG:jI P G) {kt:Nat} {key:MK} (h:zO G kt key):∃ td,P.underlying kt=some td∧(∀ x:MK,x.isS=key.isS→∀ y:MK,y.isS=key.isS→Instr.sameNow td x.val y.val=some (decide (y=x))) ∧
  ∀ b n (w:World),(Instr.checkKey b (n+1) kt key.val).run P w=.ok () w:=by
 cases key with
 | s b=>
  have hu:=uK hG h
  exact⟨_,hu,same_str,fun b n w=>by simp[Instr.checkKey,underlying,hu,MK.val]⟩
 | i n=>
  have hu:=wQ hG h
  exact⟨_,hu,same_int,fun b n w=>by simp[Instr.checkKey,underlying,hu,MK.val]⟩
theorem lookup_ok (hG:jI P G) (r:RelS w fr m S) {xt kt et g:Nat} {v:Value} {key:MK} {ok:Bool} {k:PV→Prop} (hk:(aH G xt).kind=.map kt et) (hv:Rep w fr m v (.map g)) (ht:zO G kt key)
  (h:lkW S g key fun o=>optW o (fun p=>k (if ok then .tup [p,.bool true] else p)) (sK G et fun z=>k (if ok then .tup [z,.bool false] else z))):pP P w fr m (Instr.lookup xt v key.val ok) k:=by
 unfold lkW at h
 obtain⟨f,hS,h⟩:=h
 unfold optW at h
 obtain⟨ob,h1,h2⟩:=r.obj g _ hS
 have hl:dK S g 0:=by unfold dK;exact⟨_,hS,rfl⟩
 cases hv with
 | map _ _ hA=>
  obtain⟨ob',h3,b,rfl,rfl⟩:=uY r hl hA
  rw[h3] at h1
  cases h1
  obtain⟨o,ho,es,clock,ks,rfl,h5,h6,h7⟩:=h2
  obtain⟨td,hu,hsame,hchk⟩:=keyTy_ok hG ht
  obtain⟨j,hj⟩:=find_now hsame key rfl es.toList ks 0 h5 h6
  have hum:=und_map hG hk
  have h8:=h7 key
  have hrun:∀ K:Option (Nat × Value)→Sem Value,((Instr.findKey kt key.val es.toList) >>= K).run P w=(K ((ks.find? (fun x=>decide (x.1=key))).map fun x=>(j,x.2))).run P w:=by
   intro K
   simp[Instr.findKey,underlying,hu,hj]
  have hget:(getObj b).run P w=.ok (.map es clock) w:=by simp[getObj,Sem.run,ho]
  cases hfd:ks.find? (fun x=>decide (x.1=key)) with
  | none=>
   rw[hfd] at h8
   have hn:f key=none:=by
    cases hf:f key with
    | none=>rfl
    | some p=>rw[hf] at h8;exact h8.elim
   obtain⟨z,p,hz,hzr,hzk⟩:=xH (w:=w) (fr:=fr) (m:=m) hG (h.2 hn)
   rw[hfd] at hrun
   refine⟨if ok then .tuple #[z,.bool false] else z,if ok then .tup [p,.bool false] else p,?_,?_,hzk⟩
   ·simp only[Instr.lookup,underlying,Sem.run_bind,run_program,Result.andThen_ok,hum,Sem.run_pure,hget,hchk]
    have:=hrun
    simp only[Sem.run_bind] at this
    rw[this]
    cases ok <;> simp[hz]
   ·cases ok
    ·exact hzr
    ·exact .tup _ _ rfl fun i i1 i2=>by
      match i,i1,i2 with
      | 0,_,_=>exact hzr
      | 1,_,_=>exact .bool _
  | some x=>
   rw[hfd] at h8
   cases hf:f key with
   | none=>rw[hf] at h8;exact h8.elim
   | some p=>
    rw[hf] at h8
    rw[hfd] at hrun
    refine⟨if ok then .tuple #[x.2,.bool true] else x.2,if ok then .tup [p,.bool true] else p,?_,?_,h.1 p hf⟩
    ·simp only[Instr.lookup,underlying,Sem.run_bind,run_program,Result.andThen_ok,hum,Sem.run_pure,hget,hchk]
     have:=hrun
     simp only[Sem.run_bind] at this
     rw[this]
     cases ok <;> simp
    ·cases ok
     ·exact h8
     ·exact .tup _ _ rfl fun i i1 i2=>by
       match i,i1,i2 with
       | 0,_,_=>exact h8
       | 1,_,_=>exact .bool _
theorem lookup_nil (hG:jI P G) {xt kt et:Nat} {key:MK} {ok:Bool} {k:PV→Prop} (hk:(aH G xt).kind=.map kt et) (ht:zO G kt key)
  (h:sK G et fun z=>k (if ok then .tup [z,.bool false] else z)):pP P w fr m (Instr.lookup xt (.map none) key.val ok) k:=by
 obtain⟨td,hu,hsame,hchk⟩:=keyTy_ok hG ht
 have hum:=und_map hG hk
 obtain⟨z,p,hz,hzr,hzk⟩:=xH (w:=w) (fr:=fr) (m:=m) hG h
 refine⟨if ok then .tuple #[z,.bool false] else z,if ok then .tup [p,.bool false] else p,?_,?_,hzk⟩
 ·simp only[Instr.lookup,underlying,Sem.run_bind,run_program,Result.andThen_ok,hum,Sem.run_pure,hchk]
  simp only[Instr.findKey,underlying,Sem.run_bind,run_program,Result.andThen_ok,hu,Sem.run_pure,Instr.findNow]
  cases ok <;> simp[hz]
 ·cases ok
  ·exact hzr
  ·exact .tup _ _ rfl fun i i1 i2=>by
    match i,i1,i2 with
    | 0,_,_=>exact hzr
    | 1,_,_=>exact .bool _
end
section
variable {P:Program} {G:List TI} {w:World} {fr:Nat→Prop} {m:aQ} {S:aD}
theorem xO (hG:jI P G) {a:Act} {t:List PV} {D:List DA} (h:kZ a w fr m t S D) {o:Oper} {k:PV→Prop} (hk:nG G o.op t S k) :
  ∃ v p,(execOp a.eval o).run P w=.ok (.value v) w∧Rep w fr m v p∧k p:=by
 have wrap:∀ {x:Sem Value},pP P w fr m x k→execOp a.eval o=(do pure (.value (← x)))→∃ v p,(execOp a.eval o).run P w=.ok (.value v) w∧Rep w fr m v p∧k p:=by
  rintro x ⟨v,p,h1,h2,h3⟩ e
  exact⟨v,p,by rw[e];simp[h1],h2,h3⟩
 obtain⟨dst,op,rty,pos,after,guard⟩:=o
 cases op <;> simp only[nG] at hk <;> try exact hk.elim
 case move x=>
  obtain⟨p,hp,hk⟩:=bP h hk
  exact⟨_,p,rfl,hp,hk⟩
 case assign x=>
  obtain⟨p,hp,hk⟩:=bP h hk
  exact⟨_,p,rfl,hp,hk⟩
 case pick c x y=>
  obtain⟨p,hp,hk⟩:=bP h hk
  split at hk
  ·rename_i g
   revert hp;generalize he:a.eval c=vc;intro hp
   cases hp
   cases g with
   | true=>obtain⟨p,hp,hk⟩:=bP h (hk.1 rfl);exact⟨_,p,by simp[execOp,he,asBool],hp,hk⟩
   | false=>obtain⟨p,hp,hk⟩:=bP h (hk.2 rfl);exact⟨_,p,by simp[execOp,he,asBool],hp,hk⟩
  ·exact hk.elim
 case nilCheck x=>
  obtain⟨p,hp,hk⟩:=bP h hk
  revert hp;generalize he:a.eval x=vx;intro hp
  split at hk
  ·obtain⟨b,o,rfl,hf,hc⟩:=rep_fptr hp
   exact⟨_,_,by simp[execOp,he],hp,hk⟩
  ·obtain⟨b,rfl,hm⟩:=pU h.rel hp hk.1
   exact⟨_,_,by simp[execOp,he],hp,hk.2⟩
  ·rename_i f pa pc
   have:∃ a c,vx=.func (.func f) a c:=by cases hp;exact⟨_,_,rfl⟩
   obtain⟨a1,c1,rfl⟩:=this
   exact⟨_,_,by simp[execOp,he],hp,hk⟩
  ·exact hk.elim
 case binOp op xt x y yt=>
  obtain⟨pa,ha,hk⟩:=bP h hk
  obtain⟨pb,hb,hk⟩:=bP h hk
  refine wrap (x:=do eqGuard op xt x y (a.eval x) (a.eval y);binOp op xt (a.eval x) (a.eval y)) ?_ rfl
  revert ha hb
  generalize a.eval x=va
  generalize a.eval y=vb
  intro ha hb
  split at hk
  ·split at hk
   ·rename_i e hk'
    obtain⟨b,rfl,hm⟩:=pU h.rel ha hk.1
    cases hb
    obtain⟨d,f,h1,_,h3,_⟩:=(kG hG hk' (by simp)).ok
    rw[hk'] at h3
    have hu:P.underlying xt=some (.pointer e):=by cases d <;> simp_all [kOk]
    exact mR x y (vO hu (some _)) (by cases op <;> rfl) rfl rfl hk.2
   ·exact hk.elim
  ·split at hk
   ·rename_i e hk'
    obtain⟨h1,h2,h3⟩:=hk
    cases hb
    rcases pL h.rel ha h1 with ⟨_,_,_,rfl⟩ | ⟨b,cap,N,hm,rfl,_⟩
    ·omega
    ·exact mR x y (oG (cV hG hk') (some _) _ _) (by cases op <;> rfl) rfl rfl h3
   ·exact hk.elim
  ·split at hk
   ·split at hk
    ·rename_i hk'
     cases ha;cases hb
     obtain⟨d,f,h1,_,h3,_⟩:=(kG hG hk' (by simp)).ok
     rw[hk'] at h3
     have hu:∃ ms,P.underlying xt=some (.interface ms):=by cases d <;> simp_all [kOk]
     obtain⟨ms,hu⟩:=hu
     have heq:(Op.equal xt .nilIface .nilIface).run P w=.ok true w:=by
      obtain⟨d,hd⟩:=qI
      simp[hd,Op.equalIn,underlying,hu]
     exact mR x (.const _) heq (by cases op <;> simp[eqGuard]) rfl rfl hk
    ·exact hk.elim
   ·exact hk.elim
  ·exact binW_ok hG x y ha hb hk
 case unOp op xt x=>
  obtain⟨p,hp,hk⟩:=bP h hk
  revert hp;generalize he:a.eval x=vx;intro hp
  split at hk
  ·cases hp;exact⟨_,_,by simp[execOp,he,Op.unary],.bool _,hk⟩
  ·rename_i kd n _
   cases hp
   refine⟨.int kd (kd.wrap (0 - n)),_,?_,?_,hk.2⟩
   ·rw[show execOp a.eval ⟨dst,.unOp .neg xt x,rty,pos,after,guard⟩=(do pure (.value (← Op.unary .neg (a.eval x)))) from rfl,he]
    rfl
   ·rw[qW (kC hk.1)];exact .int _ _ (kC hk.1)
  ·exact hk.elim
 case build t parts=>
  split at hk
  ·rename_i fs hk'
   obtain⟨hall,hk⟩:=hk
   obtain⟨ps,hl,hr,hk⟩:=uC h hk
   obtain⟨gs,hu,he⟩:=oR hG hk'
   obtain⟨z,hz,hzl,_,hzr⟩:=qQ hG (t:=t) (by simp[hk']) w
   have hp:∀ (l:List Field),(∀ x∈l.map (fun f=>(f.offset,f.type)),(aH G x.2).size≠0)→(l.mapM (m:=Sem) (fun f=>do pure (f.offset,← sizeOf f.type))).run P w=.ok (l.map fun f=>(f.offset,(aH G f.type).size)) w:=by
    intro l
    induction l with
    | nil=>intro _;simp
    | cons f l ih=>
     intro hh
     have h1:=bJ hG (t:=f.type) (bY hG (hh (f.offset,f.type) (by simp))) w
     have h2:=ih (fun x hx=>hh x (by simp only[List.map_cons,List.mem_cons];exact .inr hx))
     simp only[List.mapM_cons,Sem.run_bind,h1,Result.andThen_ok,Sem.run_pure,h2,List.map_cons]
   have hp':=hp gs.toList (by rw[he];intro x hx;simpa using List.all_eq_true.1 hall x hx)
   have hfill:=wZ h.rel (w:=w) (fr:=fr) (m:=m) (ρ:=a.eval) (place:=fun i=>(fs[i]?).map fun f=>(f.1,(aH G f.2).size)) parts.toList ps z.cells (aH G t).zero (by simpa using hl) (fun i h1 h2=>by have:=hr i (by simpa using h1) h2;rw[List.getElem_map] at this;exact this) ⟨by simpa using hzl,fun i h1 h2=>by have:=hzr fr m i (by simpa using h1) h2;rw[Array.getElem_toList] at this;exact this⟩ hk
   obtain⟨a',l',h1,h2,h3⟩:=hfill
   refine⟨.agg a',.agg l',?_,.agg _ _ h2.1 h2.2,h3⟩
   have hp2:(gs.mapM (m:=Sem) (fun f=>do pure (f.offset,← sizeOf f.type))).run P w=.ok (gs.map fun f=>(f.offset,(aH G f.type).size)) w:=by
    rw[Array.mapM_eq_mapM_toList]
    simp only[Sem.run_map,hp',Result.andThen_ok]
    congr 1
    apply Array.ext'
    simp
   have hplace:(fun (x:Nat)=>(gs.map fun f=>(f.offset,(aH G f.type).size))[x]?)=(fun (i:Nat)=>(fs[i]?).map fun (f:Nat × Nat)=>(f.1,(aH G f.2).size)):=by
    funext i
    subst he
    simp[Option.map_map]
    rfl
   simp only[execOp,Instr.build,Sem.run_bind,hz,Result.andThen_ok,underlying,run_program,hu,Sem.run_pure,hp2]
   rw[hplace,Array.toList_map,h1]
   rfl
  ·rename_i n e hk'
   obtain⟨hall,hk⟩:=hk
   obtain⟨ps,hl,hr,hk⟩:=uC h hk
   have hu:=und_arr hG hk'
   obtain⟨z,hz,hzl,_,hzr⟩:=qQ hG (t:=t) (by simp[hk']) w
   have hfill:=wZ h.rel (w:=w) (fr:=fr) (m:=m) (ρ:=a.eval) (place:=fun i=>some (i*(aH G e).size,(aH G e).size)) parts.toList ps z.cells (aH G t).zero (by simpa using hl) (fun i h1 h2=>by have:=hr i (by simpa using h1) h2;rw[List.getElem_map] at this;exact this) ⟨by simpa using hzl,fun i h1 h2=>by have:=hzr fr m i (by simpa using h1) h2;rw[Array.getElem_toList] at this;exact this⟩ hk
   obtain⟨a',l',h1,h2,h3⟩:=hfill
   refine⟨.agg a',.agg l',?_,.agg _ _ h2.1 h2.2,h3⟩
   simp only[execOp,Instr.build,Sem.run_bind,hz,Result.andThen_ok,underlying,run_program,hu,Sem.run_pure,bJ hG (bY hG hall)]
   rw[Array.toList_map,h1]
   rfl
  ·exact hk.elim
 case load t x=>
  obtain⟨p,hp,hk⟩:=bP h hk
  refine wrap (x:=Instr.loadAt t (a.eval x)) ?_ rfl
  revert hp;generalize a.eval x=vx;intro hp
  split at hk
  ·obtain⟨b,o,rfl,hf,hc⟩:=rep_fptr hp
   obtain⟨v,p,h1,h2,h3⟩:=load_ok hG hc hk
   exact⟨v,p,by simp[Instr.loadAt,Instr.sureAddr,h1],h2,h3⟩
  ·obtain⟨b,rfl,hm⟩:=pU h.rel hp (ld_live hk)
   obtain⟨c,_,hc,hk⟩:=ld_block h.rel (j:=0) hk hm
   obtain⟨v,p,h1,h2,h3⟩:=load_ok hG hc hk
   exact⟨v,p,by simp[Instr.loadAt,Instr.sureAddr,h1],h2,h3⟩
  ·exact hk.elim
 case convert src dst x=>
  split at hk
  ·rename_i ks kd h1 h2
   obtain⟨p,hp,hk⟩:=bP h hk
   refine wrap (x:=convert src dst (a.eval x)) ?_ rfl
   revert hp;generalize a.eval x=vx;intro hp
   split at hk
   ·cases hp
    exact⟨_,_,by simp[convert,underlying,wQ hG h1,wQ hG h2,Conv.intToInt,qW (kC hk.1)],.int _ _ (kC hk.1),hk.2⟩
   ·exact hk.elim
  ·exact hk.elim
 case makeInterface xt x=>
  have hx:(aH G xt).kind≠.iface∧(aH G xt).kind≠.other∧iP t x fun v=>k (.iface xt v):=by
   split at hk
   ·exact hk.elim
   ·exact hk.elim
   ·exact⟨by assumption,by assumption,hk⟩
  obtain⟨h1,h2,hk⟩:=hx
  obtain⟨p,hp,hk⟩:=bP h hk
  obtain⟨d,f,e1,_,e3,_⟩:=(kG hG rfl h2).ok
  refine⟨_,_,?_,.iface _ _ _ hp,hk⟩
  have hni:∀ ms,d≠.interface ms:=by
   rintro ms rfl
   revert e3 h1
   generalize (aH G xt).kind=kk
   intro h1 e3
   cases kk <;> simp_all [kOk]
  simp only[execOp,Instr.makeInterface,Sem.run_bind,underlying,run_program,Result.andThen_ok,e1,Sem.run_pure]
 case makeFunc fn first cap=>
  obtain⟨pa,ha,hk⟩:=yR h hk
  obtain⟨pc,hc,hk⟩:=yR h hk
  exact⟨_,_,by simp[execOp,Instr.makeFunc],.fn _ _ _ _ _ ha.1 hc.1 ha.2 hc.2,hk⟩
 case slice ty x lo hi mx=>
  cases mx with
  | some mx=>
   cases lo with
   | some lo=>simp only[nG] at hk
   | none=>
   cases hi with
   | none=>simp only[nG] at hk
   | some hi=>
   simp only[nG] at hk
   obtain⟨p,hp,hk⟩:=bP h hk
   obtain⟨ph,hph,hk⟩:=bP h hk
   obtain⟨pm,hpm,hk⟩:=bP h hk
   refine wrap (x:=Instr.sliceAt ty (a.eval x) none (some (a.eval hi)) (some (a.eval mx))) ?_ rfl
   split at hk
   ·split at hk
    ·rename_i el hk'
     obtain⟨hz,hc,rfl,hk⟩:=hk
     unfold zT at hk
     obtain⟨l,hh,e1,e2,e3,e4,hk2⟩:=bd_ok hk
     have hl0:l=0:=by simp at e1;omega
     subst hl0
     simp only[Option.getD_some] at e2
     subst e2
     revert hph hpm;generalize a.eval hi=vh;generalize a.eval mx=vm;intro hph hpm
     cases hph;cases hpm
     exact slice3_list hG hp hk' hz hc e4 (by simpa using hk2)
    ·exact hk.elim
   ·exact hk.elim
  | none=>
   simp only[nG] at hk
   obtain⟨p,hp,hk⟩:=bP h hk
   obtain⟨ol,l1,l2,hk⟩:=optEv_ok h hk
   obtain⟨oh,r1,r2,hk⟩:=optEv_ok h hk
   refine wrap (x:=Instr.sliceAt ty (a.eval x) (lo.map a.eval) (hi.map a.eval) none) ?_ rfl
   split at hk
   ·split at hk
    ·rename_i hk'
     obtain⟨l,hh,e1,e2,e3,e4,hk⟩:=bd_ok hk
     exact slice_str hG hp hk' e1 e2 e3 e4 l1 l2 r1 r2 hk
    ·exact hk.elim
   ·split at hk
    ·rename_i el hk'
     obtain⟨hz,hc,hk⟩:=hk
     unfold zT at hk
     obtain⟨l,hh,e1,e2,e3,e4,hk⟩:=bd_ok hk
     exact slice_list hG hp hk' hz hc e1 e2 e3 e4 l1 l2 r1 r2 hk
    ·exact hk.elim
   ·split at hk
    ·rename_i el hk'
     obtain⟨l,hh,e1,e2,e3,e4,hk⟩:=bd_ok hk
     have hl0:l=0:=by omega
     have hh0:hh=0:=by omega
     subst hl0;subst hh0
     revert hp;generalize a.eval x=vx;intro hp
     cases hp
     have hb:=oL (P:=P) (w:=w) true e1 e2 e3 e4 (Nat.le_refl 0) l1 l2 r1 r2
     have hu:=cV hG hk'
     refine⟨.slice none 0 0,_,?_,.nils,hk.2⟩
     simp[Instr.sliceAt,underlying,hu,Instr.slice,hb,bJ hG (bY hG hk.1)]
    ·exact hk.elim
   ·split at hk
    ·rename_i el hk'
     obtain⟨hl,hs,hz,hk⟩:=hk
     obtain⟨l,hh,e1,e2,e3,e4,h5,hk⟩:=bd_ok hk
     exact slice_row hG h.rel hp hk' hl hs hz e1 e2 e3 e4 l1 l2 r1 r2 h5 hk
    ·exact hk.elim
   ·exact hk.elim
 case fieldAddr s x f=>
  split at hk
  ·rename_i fs hk'
   split at hk
   ·rename_i off ft hf
    obtain⟨hz,hk⟩:=hk
    obtain⟨p,hp,hk⟩:=bP h hk
    refine wrap (x:=Instr.fieldAt s (a.eval x) f) ?_ rfl
    revert hp;generalize a.eval x=vx;intro hp
    split at hk
    ·obtain⟨b,o,rfl,hfr,hc⟩:=rep_fptr hp
     obtain⟨vals,hv,hr⟩:=hc
     exact⟨_,_,field_ok hG hk' hf hz,by rw[Nat.add_assoc];exact .fptr b o _ _ vals hfr hv hr,hk⟩
    ·obtain⟨b,rfl,hm⟩:=pU h.rel hp hk.1
     exact⟨_,_,field_ok hG hk' hf hz,.ptr _ _ _ _ _ _ ⟨_,some b,hm,Nat.le_refl _,fun _=>⟨b,rfl,by rw[Nat.add_assoc]⟩⟩,hk.2⟩
    ·exact hk.elim
   ·exact hk.elim
  ·exact hk.elim
 case field s x f=>
  split at hk
  ·rename_i fs hk'
   split at hk
   ·rename_i off ft hf
    obtain⟨p,hp,hk⟩:=bP h hk
    refine wrap (x:=Instr.field s (a.eval x) f) ?_ rfl
    revert hp;generalize a.eval x=vx;intro hp
    split at hk
    ·cases hp with
     | agg cs ps hl hr=>
      obtain⟨gs,hu,he⟩:=oR hG hk'
      subst he
      simp only[List.getElem?_map,Option.map_eq_some_iff] at hf
      obtain⟨fd,h1,h2⟩:=hf
      cases h2
      have h3:gs[f]?=some fd:=by simpa using h1
      obtain⟨v,p,e1,e2,e3⟩:=part_ok hG ⟨hl,hr⟩ hk
      exact⟨v,p,by simp[Instr.field,underlying,hu,h3,asAgg,e1],e2,e3⟩
    ·exact hk.elim
   ·exact hk.elim
  ·exact hk.elim
 case indexAddr ty x i=>
  obtain⟨p,hp,hk⟩:=bP h hk
  obtain⟨q,hq,hk⟩:=bP h hk
  refine wrap (x:=Instr.indexAt ty (a.eval x) (a.eval i)) ?_ rfl
  revert hp hq;generalize a.eval x=vx;generalize a.eval i=vi;intro hp hq
  split at hk
  ·split at hk
   ·rename_i e hk'
    cases hq
    exact idx_list hG hp hk' hk
   ·exact hk.elim
  ·split at hk
   ·rename_i e hk'
    obtain⟨h1,h2,h3,j,rfl,h4,h5⟩:=hk
    cases hq
    exact idx_row hG h.rel hp hk' h1 h2 h3 h4 h5
   ·exact hk.elim
  ·split at hk
   ·rename_i ln e hk'
    obtain⟨h1,h2,h3,h4,h5⟩:=hk
    cases hq
    exact idx_arr hG h.rel hp hk' h1 h2 h3 h4 h5
   ·exact hk.elim
  ·exact hk.elim
 case index ty x i=>
  obtain⟨p,hp,hk⟩:=bP h hk
  obtain⟨q,hq,hk⟩:=bP h hk
  refine wrap (x:=Instr.index ty (a.eval x) (a.eval i)) ?_ rfl
  revert hp hq;generalize a.eval x=vx;generalize a.eval i=vi;intro hp hq
  split at hk
  ·split at hk
   ·rename_i hk'
    obtain⟨h0,b,hb,hk⟩:=hk
    cases hq
    exact idx_str hG hp hk' h0 hb hk
   ·exact hk.elim
  ·split at hk
   ·rename_i ln e hk'
    obtain⟨h0,h1,hk⟩:=hk
    cases hq
    cases hp with
    | agg cs ps hl hr=>
     have hn:(aH G e).kind≠.other:=(sY hk).1
     obtain⟨v,p,e1,e2,e3⟩:=part_ok hG ⟨hl,hr⟩ hk
     exact⟨v,p,by simp[Instr.index,asIntOf,underlying,und_arr hG hk',h0,h1,bJ hG hn,e1],e2,e3⟩
   ·exact hk.elim
  ·exact hk.elim
 case lookup xt x ix ok=>
  split at hk
  ·rename_i kt et hk'
   obtain⟨p,hp,hk⟩:=bP h hk
   obtain⟨q,hq,hk⟩:=bP h hk
   obtain⟨key,he,ht,hk⟩:=key_ok hq hk
   refine wrap (x:=Instr.lookup xt (a.eval x) (a.eval ix) ok) ?_ rfl
   rw[he]
   revert hp;generalize a.eval x=vx;intro hp
   split at hk
   ·exact lookup_ok hG h.rel hk' hp ht hk
   ·cases hp;exact lookup_nil hG hk' ht hk
   ·exact hk.elim
  ·exact hk.elim
 case typeAssert x xt asg ok=>
  have hx:(aH G asg).kind≠.iface∧(aH G asg).kind≠.other∧iP t x fun v=>match v with
   | .iface u p=>if u=asg then k (if ok then .tup [p,.bool true] else p) else ok=true∧sK G asg fun z=>k (.tup [z,.bool false])
   | .nili=>ok=true∧sK G asg fun z=>k (.tup [z,.bool false])
   | _=>False:=by
   split at hk
   ·exact hk.elim
   ·exact hk.elim
   ·exact⟨by assumption,by assumption,hk⟩
  clear hk
  obtain⟨h1,h2,hk0⟩:=hx
  obtain⟨p,hp,hk⟩:=bP h hk0
  clear hk0
  obtain⟨d,f,e1,_,e3,_⟩:=(kG hG rfl h2).ok
  have hni:∀ ms,d≠.interface ms:=by
   rintro ms rfl
   revert e3 h1
   generalize (aH G asg).kind=kk
   intro h1 e3
   cases kk <;> simp_all [kOk]
  refine wrap (x:=Instr.typeAssert (a.eval x) xt asg ok) ?_ rfl
  revert hp;generalize a.eval x=vx;intro hp
  have tupR:∀ {v:Value} {p:PV} {b:Bool},Rep w fr m v p→Rep w fr m (.tuple #[v,.bool b]) (.tup [p,.bool b]):=fun hr=>.tup _ _ rfl fun i i1 i2=>by
   match i,i1,i2 with
   | 0,_,_=>exact hr
   | 1,_,_=>exact .bool _
  split at hk
  ·cases hp with
   | iface u v p hr=>
    split at hk
    ·rename_i e;subst e
     refine⟨if ok then .tuple #[v,.bool true] else v,_,?_,?_,hk⟩
     ·simp only[Instr.typeAssert,Sem.run_bind,underlying,run_program,Result.andThen_ok,e1,Sem.run_pure]
      cases d <;> first | exact absurd rfl (hni _) | simp
     ·cases ok
      ·exact hr
      ·exact tupR hr
    ·rename_i hne
     obtain⟨rfl,hk⟩:=hk
     obtain⟨z,p,hz,hzr,hzk⟩:=xH (w:=w) (fr:=fr) (m:=m) hG hk
     refine⟨.tuple #[z,.bool false],_,?_,tupR hzr,hzk⟩
     simp only[Instr.typeAssert,Sem.run_bind,underlying,run_program,Result.andThen_ok,e1,Sem.run_pure]
     cases d <;> first | exact absurd rfl (hni _) | simp[hne,hz]
  ·cases hp
   obtain⟨rfl,hk⟩:=hk
   obtain⟨z,p,hz,hzr,hzk⟩:=xH (w:=w) (fr:=fr) (m:=m) hG hk
   refine⟨.tuple #[z,.bool false],_,?_,tupR hzr,hzk⟩
   simp only[Instr.typeAssert,Sem.run_bind,underlying,run_program,Result.andThen_ok,e1,Sem.run_pure]
   cases d <;> first | exact absurd rfl (hni _) | simp[hz]
  ·exact hk.elim
 case extract x ix=>
  obtain⟨p,hp,hk⟩:=bP h hk
  refine wrap (x:=Instr.extract (a.eval x) ix) ?_ rfl
  revert hp;generalize a.eval x=vx;intro hp
  split at hk
  ·cases hp with
   | tup cs ps hl hr=>
    obtain⟨h1,h2⟩:=getC_ok hk
    exact⟨cs[ix],_,by simp[Instr.extract,Array.getElem?_eq_getElem (show ix<cs.size by omega)],hr ix (by omega) h1,h2⟩
  ·exact hk.elim
 case call c=>
  obtain⟨callee,args,argTypes⟩:=c
  cases callee with
  | value f=>simp only[nG] at hk
  | invoke r nm=>simp only[nG] at hk
  | builtin b=>
   cases b <;> simp only[nG] at hk
   case max=>
    split at hk
    ·rename_i x y h1
     obtain⟨p,hp,hk⟩:=bP h hk
     obtain⟨q,hq,hk⟩:=bP h hk
     have e1:args=#[x,y]:=by apply Array.ext';simpa using h1
     subst e1
     cases p with
     | int kd n=>
      cases q with
      | int kd' n'=>
       obtain⟨rfl,hk⟩:=hk
       have hx:a.eval x=.int kd n∧kd.has n:=by
        generalize a.eval x=vx at hp
        cases hp with
        | int _ _ b1=>exact⟨rfl,b1⟩
       have hy:a.eval y=.int kd n'∧kd.has n':=by
        generalize a.eval y=vy at hq
        cases hq with
        | int _ _ b1=>exact⟨rfl,b1⟩
       have e3:(if n' > n then n' else n)=max n n':=by split <;> omega
       refine⟨.int kd (max n n'),_,?_,.int _ _ ?_,hk⟩
       ·have:(Builtin.max_ #[] rty #[a.eval x,a.eval y]).run P w=.ok (.int kd (max n n')) w:=by
         rw[hx.1,hy.1,← e3];rfl
        simp only[execOp,resolve,List.map_toArray,List.map_cons,List.map_nil,Sem.run_bind,Sem.run_pure,Result.andThen_ok,invoke,builtin]
        rw[show (Builtin.max_ argTypes rty #[a.eval x,a.eval y])=(Builtin.max_ #[] rty #[a.eval x,a.eval y]) from rfl,this]
        rfl
       ·rw[← e3];split
        ·exact hy.2
        ·exact hx.2
      | _=>exact hk.elim
     | _=>exact hk.elim
    ·exact hk.elim
   split at hk
   ·rename_i x ty h1 h2
    obtain⟨p,hp,hk⟩:=bP h hk
    have e1:args=#[x]:=by apply Array.ext';simpa using h1
    have e2:argTypes=#[ty]:=by apply Array.ext';simpa using h2
    subst e1;subst e2
    obtain⟨v,q,h3,h4,h5⟩:=len_ok hG h.rel (ty':=rty) hp hk
    refine⟨v,q,?_,h4,h5⟩
    simp only[execOp,resolve,List.map_toArray,List.map_cons,List.map_nil,Sem.run_bind,Sem.run_pure,Result.andThen_ok,invoke,builtin,h3]
   ·exact hk.elim
end
section
def aK (S:aD) (g:Nat) (x:AO):aD:=fun h=>if h=g then some x else S h
def eY (m:aQ) (g:Nat) (x:Nat × Option Nat):aQ:=fun h=>if h=g then some x else m h
@[simp] theorem aA (S:aD) (g:Nat) (x:AO):aK S g x g=some x:=by simp[aK]
theorem aC {S:aD} {g h:Nat} {x:AO} (hne:h≠g):aK S g x h=S h:=by simp[aK,hne]
@[simp] theorem cU (m:aQ) (g:Nat) (x:Nat × Option Nat):eY m g x g=some x:=by simp[eY]
theorem gM {m:aQ} {g h:Nat} {x:Nat × Option Nat} (hne:h≠g):eY m g x h=m h:=by simp[eY,hne]
variable {P:Program} {G:List TI} {w w':World} {fr:Nat→Prop} {m:aQ} {S:aD}
theorem nU (r:RelS w fr m S) {g:Nat} {x':AO} {ob':Option Nat} (hsz:w.heap.size≤w'.heap.size)
  (hold:∀ b,b<w.heap.size→(∀ v,m g≠some (v,some b))→w'.heap[b]?=w.heap[b]?)
  (hshape:∀ b N,(w.shape? b).map (·.2)=some N→(w'.shape? b).map (·.2)=some N)
  (hm:∀ v ob,m g=some (v,ob)→(S g).isSome=true∧v≤x'.ver∧(x'.ver=v→ob'=ob))
  (hb:∀ b,ob'=some b→(∃ v,m g=some (v,some b))∨w.heap.size≤b)
  (hobj:ObjAt w' fr (eY m g (x'.ver,ob')) x' ob')
  (hio:w'.os=w.os∧w'.output=w.output:=by first | exact⟨rfl,rfl⟩ | exact io_setCells _ _ _ _) :
  RelS w' fr (eY m g (x'.ver,ob')) (aK S g x')∧bZ w fr m S w' fr (eY m g (x'.ver,ob')) (aK S g x'):=by
 have hnam:Nle m (eY m g (x'.ver,ob')):=by
  intro h v b e
  by_cases hh:h=g
  ·subst hh
   obtain⟨_,h2,h3⟩:=hm v b e
   exact⟨_,_,cU _ _ _,h2,h3⟩
  ·exact⟨v,b,by rw[gM hh];exact e,Nat.le_refl _,fun _=>rfl⟩
 have hgown:∀ b v,m g=some (v,some b)→Own m S b:=by
  intro b v e
  obtain⟨x,hx⟩:=Option.isSome_iff_exists.1 (hm v _ e).1
  exact⟨g,x,v,hx,e⟩
 have hk:iT w fr m w' fr (eY m g (x'.ver,ob')):=by
  refine⟨fun _ h=>h,fun b hb'=>hold b (r.frz b hb') ?_,hshape,hnam⟩
  intro v e
  exact r.apart b hb' (hgown b v e)

 have hne:∀ h x v b,h≠g→S h=some x→m h=some (v,some b)→∀ v',m g≠some (v',some b):=by
  intro h x v b hh hx hmh v' e
  obtain⟨y,hy⟩:=Option.isSome_iff_exists.1 (hm v' _ e).1
  exact hh (r.inj h g x y v v' b hx hy hmh e)
 have hlt:∀ h x v b,S h=some x→m h=some (v,some b)→b<w.heap.size:=fun h x v b hx hmh=>r.lt ⟨h,x,v,hx,hmh⟩
 have hrel:RelS w' fr (eY m g (x'.ver,ob')) (aK S g x'):=by
  refine⟨?_,?_,?_,fun b hb'=>Nat.lt_of_lt_of_le (r.frz b hb') hsz,?_⟩
  ·intro h x hx
   by_cases hh:h=g
   ·subst hh
    simp only[aA,Option.some.injEq] at hx
    subst hx
    exact⟨ob',cU _ _ _,hobj⟩
   ·rw[aC hh] at hx
    obtain⟨ob,h1,h2⟩:=r.obj h x hx
    refine⟨ob,by rw[gM hh];exact h1,?_⟩
    cases ob with
    | none=>exact h2
    | some b=>
     obtain⟨o,ho,hr⟩:=h2
     exact⟨o,(hold b (hlt h x _ b hx h1) (hne h x _ b hh hx h1)).trans ho,hr.keep hk⟩
  ·rintro b hb' ⟨h,x,v,hx,hmh⟩
   by_cases hh:h=g
   ·subst hh
    simp only[cU,Option.some.injEq,Prod.mk.injEq] at hmh
    rcases hb b hmh.2 with ⟨v',e⟩ | h1
    ·exact r.apart b hb' (hgown b v' e)
    ·have:=r.frz b hb';omega
   ·rw[aC hh] at hx
    rw[gM hh] at hmh
    exact r.apart b hb' ⟨h,x,v,hx,hmh⟩
  ·have key:∀ h x v b,h≠g→S h=some x→m h=some (v,some b)→ob'≠some b:=by
    intro h x v b hh hx hmh e
    rcases hb b e with ⟨v',e'⟩ | h1
    ·exact hne h x v b hh hx hmh v' e'
    ·have:=hlt h x v b hx hmh;omega
   intro h h' x y v v' b hx hy hmh hmh'
   by_cases hh:h=g
   ·by_cases hh':h'=g
    ·rw[hh,hh']
    ·subst hh
     simp only[cU,Option.some.injEq,Prod.mk.injEq] at hmh
     rw[aC hh'] at hy
     rw[gM hh'] at hmh'
     exact absurd hmh.2 (key h' y v' b hh' hy hmh')
   ·by_cases hh':h'=g
    ·subst hh'
     simp only[cU,Option.some.injEq,Prod.mk.injEq] at hmh'
     rw[aC hh] at hx
     rw[gM hh] at hmh
     exact absurd hmh'.2 (key h x v b hh hx hmh)
    ·rw[aC hh] at hx
     rw[gM hh] at hmh
     rw[aC hh'] at hy
     rw[gM hh'] at hmh'
     exact r.inj h h' x y v v' b hx hy hmh hmh'
  ·obtain⟨n,hn⟩:=r.bnd
   refine⟨max n (g+1),fun h hh=>?_⟩
   rw[gM (by omega)]
   exact hn h (by omega)
 refine⟨hrel,hsz,fun _ h=>h,fun _ h=>.inl h,?_,?_,?_,hshape,hnam,?_,hio⟩
 ·rintro b ⟨h,x,v,hx,hmh⟩
  by_cases hh:h=g
  ·subst hh
   simp only[cU,Option.some.injEq,Prod.mk.injEq] at hmh
   rcases hb b hmh.2 with ⟨v',e⟩ | h1
   ·exact .inl (hgown b v' e)
   ·exact .inr h1
  ·rw[aC hh] at hx
   rw[gM hh] at hmh
   exact .inl ⟨h,x,v,hx,hmh⟩
 ·intro h hh
  by_cases hg:h=g
  ·subst hg
   cases e:m h with
   | none=>exact .inr rfl
   | some y=>exact .inl (hm y.1 y.2 e).1
  ·rw[aC hg] at hh;exact .inl hh
 ·intro b hb' ho
  refine hold b hb' fun v e=>ho (hgown b v e)
 ·intro h hh hS
  by_cases hg:h=g
  ·subst hg
   obtain⟨y,hy⟩:=Option.isSome_iff_exists.1 hh
   have:=(hm y.1 y.2 hy).1
   rw[hS] at this;cases this
  ·exact gM hg
theorem pD (r:RelS w fr m S):∃ g,m g=none∧S g=none:=by
 obtain⟨n,hn⟩:=r.bnd
 refine⟨n,hn n (Nat.le_refl _),?_⟩
 cases h:S n with
 | none=>rfl
 | some x=>obtain⟨ob,h1,_⟩:=r.obj n x h;rw[hn n (Nat.le_refl _)] at h1;cases h1
theorem kQ (w:World) (o:Obj) (b N:Nat) (h:(w.shape? b).map (·.2)=some N):(({ w with heap:=w.heap.push o }:World).shape? b).map (·.2)=some N:=by
 unfold World.shape? at h ⊢
 have hb:b<w.heap.size:=by
  rcases Nat.lt_or_ge b w.heap.size with h1 | h1
  ·exact h1
  ·rw[Array.getElem?_eq_none h1] at h;simp at h
 rw[show ({ w with heap:=w.heap.push o }:World).heap[b]?=w.heap[b]? from by simp[Array.getElem?_push,Nat.ne_of_lt hb]]
 exact h
theorem nD (w:World) (o:Obj) (b:Nat) (hb:b<w.heap.size):({ w with heap:=w.heap.push o }:World).heap[b]?=w.heap[b]?:=by
 simp[Array.getElem?_push,Nat.ne_of_lt hb]
theorem push_ok (r:RelS w fr m S) {g:Nat} {x':AO} {o:Obj} (hm:m g=none) (hobj:∀ m',Nle m m'→ObjR { w with heap:=w.heap.push o } fr m' o x') :
  RelS { w with heap:=w.heap.push o } fr (eY m g (x'.ver,some w.heap.size)) (aK S g x')∧bZ w fr m S { w with heap:=w.heap.push o } fr (eY m g (x'.ver,some w.heap.size)) (aK S g x'):=by
 refine nU r (by simp) (fun b hb _=>nD w o b hb) (kQ w o) (fun v ob e=>by rw[hm] at e;cases e) (fun b e=>by cases e;exact .inr (Nat.le_refl _)) ?_
 refine⟨o,by simp,hobj _ ?_⟩
 intro h v b e
 by_cases hh:h=g
 ·subst hh;rw[hm] at e;cases e
 ·exact⟨v,b,by rw[gM hh];exact e,Nat.le_refl _,fun _=>rfl⟩
theorem oK (r:RelS w fr m S) (o:Obj) {m':aQ} (h:Nle m m'):iT w fr m { w with heap:=w.heap.push o } fr m':=
 ⟨fun _ h=>h,fun b hb=>nD w o b (r.frz b hb),kQ w o,h⟩
def jD (S S1 S':aD):aD:=fun g=>match S' g with
 | some x=>some x
 | none=>if (S1 g).isSome then none else S g
theorem cW (S S':aD):jD S S S'=S':=by
 funext g
 simp only[jD]
 cases h1:S' g <;> cases h2:S g <;> simp
theorem sZ {fr':Nat→Prop} {m':aQ} {S1 S':aD} (r:RelS w fr m S) (hs:bV S S1) (r':RelS w' fr' m' S') (st:bZ w fr m S1 w' fr' m' S') :
  RelS w' fr' m' (jD S S1 S')∧bZ w fr m S w' fr' m' (jD S S1 S')∧∀ g,(S' g).isSome=true→(S1 g).isSome=true∨S g=none:=by
 have hsub:∀ b,Own m S1 b→Own m S b:=fun b ⟨g,x,v,h1,h2⟩=>⟨g,x,v,hs g x h1,h2⟩
 have hget:∀ g x,jD S S1 S' g=some x→(S' g=some x)∨(S' g=none∧S1 g=none∧S g=some x):=by
  intro g x h
  simp only[jD] at h
  cases e:S' g with
  | some y=>rw[e] at h;exact .inl h
  | none=>
   rw[e] at h
   dsimp only at h
   cases e1:S1 g with
   | some z=>rw[e1] at h;simp at h
   | none=>rw[e1] at h;exact .inr ⟨rfl,rfl,by simpa using h⟩
 have hk:=st.keep (r.weak hs)

 have hrest:∀ g x,S1 g=none→S g=some x→∃ ob,m g=some (x.ver,ob)∧m' g=some (x.ver,ob):=by
  intro g x h1 h2
  obtain⟨ob,e,_⟩:=r.obj g x h2
  exact⟨ob,e,(st.out g (by rw[e];rfl) h1).trans e⟩
 have hnot:∀ g x v b,S1 g=none→S g=some x→m g=some (v,some b)→¬ Own m S1 b:=by
  rintro g x v b h1 h2 h3 ⟨g1,x1,v1,h4,h5⟩
  have:=r.inj g g1 x x1 v v1 b h2 (hs g1 x1 h4) h3 h5
  subst this
  rw[h1] at h4;cases h4
 have hlt:∀ h x v b,S h=some x→m h=some (v,some b)→b<w.heap.size:=fun h x v b hx hmh=>r.lt ⟨h,x,v,hx,hmh⟩
 refine⟨⟨?_,?_,?_,r'.frz,r'.bnd⟩,?_,?_⟩
 ·intro g x hx
  rcases hget g x hx with h1 | ⟨h1,h2,h3⟩
  ·exact r'.obj g x h1
  ·obtain⟨ob,e1,e2⟩:=hrest g x h2 h3
   refine⟨ob,e2,?_⟩
   obtain⟨ob',e3,h4⟩:=r.obj g x h3
   rw[e1] at e3;cases e3
   cases ob with
   | none=>exact h4
   | some b=>
    obtain⟨o,ho,hr⟩:=h4
    exact⟨o,(st.same b (hlt g x _ b h3 e1) (hnot g x _ b h2 h3 e1)).trans ho,hr.keep hk⟩
 ·rintro b hb ⟨g,x,v,hx,hm⟩
  rcases hget g x hx with h1 | ⟨h1,h2,h3⟩
  ·exact r'.apart b hb ⟨g,x,v,h1,hm⟩
  ·obtain⟨ob,e1,e2⟩:=hrest g x h2 h3
   rw[e2] at hm;cases hm
   rcases st.frn b hb with h4 | h4 | h4
   ·exact r.apart b h4 ⟨g,x,_,h3,e1⟩
   ·exact hnot g x _ b h2 h3 e1 h4
   ·have:=hlt g x _ b h3 e1;omega
 ·have key:∀ g x v b,S1 g=none→S g=some x→m g=some (v,some b)→¬ Own m' S' b:=by
   intro g x v b h1 h2 h3 h4
   rcases st.own b h4 with h5 | h5
   ·exact hnot g x v b h1 h2 h3 h5
   ·have:=hlt g x v b h2 h3;omega
  intro g g' x x' v v' b hx hx' hm hm'
  rcases hget g x hx with h1 | ⟨h1,h2,h3⟩
  ·rcases hget g' x' hx' with k1 | ⟨k1,k2,k3⟩
   ·exact r'.inj g g' x x' v v' b h1 k1 hm hm'
   ·obtain⟨ob,e1,e2⟩:=hrest g' x' k2 k3
    rw[e2] at hm';cases hm'
    exact absurd ⟨g,x,v,h1,hm⟩ (key g' x' _ b k2 k3 e1)
  ·obtain⟨ob,e1,e2⟩:=hrest g x h2 h3
   rw[e2] at hm;cases hm
   rcases hget g' x' hx' with k1 | ⟨k1,k2,k3⟩
   ·exact absurd ⟨g',x',v',k1,hm'⟩ (key g x _ b h2 h3 e1)
   ·obtain⟨ob',e1',e2'⟩:=hrest g' x' k2 k3
    rw[e2'] at hm';cases hm'
    exact r.inj g g' x x' _ _ b h3 k3 e1 e1'
 ·refine⟨st.size,st.up,fun b hb=>?_,?_,?_,fun b hb ho=>st.same b hb fun h=>ho (hsub b h),st.shape,st.nam,fun g hg hS=>st.out g hg ?_,st.io⟩
  ·rcases st.frn b hb with h | h | h
   ·exact .inl h
   ·exact .inr (.inl (hsub b h))
   ·exact .inr (.inr h)
  ·rintro b ⟨g,x,v,hx,hm⟩
   rcases hget g x hx with h1 | ⟨h1,h2,h3⟩
   ·rcases st.own b ⟨g,x,v,h1,hm⟩ with h | h
    ·exact .inl (hsub b h)
    ·exact .inr h
   ·obtain⟨ob,e1,e2⟩:=hrest g x h2 h3
    rw[e2] at hm;cases hm
    exact .inl ⟨g,x,_,h3,e1⟩
  ·intro g hg
   obtain⟨x,hx⟩:=Option.isSome_iff_exists.1 hg
   rcases hget g x hx with h1 | ⟨h1,h2,h3⟩
   ·rcases st.dom g (by rw[h1];rfl) with h | h
    ·obtain⟨y,hy⟩:=Option.isSome_iff_exists.1 h
     exact .inl (by rw[hs g y hy];rfl)
    ·exact .inr h
   ·exact .inl (by rw[h3];rfl)
  ·cases e:S1 g with
   | none=>rfl
   | some y=>rw[hs g y e] at hS;cases hS
 ·intro g hg
  rcases st.dom g hg with h | h
  ·exact .inl h
  ·refine .inr ?_
   cases e:S g with
   | none=>rfl
   | some x=>obtain⟨ob,e1,_⟩:=r.obj g x e;rw[h] at e1;cases e1
end
def dS (S:aD):List PV→Prop
 | []=>True
 | x::l=>lH S x∧dS S l
def rE (S:aD):PV→(List PV→Prop)→Prop
 | .agg cs,k=>k cs
 | v,k=>lH S v∧k [v]
@[irreducible] def stW (S:aD) (g ver i j sz:Nat) (c:List PV) (k:aD→Prop):Prop:=
 ∃ e xs old,S g=some (.row ver sz e xs)∧xs[i]?=some old∧j+c.length≤old.length∧∀ new,lE old j c (fun l=>l=new)→k (aK S g (.row ver sz e (xs.set i new)))
def setLK:List (List PV)→Nat→List PV→(List (List PV)→Prop)→Prop
 | [],_,_,k=>k []
 | _::l,0,v,k=>k (v::l)
 | x::l,n+1,v,k=>setLK l n v fun l'=>k (x::l')
def repK {α:Type}:Nat→α→(List α→Prop)→Prop
 | 0,_,k=>k []
 | n+1,x,k=>repK n x fun l=>k (x::l)
def bsW (S:aD) (size:Nat):List (Nat × PV)→List (List PV)→(List (List PV)→Prop)→Prop
 | [],xs,k=>k xs
 | (i,v)::rest,xs,k=>rE S v fun c=>c.length=size∧i<xs.length∧setLK xs i c fun xs'=>bsW S size rest xs' k
@[irreducible] def srcW (S:aD) (v:PV) (k:List (List PV)→Prop):Prop:=
 match v with
 | .list _ xs=>k xs
 | .nils=>k []
 | .row g ver off len sz=>∃ e xs,S g=some (.row ver sz e xs)∧off+len≤xs.length∧k ((xs.drop off).take len)
 | _=>False
@[irreducible] def rowW (S:aD) (g ver sz:Nat) (k:Nat→List (List PV)→Prop):Prop:=∃ e xs,S g=some (.row ver sz e xs)∧k e xs
@[irreducible] def mapW (S:aD) (g:Nat) (str:Bool) (k:(MK→Option PV)→Prop):Prop:=∃ f,S g=some (.map str f)∧k f
def fD (f:MK→Option PV) (key:MK) (v:PV):MK→Option PV:=fun k=>if k=key then some v else f k
@[irreducible] def kJ (P:Program) (f:Nat) (args:List PV) (S:aD) (kr kp:PV→aD→Prop):Prop:=
 ∃ S1 R,Fn P f args S1 R∧bV S S1∧∀ o S',R o S'→(∀ g,(S' g).isSome=true→(S1 g).isSome=true∨S g=none) →
  match o with
  | .ret p=>kr p (jD S S1 S')
  | .pan p=>kp p (jD S S1 S')
def YFn (P:Program) (g:Nat) (args:List PV) (S:aD) (R:iY→aD→Prop):Prop:=
 (∃ st pd fn t ps asg bd d,S g=some (.loop st pd fn t ps asg bd d))∧∀ r w fr m vs l,RelS w fr m S→gD w fr m vs args→m g=some (0,some l)→∃ f tmps asg bd,(Instr.yield l vs).run P w=.ok (.round l f tmps asg bd) w ∧
  RoundIn (FR r) 0 P l f tmps asg bd w fun e w'=>∃ o S' fr' m',R o S'∧nQ w' fr' m' e o∧RelS w' fr' m' S'∧bZ w fr m S w' fr' m' S'
@[irreducible] def yldW (P:Program) (g:Nat) (args:List PV) (S:aD) (kr kp:PV→aD→Prop):Prop:=
 ∃ S1 R,YFn P g args S1 R∧bV S S1∧∀ o S',R o S'→(∀ g,(S' g).isSome=true→(S1 g).isSome=true∨S g=none) →
  match o with
  | .ret p=>kr p (jD S S1 S')
  | .pan p=>kp p (jD S S1 S')
@[irreducible] def rJ (S:aD) (x:AO) (k:Nat→aD→Prop):Prop:=∀ g,S g=none→k g (aK S g x)
def keyS (G:List TI) (t:Nat):Option Bool:=
 match (aH G t).kind with
 | .str=>some true
 | .int .i64=>some false
 | _=>none
def clrL (xs:List (List PV)) (off len:Nat) (z:List PV):List (List PV):=xs.take off++(List.replicate len z++xs.drop (off+len))
abbrev KT:=List PV→aD→List DA→Prop
def sA (G:List TI) (P:Program) (r:Option Nat) (o:Oper) (K:KT) (Q:bQ) (t:List PV) (S:aD) (D:List DA):Prop:=
 match o.op with
 | .store ty x v=>(aH G ty).size≠0∧iP t x fun p=>iP t v fun q=>match p with
  | .ptr g ver i j sz=>rE S q fun c=>c.length=(aH G ty).size∧dS S c∧stW S g ver i j sz c fun S'=>gX t o.dst .any fun t'=>K t' S' D
  | _=>False
 | .alloc ty=>(aH G ty).size≠0∧rJ S (.row 0 (aH G ty).size 0 [(aH G ty).zero]) fun g S'=>gX t o.dst (.ptr g 0 0 0 (aH G ty).size) fun t'=>K t' S' D
 | .box _ x=>iP t x fun v=>rE S v fun c=>rJ S (.row 0 c.length 0 [c]) fun g S'=>gX t o.dst (.ptr g 0 0 0 c.length) fun t'=>K t' S' D
 | .buildSlice ty n parts=>match (aH G ty).kind with
  | .slice e=>(aH G e).size≠0∧(Nat.ble (n*(aH G e).size) 16777216)=true∧(Nat.ble (n*(aH G e).bytes) cap47)=true ∧
   vB t (parts.toList.map (·.2)) fun vs=>repK n (aH G e).zero fun xs0=>bsW S (aH G e).size (zipL parts.toList vs) xs0 fun xs=>
    (gX t o.dst (.list (aH G e).bytes xs) fun t'=>K t' S D) ∨
    rJ S (.row 0 (aH G e).size (aH G e).bytes xs) fun g S'=>gX t o.dst (.row g 0 0 n (aH G e).size) fun t'=>K t' S' D
  | _=>False
 | .makeMap ty none=>match (aH G ty).kind with
  | .map kt _=>(match keyS G kt with
   | some b=>rJ S (.map b fun _=>none) fun g S'=>gX t o.dst (.map g) fun t'=>K t' S' D
   | none=>False)
  | _=>False
 | .makeSlice ty ln cp=>match (aH G ty).kind with
  | .slice e=>(aH G e).size≠0∧iP t ln fun a=>iP t cp fun b=>match a,b with
   | .int _ n,.int _ n'=>n=n'∧0≤n∧n.toNat*(aH G e).bytes≤cap47∧n≤4611686018427387904 ∧
    rJ S (.row 0 (aH G e).size (aH G e).bytes (List.replicate n.toNat (aH G e).zero)) fun g S'=>gX t o.dst (.row g 0 0 n.toNat (aH G e).size) fun t'=>K t' S' D
   | _,_=>False
  | _=>False
 | .mapUpdate ty mp k v=>match (aH G ty).kind with
  | .map kt _=>iP t mp fun a=>iP t k fun b=>iP t v fun c=>keyW b fun key=>zO G kt key∧match a with
   | .map g=>mapW S g key.isS fun f=>gX t o.dst .any fun t'=>K t' (aK S g (.map key.isS (fD f key c))) D
   | _=>False
  | _=>False
 | .insert ty mp k v=>match (aH G ty).kind with
  | .map kt _=>iP t mp fun a=>iP t k fun b=>iP t v fun c=>keyW b fun key=>zO G kt key∧match a with
   | .map g=>mapW S g key.isS fun f=>gX t o.dst .any fun t'=>K t' (aK S g (.map key.isS (fD f key c))) D
   | _=>False
  | _=>False
 | .panic x=>iP t x fun v=>match v with | .iface u p=>Q (.panic (.iface u p)) t S D | _=>False
 | .call { callee:=.builtin .panic,args,.. }=>match args.toList with
  | [x]=>iP t x fun v=>match v with | .iface u p=>Q (.panic (.iface u p)) t S D | _=>False
  | _=>False
 | .call { callee:=.builtin .append,args,argTypes }=>match args.toList,argTypes.toList with
  | [s,x],[ty,tx]=>(match (aH G ty).kind,(aH G tx).kind with
   | .slice e,.slice _=>(aH G e).size≠0∧(aH G e).bytes≠0∧iP t s fun a=>iP t x fun b=>srcW S b fun ys=>(∀ c∈ys,c.length=(aH G e).size∧dS S c)∧(match a with
    | .row g ver 0 len sz=>sz=(aH G e).size∧rowW S g ver sz fun e0 xs=>xs.length=len∧e0=(aH G e).bytes∧(len+ys.length)*e0≤cap47 ∧
      gX t o.dst (.row g (ver+1) 0 (len+ys.length) sz) fun t'=>K t' (aK S g (.row (ver+1) sz e0 (xs++ys))) D
    | .nils=>ys.length*(aH G e).bytes≤cap47 ∧
      rJ S (.row 1 (aH G e).size (aH G e).bytes ys) fun g S'=>gX t o.dst (.row g 1 0 ys.length (aH G e).size) fun t'=>K t' S' D
    | _=>False)
   | _,_=>False)
  | _,_=>False
 | .call { callee:=.builtin .clear,args,argTypes }=>match args.toList,argTypes.toList with
  | [s],[ty]=>(match (aH G ty).kind with
   | .slice e=>(aH G e).size≠0∧iP t s fun a=>match a with
    | .row g ver off len sz=>sz=(aH G e).size∧rowW S g ver sz fun e0 xs=>off+len≤xs.length∧dS S (aH G e).zero∧gX t o.dst .any fun t'=>K t' (aK S g (.row ver sz e0 (clrL xs off len (aH G e).zero))) D
    | _=>False
   | _=>False)
  | _,_=>False
 | .call { callee:=.value f,args,.. }=>iP t f fun c=>vB t args.toList fun vs=>match c with
  | .fn (.func n) first cap=>sX first vs fun l1=>sX l1 cap fun l2=>kJ P n l2 S (fun p S'=>gX t o.dst p fun t'=>K t' S' D) fun p S'=>Q (.panic p) t S' D
  | .yld g=>yldW P g vs S (fun p S'=>gX t o.dst p fun t'=>K t' S' D) fun p S'=>Q (.panic p) t S' D
  | _=>False
 | .defer { callee:=.value f,args,.. }=>r=none∧iP t f fun c=>vB t args.toList fun vs=>match c with
  | .fn (.func n) first cap=>sX first vs fun l1=>sX l1 cap fun l2=>gX t o.dst .any fun t'=>K t' S (.call n l2::D)
  | _=>False
 | _=>False
section
variable {P:Program} {G:List TI} {r:Option Nat}
theorem io_setCells (w:World) (b o:Nat) (vs:List Value):(w.setCells b o vs).os=w.os∧(w.setCells b o vs).output=w.output:=by
 induction vs generalizing o w with
 | nil=>exact⟨rfl,rfl⟩
 | cons v vs ih=>exact ih _ _
theorem xZ {w:World} {fr:Nat→Prop} {m:aQ} {S:aD} (r:RelS w fr m S) {v:Value} {p:PV} {k:List PV→Prop} (hv:Rep w fr m v p) (h:rE S p k) :
    ∃ c,gD w fr m v.cells c∧k c:=by
  unfold rE at h
  split at h
  · cases hv with
    | agg cs ps hl hr=>exact⟨_,⟨hl,hr⟩,h⟩
  · obtain⟨hs,h⟩:=h
    rw[(uD r hv hs).1]
    exact⟨_,⟨rfl,fun i h1 h2=>by
       have:i=0:=by simp at h1;omega
       subst this;exact hv⟩,h⟩
theorem vM {w:World} {fr:Nat→Prop} {m:aQ} {S:aD} (r:RelS w fr m S):∀ {vs:List Value} {c:List PV},vs.length=c.length→(∀ (i:Nat) (h1:i<vs.length) (h2:i<c.length),Rep w fr m vs[i] c[i])→dS S c→∀ v∈vs,v.oneCell'=true
 | [],[],_,_,_=>by simp
 | v::vs,p::c,hl,hr,hs=>by
  intro x hx
  rcases List.mem_cons.1 hx with rfl | hx
  ·exact (uD r (hr 0 (by simp) (by simp)) hs.1).2
  ·exact vM r (by simpa using hl) (fun i h1 h2=>hr (i+1) (by simpa using h1) (by simpa using h2)) hs.2 x hx
 | [],_::_,hl,_,_=>by simp at hl
 | _::_,[],hl,_,_=>by simp at hl
theorem lK:∀ (vs:List Value) (o:Nat) (w:World) (b:Nat) (arr:Array Value) (el:Nat),w.heap[b]?=some (.cells arr el (0,0)) →
  (w.setCells b o vs).heap[b]?=some (.cells ((vs.zipIdx).foldl (fun a (x:Value × Nat)=>a.setIfInBounds (o+x.2) x.1) arr) el (0,0))∧(w.setCells b o vs).heap.size=w.heap.size ∧
  ∀ b',b'≠b→(w.setCells b o vs).heap[b']?=w.heap[b']?
 | [],o,w,b,arr,el,h=>⟨h,rfl,fun _ _=>rfl⟩
 | v::vs,o,w,b,arr,el,h=>by
  have h1:(w.setCell ⟨b,o,none⟩ v).heap[b]?=some (.cells (arr.setIfInBounds o v) el (0,0)):=by
   simp[World.setCell,Array.getElem?_modify,h]
  have h2:∀ b',b'≠b→(w.setCell ⟨b,o,none⟩ v).heap[b']?=w.heap[b']?:=fun b' hb=>by
   simp[World.setCell,Array.getElem?_modify,Ne.symm hb]
  obtain⟨e1,e2,e3⟩:=lK vs (o+1) (w.setCell ⟨b,o,none⟩ v) b _ el h1
  have key:∀ (l:List Value) (j n:Nat) (acc:Array Value),(l.zipIdx (j+1)).foldl (fun l (x:Value × Nat)=>l.setIfInBounds (n+x.2) x.1) acc=(l.zipIdx j).foldl (fun l (x:Value × Nat)=>l.setIfInBounds (n+1+x.2) x.1) acc:=by
   intro l
   induction l with
   | nil=>intros;rfl
   | cons x l ih=>intro j n acc;simp only[List.zipIdx_cons,List.foldl_cons];rw[ih,show n+(j+1)=n+1+j by omega]
  refine⟨?_,by rw[World.setCells,e2];simp[World.setCell],fun b' hb=>by rw[World.setCells,e3 b' hb,h2 b' hb]⟩
  rw[World.setCells,e1]
  simp only[List.zipIdx_cons,List.foldl_cons,Nat.add_zero]
  rw[key]
theorem jX (o:Nat):∀ (vs:List Value) (j:Nat) (arr:Array Value),((vs.zipIdx j).foldl (fun a (x:Value × Nat)=>a.setIfInBounds (o+x.2) x.1) arr).size=arr.size
 | [],_,_=>rfl
 | v::vs,j,arr=>by simp only[List.zipIdx_cons,List.foldl_cons];rw[jX o vs];simp
theorem iW (o:Nat):∀ (vs:List Value) (j:Nat) (arr:Array Value) (i:Nat),o+j+vs.length≤arr.size →
  ((vs.zipIdx j).foldl (fun a (x:Value × Nat)=>a.setIfInBounds (o+x.2) x.1) arr)[i]?=if o+j≤i∧i<o+j+vs.length then vs[i - (o+j)]? else arr[i]?
 | [],j,arr,i,h=>by simp;intro h1 h2;omega
 | v::vs,j,arr,i,h=>by
  simp only[List.zipIdx_cons,List.foldl_cons]
  have h':o+(j+1)+vs.length≤(arr.setIfInBounds (o+j) v).size:=by simp at h ⊢;omega
  rw[iW o vs (j+1) _ i h']
  simp only[List.length_cons] at h
  by_cases h1:i=o+j
  ·subst h1
   rw[if_neg (by omega),if_pos (by simp)]
   simp[Array.getElem?_setIfInBounds];omega
  ·by_cases h2:o+(j+1)≤i∧i<o+(j+1)+vs.length
   ·rw[if_pos h2,if_pos (by simp;omega)]
    rw[show i - (o+j)=(i - (o+(j+1)))+1 by omega]
    simp
   ·rw[if_neg h2,if_neg (by simp;omega)]
    simp[Array.getElem?_setIfInBounds,Ne.symm h1]
theorem iH {w:World} {b:Nat} {arr:Array Value} {el:Nat} {f:Nat × Nat} (h:w.heap[b]?=some (.cells arr el f)):(w.shape? b).map (·.2)=some arr.size:=by
 simp[World.shape?,h]
theorem uE {w w':World} {b:Nat} {arr arr':Array Value} {el el':Nat} {f f':Nat × Nat} (h:w.heap[b]?=some (.cells arr el f)) (h':w'.heap[b]?=some (.cells arr' el' f')) (hs:arr'.size=arr.size)
  (ho:∀ b',b'≠b→w'.heap[b']?=w.heap[b']?):∀ b' N,(w.shape? b').map (·.2)=some N→(w'.shape? b').map (·.2)=some N:=by
 intro b' N hN
 by_cases e:b'=b
 ·subst e
  rw[iH h] at hN
  rw[iH h',hs];exact hN
 ·unfold World.shape? at hN ⊢
  rw[ho b' e];exact hN
theorem fQ {o:Oper} (h:∀ c,o.op≠.defer c) (ρ:Operand→Value):o.semAt (FR r).round ρ=execOp ρ o:=Oper.semAt_eq _ _ _ h
theorem kX {o:Oper} {K:KT} {Q:bQ} {t:List PV} {S:aD} {D:List DA} (hd:∀ c,o.op≠.defer c)
  (h:∀ a w fr m,kZ a w fr m t S D→∃ v w' m' S' p,((execOp a.eval o).run P w=.ok (.value v) w'∨((execOp a.eval o).run P w=.ok .skip w'∧v=undef))∧Rep w' fr m' v p∧RelS w' fr m' S'∧bZ w fr m S w' fr m' S'∧K (jH t o.dst p) S' D) :
  TOp P r o K Q t S D:=by
 intro a w fr m hs next R hn hR
 obtain⟨v,w',m',S',p,h1,h2,h3,h4,h5⟩:=h a w fr m hs
 rw[fQ hd]
 rcases h1 with h1 | ⟨h1,rfl⟩
 ·rw[h1];exact hn _ _ _ _ _ _ _ h5 ((hs.step h4 h3).put o.dst h2) h4
 ·rw[h1];exact hn _ _ _ _ _ _ _ h5 ((hs.step h4 h3).put o.dst h2) h4
theorem yX {w:World} {fr:Nat→Prop} {m:aQ} {S:aD} (r:RelS w fr m S) {x:AO} {k:Nat→aD→Prop} (h:rJ S x k) (o:Obj) (ho:∀ m',Nle m m'→ObjR { w with heap:=w.heap.push o } fr m' o x) :
  ∃ g,k g (aK S g x)∧RelS { w with heap:=w.heap.push o } fr (eY m g (x.ver,some w.heap.size)) (aK S g x)∧bZ w fr m S { w with heap:=w.heap.push o } fr (eY m g (x.ver,some w.heap.size)) (aK S g x):=by
 unfold rJ at h
 obtain⟨g,hm,hS⟩:=pD r
 obtain⟨h1,h2⟩:=push_ok r hm ho
 exact⟨g,h g hS,h1,h2⟩
theorem wO {w:World} {fr:Nat→Prop} {m:aQ} {S:aD} (r:RelS w fr m S) {sz e:Nat} {xs:List (List PV)} {arr:Array Value} {el:Nat} (he:xs.length*e≤cap47) (hs:∀ (i:Nat) (h:i<xs.length),xs[i].length=sz)
  (hl:xs.length*sz≤arr.size) (hr:∀ (i j:Nat) (hi:i<xs.length) (hj:j<xs[i].length),∃ v,arr[i*sz+j]?=some v∧Rep w fr m v xs[i][j]) (ver:Nat) (w':World) (hk:∀ m',Nle m m'→iT w fr m w' fr m') :
  ∀ m',Nle m m'→ObjR w' fr m' (.cells arr el (0,0)) (.row ver sz e xs):=
 fun m' hm=>⟨he,arr,el,rfl,hs,hl,fun i j hi hj=>let ⟨v,h1,h2⟩:=hr i j hi hj;⟨v,h1,h2.keep (hk m' hm)⟩⟩
theorem sW {w':World} {fr:Nat→Prop} {m:aQ} (g b i j sz v:Nat):Rep w' fr (eY m g (v,some b)) (.pointer (some ⟨b,i*sz+j,none⟩)) (.ptr g v i j sz):=
 .ptr _ _ _ _ _ _ ⟨v,some b,cU _ _ _,Nat.le_refl _,fun _=>⟨b,rfl,rfl⟩⟩
theorem kU {w':World} {fr:Nat→Prop} {m:aQ} (g b off len cap sz N v:Nat) (hc:len≤cap) (hN:(w'.shape? b).map (·.2)=some N) (hb:(off+cap)*sz≤N):Rep w' fr (eY m g (v,some b)) (.slice (some ⟨b,off*sz,none⟩) len cap) (.row g v off len sz):=
 .row _ _ _ _ _ _ ⟨v,some b,cU _ _ _,Nat.le_refl _,fun _=>⟨cap,N,rfl,hc,hN,hb⟩⟩
theorem st_ok (hG:jI P G) {w:World} {fr:Nat→Prop} {m:aQ} {S:aD} (rel:RelS w fr m S) {ty g ver i j sz:Nat} {vp vq:Value} {k:aD→Prop} (hp:Rep w fr m vp (.ptr g ver i j sz)) (hz:(aH G ty).size≠0)
  {c:List PV} (hc:gD w fr m vq.cells c) (hl:c.length=(aH G ty).size) (hs:dS S c) (h:stW S g ver i j sz c k) :
  ∃ w' m' S',(Instr.storeAt ty vp vq).run P w=.ok () w'∧RelS w' fr m' S'∧bZ w fr m S w' fr m' S'∧k S':=by
 unfold stW at h
 obtain⟨e,xs,old,hS,hold,hj,hk⟩:=h
 have hlive:dK S g ver:=by unfold dK;exact⟨_,hS,rfl⟩
 obtain⟨b,rfl,hm⟩:=pU rel hp hlive
 obtain⟨ob,hm',hob⟩:=rel.obj g _ hS
 rw[hm] at hm';cases hm'
 obtain⟨o,ho,he,arr,el,rfl,hsz,hlen,hcs⟩:=hob
 obtain⟨hi,hold'⟩:=List.getElem?_eq_some_iff.1 hold
 have holdl:old.length=sz:=by rw[← hold'];exact hsz i hi
 have hend:(i+1)*sz≤arr.size:=Nat.le_trans (Nat.mul_le_mul_right _ hi) hlen
 have hsize:i*sz+j+c.length≤arr.size:=by rw[Nat.add_mul] at hend;omega
 have hvl:vq.cells.toList.length=c.length:=by simpa using hc.1
 have hone:=vM rel (vs:=vq.cells.toList) hvl (fun i h1 h2=>by have:=hc.2 i (by simpa using h1) h2;rwa [Array.getElem_toList]) hs
 have hcell:∀ x,x<arr.size→w.cell? ⟨b,x,none⟩=some arr[x]!:=by
  intro x hx
  simp[World.cell?,ho,hx]
 have hfz:∀ x,w.frozen? ⟨b,x,none⟩=false:=by
  intro x;simp[World.frozen?,ho]
 have hrun:=run_storeCells_cells (P:=P) b (i*sz+j) vq.cells.toList 0 w (fun x hx=>by rw[Nat.add_zero,hcell _ (by rw[hvl] at hx;omega)];rfl) (fun x hx=>hfz _) hone
 rw[Nat.add_zero] at hrun
 obtain⟨b1,b2,b3⟩:=lK vq.cells.toList (i*sz+j) w b arr el ho
 let arr':=(vq.cells.toList.zipIdx).foldl (fun a (x:Value × Nat)=>a.setIfInBounds (i*sz+j+x.2) x.1) arr
 have harr:arr'.size=arr.size:=jX _ _ _ _
 have hget:∀ x,arr'[x]?=if i*sz+j≤x∧x<i*sz+j+c.length then vq.cells.toList[x - (i*sz+j)]? else arr[x]?:=by
  intro x
  have:=iW (i*sz+j) vq.cells.toList 0 arr x (by rw[hvl];omega)
  simpa[hvl] using this
 let new:=c.zipIdx.foldl (fun l (x:PV × Nat)=>l.set (j+x.2) x.1) old
 have hnew:=hk new (by rw[pC])
 have hnl:∀ (l:List PV) (n:Nat) (acc:List PV),((l.zipIdx n).foldl (fun l (x:PV × Nat)=>l.set (j+x.2) x.1) acc).length=acc.length:=by
  intro l
  induction l with
  | nil=>intros;rfl
  | cons x l ih=>intro n acc;simp only[List.zipIdx_cons,List.foldl_cons];rw[ih];simp
 have hng:∀ (l:List PV) (n:Nat) (acc:List PV) (x:Nat),j+n+l.length≤acc.length→((l.zipIdx n).foldl (fun l (x:PV × Nat)=>l.set (j+x.2) x.1) acc)[x]?=if j+n≤x∧x<j+n+l.length then l[x - (j+n)]? else acc[x]?:=by
  intro l
  induction l with
  | nil=>intro n acc x h;simp;intro h1 h2;omega
  | cons y l ih=>
   intro n acc x h
   simp only[List.zipIdx_cons,List.foldl_cons]
   simp only[List.length_cons] at h
   rw[ih (n+1) _ x (by simp;omega)]
   by_cases h1:x=j+n
   ·subst h1
    rw[if_neg (by omega),if_pos (by simp)]
    simp[List.getElem?_set];omega
   ·by_cases h2:j+(n+1)≤x∧x<j+(n+1)+l.length
    ·rw[if_pos h2,if_pos (by simp;omega)]
     rw[show x - (j+n)=(x - (j+(n+1)))+1 by omega]
     simp
    ·rw[if_neg h2,if_neg (by simp;omega)]
     simp[List.getElem?_set,Ne.symm h1]
 have hnewl:new.length=sz:=(hnl c 0 old).trans holdl
 have hres:=nU (x':=.row ver sz e (xs.set i new)) (ob':=some b) (w':=w.setCells b (i*sz+j) vq.cells.toList) (g:=g) rel (by rw[b2];exact Nat.le_refl _)
  (fun b' hb' hne=>b3 b' (fun e=>by subst e;exact hne _ hm))
  (uE ho b1 harr b3)
  (fun v ob e'=>by rw[hm] at e';cases e';exact⟨by rw[hS];rfl,Nat.le_refl _,fun _=>rfl⟩)
  (fun b' e'=>by cases e';exact .inl ⟨_,hm⟩)
  ⟨_,b1,by simpa using he,arr',el,rfl,fun i' hi'=>by
   rw[List.getElem_set]
   split
   ·exact hnewl
   ·exact hsz i' (by simpa using hi'),by rw[harr];simpa using hlen,?_⟩
 ·refine⟨_,_,_,?_,hres.1,hres.2,hnew⟩
  have hinfo:=bJ hG (t:=ty) (bY hG hz) w
  simp only[Instr.storeAt,Instr.sureAddr,Sem.run_bind,Sem.run_pure,Result.andThen_ok,storeVar,hinfo]
  rw[if_neg (by have:=hc.1;simp;omega)]
  exact hrun
 ·
  have hnle:Nle m (eY m g (ver,some b)):=by
   intro h v b' e'
   by_cases hh:h=g
   ·subst hh;rw[hm] at e';cases e';exact⟨_,_,cU _ _ _,Nat.le_refl _,fun _=>rfl⟩
   ·exact⟨v,b',by rw[gM hh];exact e',Nat.le_refl _,fun _=>rfl⟩
  have hkeep:iT w fr m (w.setCells b (i*sz+j) vq.cells.toList) fr (eY m g (ver,some b)):=
   ⟨fun _ h=>h,fun b' hb'=>b3 b' (fun e=>by subst e;exact rel.apart _ hb' ⟨g,_,_,hS,hm⟩),uE ho b1 harr b3,hnle⟩
  intro i' j' hi' hj'
  have hi2:i'<xs.length:=by simpa using hi'
  by_cases hii:i'=i
  ·subst hii
   simp only[List.getElem_set_self] at hj' ⊢
   have hj2:j'<sz:=by rw[← hnewl];exact hj'
   have hg:=hng c 0 old j' (by omega)
   simp only[Nat.add_zero] at hg
   have hg':new[j']?=if j≤j'∧j'<j+c.length then c[j' - j]? else old[j']?:=hg
   have ha:=hget (i'*sz+j')
   by_cases hin:j≤j'∧j'<j+c.length
   ·rw[if_pos hin,List.getElem?_eq_getElem hj',List.getElem?_eq_getElem (by omega)] at hg'
    rw[if_pos (by omega),show i'*sz+j' - (i'*sz+j)=j' - j by omega,List.getElem?_eq_getElem (by omega)] at ha
    refine⟨_,ha,?_⟩
    have h1:=hc.2 (j' - j) (by have:=hc.1;omega) (by omega)
    rw[Option.some.inj hg']
    rw[Array.getElem_toList]
    exact h1.keep hkeep
   ·rw[if_neg hin,List.getElem?_eq_getElem hj',List.getElem?_eq_getElem (by omega)] at hg'
    rw[if_neg (by omega)] at ha
    obtain⟨v,hv,hr⟩:=hcs i' j' hi2 (by rw[hsz i' hi2];exact hj2)
    refine⟨v,by rw[ha];exact hv,?_⟩
    rw[Option.some.inj hg']
    have h1:=hr.keep hkeep
    have h2:Rep (w.setCells b (i'*sz+j) vq.cells.toList) fr (eY m g (ver,some b)) v old[j']:=by simpa[hold'] using h1
    exact h2
  ·have hset:(xs.set i new)[i']=xs[i']:=List.getElem_set_ne (Ne.symm hii) _
   have hj2:j'<xs[i'].length:=by rw[hset] at hj';exact hj'
   obtain⟨v,hv,hr⟩:=hcs i' j' hi2 hj2
   refine⟨v,?_,?_⟩
   ·rw[hget,if_neg]
    ·exact hv
    ·have hx:xs[i'].length=sz:=hsz i' hi2
     intro hcon
     rcases Nat.lt_or_gt_of_ne hii with hlt | hlt
     ·have:(i'+1)*sz≤i*sz:=Nat.mul_le_mul_right _ hlt
      rw[Nat.add_mul] at this;omega
     ·have:(i+1)*sz≤i'*sz:=Nat.mul_le_mul_right _ hlt
      rw[Nat.add_mul] at this;omega
   ·have h1:=hr.keep hkeep
    have h2:Rep (w.setCells b (i*sz+j) vq.cells.toList) fr (eY m g (ver,some b)) v ((xs.set i new)[i'])[j']:=by simpa[hset] using h1
    exact h2
end
section
variable {P:Program} {G:List TI} {r:Option Nat} {w:World} {fr:Nat→Prop} {m:aQ} {S:aD}
theorem modify_at {α:Type} (pre:List α) (e:α) (dF:List α) (f:α→α):(pre++e::dF).modify pre.length f=pre++f e::dF:=by
 induction pre with
 | nil=>rfl
 | cons x pre ih=>simp only[List.cons_append,List.length_cons,List.modify_succ_cons,ih]
theorem find_split {str:Bool} {td:TypeDesc} (hd:∀ x:MK,x.isS=str→∀ y:MK,y.isS=str→Instr.sameNow td x.val y.val=some (decide (y=x))) (key:MK) (hk:key.isS=str) :
  ∀ (es:List MapEntry) (ks:List (MK × Value)) (i:Nat),es.map (fun e=>(e.key,e.val))=ks.map (fun x=>(x.1.val,x.2))→(∀ x∈ks,x.1.isS=str) →
  (Instr.findNow td key.val es i=some none∧ks.find? (fun x=>decide (x.1=key))=none) ∨
  (∃ pre e dF kpre v kpost,es=pre++e::dF∧ks=kpre++(key,v)::kpost∧e.key=key.val∧e.val=v∧pre.map (fun e=>(e.key,e.val))=kpre.map (fun x=>(x.1.val,x.2))∧dF.map (fun e=>(e.key,e.val))=kpost.map (fun x=>(x.1.val,x.2)) ∧
   kpre.find? (fun x=>decide (x.1=key))=none∧Instr.findNow td key.val es i=some (some (i+pre.length,v)))
 | [],[],i,_,_=>.inl ⟨rfl,rfl⟩
 | e::es,x::ks,i,h,hs=>by
  simp only[List.map_cons,List.cons.injEq,Prod.mk.injEq] at h
  obtain⟨⟨h1,h2⟩,h3⟩:=h
  have hx:=hd key hk x.1 (hs x (by simp))
  by_cases he:x.1=key
  ·refine .inr ⟨[],e,es,[],x.2,ks,rfl,by rw[← he];rfl,by rw[h1,he],h2,rfl,h3,rfl,?_⟩
   have hx':Instr.sameNow td key.val key.val=some true:=by rw[hd key hk key hk];simp
   simp only[Instr.findNow,h1,he,hx',h2];simp
  ·rcases find_split hd key hk es ks (i+1) h3 (fun y hy=>hs y (by simp[hy])) with ⟨h4,h5⟩ | ⟨pre,e',dF,kpre,v,kpost,h4,h5,h6,h7,h8,h9,h10,h11⟩
   ·refine .inl ⟨?_,by simp[he,h5]⟩
    simp only[Instr.findNow,h1,hx,he,decide_false];exact h4
   ·refine .inr ⟨e::pre,e',dF,x::kpre,v,kpost,by simp[h4],by simp[h5],h6,h7,by simp[h1,h2,h8],h9,by simp[he,h10],?_⟩
    simp only[Instr.findNow,h1,hx,he,decide_false]
    rw[h11];simp;omega
 | [],_::_,_,h,_=>by simp at h
 | _::_,[],_,h,_=>by simp at h
theorem sameBits_key (key:MK) (n:Nat):Instr.sameBits n key.val key.val=true:=by
 cases key with
 | s b=>simp only[MK.val,Instr.sameBits,beqBA',decide_true]
 | i n=>simp[MK.val,Instr.sameBits]
theorem mapUpd_ok (hG:jI P G) (rel:RelS w fr m S) {ty kt et g:Nat} {v vx:Value} {key:MK} {p:PV} {k:(MK→Option PV)→Prop} (hk:(aH G ty).kind=.map kt et) (hv:Rep w fr m v (.map g)) (ht:zO G kt key) (hx:Rep w fr m vx p)
  (h:mapW S g key.isS k):∃ w' m' f,(Instr.mapUpdate ty v key.val vx).run P w=.ok () w'∧RelS w' fr m' (aK S g (.map key.isS (fD f key p)))∧bZ w fr m S w' fr m' (aK S g (.map key.isS (fD f key p)))∧k f:=by
 unfold mapW at h
 obtain⟨f,hS,h⟩:=h
 have hl:dK S g 0:=by unfold dK;exact⟨_,hS,rfl⟩
 obtain⟨ob,hm,hob⟩:=rel.obj g _ hS
 cases hv with
 | map _ _ hA=>
  obtain⟨ob',hm',b,rfl,rfl⟩:=uY rel hl hA
  rw[hm'] at hm;cases hm
  obtain⟨o,ho,es,clock,ks,rfl,h5,h6,h7⟩:=hob
  obtain⟨td,hu,hsame,hchk⟩:=keyTy_ok hG ht
  have hum:=und_map hG hk
  have hget:(getObj b).run P w=.ok (.map es clock) w:=by simp[getObj,Sem.run,ho]
  have hset:∀ o',(setObj b o').run P w=.ok () { w with heap:=w.heap.setIfInBounds b o' }:=by
   intro o';simp[setObj,Sem.run,ho]
  have hblt:=(Array.getElem?_eq_some_iff.1 ho).1
  have hold:∀ o' b',b'≠b→({ w with heap:=w.heap.setIfInBounds b o' }:World).heap[b']?=w.heap[b']?:=by
   intro o' b' hne;simp[Array.getElem?_setIfInBounds,Ne.symm hne]
  have hsh:∀ es' c',∀ b' N,(w.shape? b').map (·.2)=some N→(({ w with heap:=w.heap.setIfInBounds b (.map es' c') }:World).shape? b').map (·.2)=some N:=by
   intro es' c' b' N hN
   by_cases e:b'=b
   ·subst e;simp[World.shape?,ho] at hN
   ·unfold World.shape? at hN ⊢
    rw[hold _ b' e];exact hN
  have hnle:Nle m (eY m g (0,some b)):=by
   intro h v b' e'
   by_cases hh:h=g
   ·subst hh;rw[hm'] at e';cases e';exact⟨_,_,cU _ _ _,Nat.le_refl _,fun _=>rfl⟩
   ·exact⟨v,b',by rw[gM hh];exact e',Nat.le_refl _,fun _=>rfl⟩
  have hkeep:∀ es' c',iT w fr m { w with heap:=w.heap.setIfInBounds b (.map es' c') } fr (eY m g (0,some b)):=fun es' c'=>
   ⟨fun _ h=>h,fun b' hb'=>hold _ b' (fun e=>by subst e;exact rel.apart _ hb' ⟨g,_,_,hS,hm'⟩),hsh es' c',hnle⟩
  have fin:∀ (es':Array MapEntry) (c':Nat) (ks':List (MK × Value)),es'.toList.map (fun e=>(e.key,e.val))=ks'.map (fun (x:MK × Value)=>(x.1.val,x.2))→(∀ x∈ks',x.1.isS=key.isS) →
    (∀ k':MK,OptR w fr m ((ks'.find? (fun x=>decide (x.1=k'))).map (·.2)) (fD f key p k')) →
    RelS { w with heap:=w.heap.setIfInBounds b (.map es' c') } fr (eY m g (0,some b)) (aK S g (.map key.isS (fD f key p)))∧bZ w fr m S { w with heap:=w.heap.setIfInBounds b (.map es' c') } fr (eY m g (0,some b)) (aK S g (.map key.isS (fD f key p))):=by
   intro es' c' ks' e1 e2 e3
   refine nU (x':=.map key.isS (fD f key p)) (ob':=some b) (g:=g) rel (by simp) (fun b' hb' hne=>hold _ b' (fun e=>by subst e;exact hne _ hm')) (hsh es' c')
    (fun v ob e'=>by rw[hm'] at e';cases e';exact⟨by rw[hS];rfl,Nat.le_refl _,fun _=>rfl⟩) (fun b' e'=>by cases e';exact .inl ⟨_,hm'⟩)
    ⟨.map es' c',by simp[hblt],es',c',ks',rfl,e1,e2,fun k'=>(e3 k').keep (hkeep es' c')⟩
  rcases find_split hsame key rfl es.toList ks 0 h5 h6 with ⟨hfd,hn⟩ | ⟨pre,e,dF,kpre,v,kpost,a1,a2,a3,a4,a5,a6,a7,hfd⟩
  ·refine⟨{ w with heap:=w.heap.setIfInBounds b (.map (es.push { key:=key.val,val:=vx,born:=clock }) (clock+1)) },eY m g (0,some b),f,?_,?_⟩
   ·simp only[Instr.mapUpdate,underlying,Sem.run_bind,run_program,Result.andThen_ok,hum,Sem.run_pure,hget,hchk,Instr.findKey,hu,hfd,hset]
   ·have:=fin (es.push { key:=key.val,val:=vx,born:=clock }) (clock+1) (ks++[(key,vx)]) (by simp[h5]) (fun x hx'=>by
     rcases List.mem_append.1 hx' with h | h
     ·exact h6 x h
     ·simp at h;subst h;rfl) (fun k'=>by
     rw[List.find?_append]
     by_cases hkk:k'=key
     ·subst hkk
      simp only[hn,Option.none_or,fD,if_true]
      simpa[OptR] using hx
     ·simp only[fD,if_neg hkk]
      have:([(key,vx)]:List (MK × Value)).find? (fun x=>decide (x.1=k'))=none:=by simp[Ne.symm hkk]
      rw[this,Option.or_none]
      exact h7 k')
    exact⟨this.1,this.2,h⟩
  ·have hpl:pre.length<es.size:=by have:=congrArg List.length a1;simp at this;omega
   have hei:es[pre.length]?=some e:=by
    have:es.toList[pre.length]?=some e:=by rw[a1];simp
    simpa using this
   refine⟨{ w with heap:=w.heap.setIfInBounds b (.map (es.modify pre.length fun e=>{ e with key:=key.val,val:=vx }) clock) },eY m g (0,some b),f,?_,?_⟩
   ·simp only[Instr.mapUpdate,underlying,Sem.run_bind,run_program,Result.andThen_ok,hum,Sem.run_pure,hget,hchk,Instr.findKey,hu,hfd,Nat.zero_add,hei,Option.map_some,Option.getD_some,Instr.keyThatStays,a3,sameBits_key,if_true,hset]
   ·have e1:(es.modify pre.length fun e=>{ e with key:=key.val,val:=vx }).toList=pre ++ { e with key:=key.val,val:=vx }::dF:=by
     rw[Array.toList_modify,a1]
     exact modify_at pre e dF _
    have:=fin (es.modify pre.length fun e=>{ e with key:=key.val,val:=vx }) clock (kpre++(key,vx)::kpost) (by rw[e1];simp[a5,a6]) (fun x hx'=>by
     rcases List.mem_append.1 hx' with h | h
     ·exact h6 x (by rw[a2];simp[h])
     ·rcases List.mem_cons.1 h with h | h
      ·subst h;rfl
      ·exact h6 x (by rw[a2];simp[h])) (fun k'=>by
     rw[List.find?_append]
     by_cases hkk:k'=key
     ·subst hkk
      simp only[a7,Option.none_or,fD,if_true]
      simpa[OptR] using hx
     ·simp only[fD,if_neg hkk]
      have:=h7 k'
      rw[a2,List.find?_append] at this
      simpa[Ne.symm hkk] using this)
    exact⟨this.1,this.2,h⟩
structure SrcR (w:World) (fr:Nat→Prop) (m:aQ) (x:Value) (size:Nat) (ys:List (List PV)) (f:Nat→Value):Prop where
 shape:∃ base c,x=.slice base ys.length c∧(ys≠[]→∃ ad,base=some ad∧∀ k,k<ys.length*size→w.cell? (ad.add k)=some (f k))
 rep:∀ (i j:Nat) (hi:i<ys.length) (hj:j<ys[i].length),Rep w fr m (f (i*size+j)) ys[i][j]
theorem src_ok (rel:RelS w fr m S) {x:Value} {p:PV} {size:Nat} {k:List (List PV)→Prop} (hx:Rep w fr m x p) (h:srcW S p k) (hs:∀ ys,k ys→∀ c∈ys,c.length=size):∃ ys f,SrcR w fr m x size ys f∧k ys:=by
 unfold srcW at h
 split at h
 ·rename_i e xs
  have hl:=hs _ h
  cases hx with
  | list0 base cap e=>exact⟨[],fun _=>undef,⟨⟨base,cap,rfl,fun e=>absurd rfl e⟩,fun i j hi=>absurd hi (by simp)⟩,h⟩
  | list b o cap e sz xs vals hf hc he hsz hv hr=>
   by_cases hne:xs=[]
   ·subst hne
    exact⟨[],fun _=>undef,⟨⟨_,cap,rfl,fun e=>absurd rfl e⟩,fun i j hi=>absurd hi (by simp)⟩,h⟩
   ·have hpos:0<xs.length:=List.length_pos_iff.2 hne
    have hss:sz=size:=by rw[← hsz 0 hpos];exact hl _ (List.getElem_mem hpos)
    subst hss
    refine⟨xs,fun n=>vals (n / sz) (n % sz),⟨⟨_,cap,rfl,fun _=>⟨_,rfl,fun n hn=>?_⟩⟩,fun i j hi hj=>?_⟩,h⟩
    ·rw[iJ]
     have hp:0<sz:=by rcases Nat.eq_zero_or_pos sz with h | h;(subst h;simp at hn);exact h
     have h1:n / sz<xs.length:=(Nat.div_lt_iff_lt_mul hp).2 hn
     have:=hv (n / sz) (n % sz) h1 (Nat.mod_lt _ hp)
     rwa [show n / sz*sz+n % sz=n by rw[Nat.mul_comm];exact Nat.div_add_mod n sz] at this
    ·have hj':j<sz:=by rw[← hsz i hi];exact hj
     have e1:(i*sz+j) / sz=i:=by rw[Nat.mul_comm,Nat.mul_add_div (by omega),Nat.div_eq_of_lt hj'];rfl
     have e2:(i*sz+j) % sz=j:=by rw[Nat.mul_comm,Nat.mul_add_mod,Nat.mod_eq_of_lt hj']
     simp only[e1,e2]
     exact hr i j hi hj
 ·cases hx
  exact⟨[],fun _=>undef,⟨⟨none,0,rfl,fun e=>absurd rfl e⟩,fun i j hi=>absurd hi (by simp)⟩,h⟩
 ·rename_i g ver off len sz
  obtain⟨e,xs,hS,hle,hk⟩:=h
  have hl:=hs _ hk
  have hlive:dK S g ver:=by unfold dK;exact⟨_,hS,rfl⟩
  have hlen:((xs.drop off).take len).length=len:=by simp;omega
  rcases pL rel hx hlive with ⟨_,rfl,_,rfl⟩ | ⟨b,cap,N,hm,rfl,h1,h2,h3⟩
  ·exact⟨_,fun _=>undef,⟨⟨none,0,by simp,fun e=>absurd (by simp) e⟩,fun i j hi=>absurd hi (by simp)⟩,hk⟩
  ·obtain⟨ob,hm',hob⟩:=rel.obj g _ hS
   rw[hm] at hm';cases hm'
   obtain⟨o,ho,he,arr,el,rfl,hsz,hle2,hcs⟩:=hob
   by_cases hne:len=0
   ·subst hne
    exact⟨_,fun _=>undef,⟨⟨some ⟨b,off*sz,none⟩,cap,by simp,fun e=>absurd (by simp) e⟩,fun i j hi=>absurd hi (by simp)⟩,hk⟩
   ·have hss:sz=size:=by
     have:xs[off]'(by omega)∈(xs.drop off).take len:=by
      rw[List.mem_take_iff_getElem]
      exact⟨0,by simp;omega,by simp⟩
     rw[← hsz off (by omega)];exact hl _ this
    subst hss
    refine⟨_,fun n=>arr.getD (off*sz+n) undef,⟨⟨some ⟨b,off*sz,none⟩,cap,by rw[hlen],fun _=>⟨_,rfl,fun n hn=>?_⟩⟩,fun i j hi hj=>?_⟩,hk⟩
    ·rw[iJ]
     rw[hlen] at hn
     have:off*sz+n<arr.size:=by
      have:(off+len)*sz≤xs.length*sz:=Nat.mul_le_mul_right _ hle
      rw[Nat.add_mul] at this;omega
     simp[World.cell?,ho,Array.getD_eq_getD_getElem?,this]
    ·have hi':off+i<xs.length:=by rw[hlen] at hi;omega
     have hget:((xs.drop off).take len)[i]=xs[off+i]:=by simp
     have hj':j<xs[off+i].length:=by rw[hget] at hj;exact hj
     obtain⟨v,hv,hr⟩:=hcs (off+i) j hi' hj'
     rw[Nat.add_mul] at hv
     simp only[Array.getD_eq_getD_getElem?,← Nat.add_assoc,hv,Option.getD_some,hget]
     exact hr
 ·exact h.elim
end
section
variable {P:Program} {G:List TI} {r:Option Nat} {w:World} {fr:Nat→Prop} {m:aQ} {S:aD}
def fN (f:Nat→Value) (n:Nat):Array Value:=((List.range n).map f).toArray
theorem gS (f:Nat→Value) (n:Nat):(fN f n).size=n:=by simp[fN]
theorem rC (f:Nat→Value) (n i:Nat) (h:i<n):(fN f n)[i]?=some (f i):=by simp[fN,h]
theorem first_ok {size n c:Nat} {base:Option Addr} {f:Nat→Value} (h:n*size≠0→∃ ad,base=some ad∧∀ k,k<n*size→w.cell? (ad.add k)=some (f k)) :
  (Builtin.firstCells size n (.slice base n c)).run P w=.ok (fN f (n*size)) w:=by
 by_cases h0:n*size=0
 ·cases base with
  | none=>simp[Builtin.firstCells,fN,h0]
  | some a=>simp[Builtin.firstCells,fN,h0,loadCells,loadCellsFrom]
 ·obtain⟨ad,rfl,hc⟩:=h h0
  simp only[Builtin.firstCells,run_loadCells w ad _ f hc,fN]
theorem app_run (hG:jI P G) {ty tx rty e:Nat} {base:Option Addr} {n cap:Nat} {x:Value} {ys:List (List PV)} {f f0:Nat→Value} (hk:(aH G ty).kind=.slice e) (hk':∃ e',(aH G tx).kind=.slice e') (hz:(aH G e).size≠0) (hby:(aH G e).bytes≠0)
  (hsrc:SrcR w fr m x (aH G e).size ys f) (h0:n*(aH G e).size≠0→∃ ad,base=some ad∧∀ k,k<n*(aH G e).size→w.cell? (ad.add k)=some (f0 k)) (hb:(n+ys.length)*(aH G e).bytes≤cap47) :
  (n+ys.length≤cap→(∀ w',(match base with | some a=>(storeCells (a.add (n*(aH G e).size)) (fN f (ys.length*(aH G e).size)).toList).run P w | none=>.ok () w)=.ok () w' →
    (Builtin.append_ #[ty,tx] rty #[.slice base n cap,x]).run P w=.ok (.slice base (n+ys.length) cap) w')) ∧
  (cap<n+ys.length→∃ newCap:Nat,∃ rest:Array Value,n+ys.length≤newCap∧rest.size=(newCap - (n+ys.length))*(aH G e).size ∧
    (Builtin.append_ #[ty,tx] rty #[.slice base n cap,x]).run P w=.ok (.slice (some ⟨w.heap.size,0,none⟩) (n+ys.length) newCap)
     { w with drawn:=w.drawn+1,heap:=w.heap.push (.cells (fN f0 (n*(aH G e).size)++fN f (ys.length*(aH G e).size)++rest) e) }):=by
 obtain⟨e',hk'⟩:=hk'
 have hu:=cV hG hk
 have hu':=cV hG hk'
 have hne:=bY hG hz
 obtain⟨⟨xb,xc,rfl,hx⟩,hrep⟩:=hsrc
 have hx':ys.length*(aH G e).size≠0→∃ ad,xb=some ad∧∀ k,k<ys.length*(aH G e).size→w.cell? (ad.add k)=some (f k):=fun h=>hx (by rintro rfl;simp at h)
 obtain⟨fi,hfi,hfs,hfb⟩:=uT hG hne
 constructor
 ·intro hle w' hw'
  have hfirst:=first_ok (P:=P) (c:=xc) hx'
  cases base with
  | none=>cases hw';simp[Builtin.append_,underlying,hu,hu',bJ hG hne,Builtin.lenOf,hle,hfirst]
  | some a=>
   dsimp only at hw'
   simp[Builtin.append_,underlying,hu,hu',bJ hG hne,Builtin.lenOf,hle,hfirst,hw']
 ·intro hlt
  have hle:¬ n+ys.length≤cap:=by omega
  let q:Question:=.appendCap (n+ys.length) cap e
  have hcut:n+ys.length≤q.cut (w.tape w.drawn q):=by show n+ys.length≤n+ys.length+_;omega
  have hfirst:=first_ok (P:=P) (w:=w.drew) (c:=xc) (f:=f) (n:=ys.length) (size:=fi.size) (base:=xb) (fun h=>by rw[hfs] at h ⊢;obtain⟨ad,h1,h2⟩:=hx' h;exact⟨ad,h1,h2⟩)
  have hold:=first_ok (P:=P) (w:=w.drew) (c:=cap) (f:=f0) (n:=n) (size:=fi.size) (base:=base) (fun h=>by rw[hfs] at h ⊢;obtain⟨ad,h1,h2⟩:=h0 h;exact⟨ad,h1,h2⟩)
  have hzz:∃ z,fi.zero=some z∧z.cells.size=(aH G e).size:=by
   obtain⟨z,hz1,hz2,_,_⟩:=qQ hG hne w
   obtain⟨d,f',_,_,_,_,_,h6,_⟩:=(kG hG rfl hne).ok
   refine⟨z,?_,by simpa[h6] using hz2⟩
   cases hfz:fi.zero with
   | none=>simp[zeroValue,typeInfo,hfi,hfz] at hz1
   | some z'=>simpa[zeroValue,typeInfo,hfi,hfz] using hz1
  obtain⟨z,hz1,hzs⟩:=hzz
  refine⟨q.cut (w.tape w.drawn q),Builtin.zeroCells z.cells (q.cut (w.tape w.drawn q) - (n+ys.length)),hcut,by rw[size_zeroCells,hzs],?_⟩
  have hfit:=growslice_fits (old:=cap) (need:=n+ys.length) (bytes:=fi.bytes) (by omega) (by rw[hfb];exact hb)
  have h48':¬ (281474976710656<Builtin.nextslicecap (n+ys.length) cap*fi.bytes):=by omega
  have hbi:fi.bytes≠0:=by rw[hfb];exact hby
  have h63':¬ (9223372036854775807<((n:Int)+(ys.length:Int))):=by
   have:n+ys.length≤(n+ys.length)*(aH G e).bytes:=Nat.le_mul_of_pos_right _ (by omega)
   unfold cap47 at hb
   omega
  rw[← hfs]
  simp[Builtin.append_,underlying,hu,hu',sizeOf,typeInfo,zeroValue,hfi,hz1,Builtin.lenOf,hle,h63',h48',Question.forced,hfirst,hold,newRow]
  exact⟨rfl,rfl⟩
theorem uV (hG:jI P G) {e:Nat} (hz:(aH G e).size≠0) (w:World):∃ z,(zeroValue e).run P w=.ok z w∧z.cells.size=(aH G e).size∧(aH G e).zero.length=(aH G e).size∧∀ fr m,gD w fr m z.cells (aH G e).zero:=by
 have hne:=bY hG hz
 obtain⟨z,hz1,hz2,_,hz4⟩:=qQ hG hne w
 obtain⟨d,f',_,_,_,_,_,h6,_⟩:=(kG hG rfl hne).ok
 exact⟨z,hz1,by simpa[h6] using hz2,h6.symm,fun fr m=>⟨by simpa using hz2,fun i h1 h2=>by have:=hz4 fr m i (by simpa using h1) h2;rwa [Array.getElem_toList] at this⟩⟩
theorem app_obj (rel:RelS w fr m S) {sz e:Nat} {xs ys:List (List PV)} {f0 f:Nat→Value} {arr:Array Value} {el ver:Nat} {w':World} {m':aQ} (hk:iT w fr m w' fr m') (he:(xs.length+ys.length)*e≤cap47)
  (hxs:∀ (i:Nat) (h:i<xs.length),xs[i].length=sz) (hys:∀ (i:Nat) (h:i<ys.length),ys[i].length=sz)
  (hr0:∀ (i j:Nat) (hi:i<xs.length) (hj:j<xs[i].length),Rep w fr m (f0 (i*sz+j)) xs[i][j]) (hr:∀ (i j:Nat) (hi:i<ys.length) (hj:j<ys[i].length),Rep w fr m (f (i*sz+j)) ys[i][j])
  (hl:(xs.length+ys.length)*sz≤arr.size) (ha:∀ k,k<xs.length*sz→arr[k]?=some (f0 k)) (hb:∀ k,k<ys.length*sz→arr[xs.length*sz+k]?=some (f k)) :
  ObjR w' fr m' (.cells arr el (0,0)) (.row ver sz e (xs++ys)):=by
 refine⟨by simpa using he,arr,el,rfl,fun i hi=>?_,by simpa using hl,fun i j hi hj=>?_⟩
 ·by_cases h:i<xs.length
  ·rw[List.getElem_append_left h];exact hxs i h
  ·rw[List.getElem_append_right (by omega)];exact hys _ _
 ·by_cases h:i<xs.length
  ·have e1:(xs++ys)[i]=xs[i]:=List.getElem_append_left h
   have hj':j<xs[i].length:=by rw[e1] at hj;exact hj
   have hlt:i*sz+j<xs.length*sz:=by
    have:(i+1)*sz≤xs.length*sz:=Nat.mul_le_mul_right _ h
    have:=hxs i h
    rw[Nat.add_mul] at *;omega
   refine⟨_,ha _ hlt,?_⟩
   have:=(hr0 i j h hj').keep hk
   simpa[e1] using this
  ·have hi':i - xs.length<ys.length:=by simp at hi;omega
   have e1:(xs++ys)[i]=ys[i - xs.length]:=List.getElem_append_right (by omega)
   have hj':j<ys[i - xs.length].length:=by rw[e1] at hj;exact hj
   have hlt:(i - xs.length)*sz+j<ys.length*sz:=by
    have:(i - xs.length+1)*sz≤ys.length*sz:=Nat.mul_le_mul_right _ hi'
    have:=hys _ hi'
    rw[Nat.add_mul] at *;omega
   refine⟨f ((i - xs.length)*sz+j),?_,?_⟩
   ·rw[← hb _ hlt]
    congr 1
    have:i*sz=xs.length*sz+(i - xs.length)*sz:=by rw[← Nat.add_mul];congr 1;omega
    omega
   ·have:=(hr _ j hi' hj').keep hk
    simpa[e1] using this
theorem append_row (hG:jI P G) (rel:RelS w fr m S) {ty tx rty e g ver len:Nat} {v x:Value} {ys xs:List (List PV)} {f:Nat→Value} (hk:(aH G ty).kind=.slice e) (hk':∃ e',(aH G tx).kind=.slice e') (hz:(aH G e).size≠0) (hby:(aH G e).bytes≠0)
  (hv:Rep w fr m v (.row g ver 0 len (aH G e).size)) (hsrc:SrcR w fr m x (aH G e).size ys f) (hys:∀ c∈ys,c.length=(aH G e).size∧dS S c) (hS:S g=some (.row ver (aH G e).size (aH G e).bytes xs)) (hlen:xs.length=len)
  (hb:(len+ys.length)*(aH G e).bytes≤cap47) :
  ∃ v' w' m',(Builtin.append_ #[ty,tx] rty #[v,x]).run P w=.ok v' w'∧Rep w' fr m' v' (.row g (ver+1) 0 (len+ys.length) (aH G e).size) ∧
   RelS w' fr m' (aK S g (.row (ver+1) (aH G e).size (aH G e).bytes (xs++ys)))∧bZ w fr m S w' fr m' (aK S g (.row (ver+1) (aH G e).size (aH G e).bytes (xs++ys))):=by
 subst hlen
 have hlive:dK S g ver:=by unfold dK;exact⟨_,hS,rfl⟩
 obtain⟨ob,hm,hob⟩:=rel.obj g _ hS
 have hyl:∀ (i:Nat) (h:i<ys.length),ys[i].length=(aH G e).size:=fun i h=>(hys _ (List.getElem_mem h)).1
 have hmn:∀ v ob',m g=some (v,ob')→(S g).isSome=true∧v≤ver+1∧(ver+1=v→True):=fun v ob' e'=>by
  rw[hm] at e';cases e';exact⟨by rw[hS];rfl,by simp[AO.ver],fun _=>trivial⟩
 have hnle:∀ ob',Nle m (eY m g (ver+1,ob')):=by
  intro ob' h v b e'
  by_cases hh:h=g
  ·subst hh;rw[hm] at e';cases e';exact⟨_,_,cU _ _ _,by simp[AO.ver],fun e=>by simp[AO.ver] at e⟩
  ·exact⟨v,b,by rw[gM hh];exact e',Nat.le_refl _,fun _=>rfl⟩
 rcases pL rel hv hlive with ⟨hm',rfl,_,hl0⟩ | ⟨b,cap,N,hm',rfl,h1,h2,h3⟩
 ·rw[hm'] at hm;cases hm
  have hxs:xs=[]:=List.eq_nil_of_length_eq_zero hl0
  subst hxs
  obtain⟨hin,hgr⟩:=app_run (P:=P) (rty:=rty) (base:=none) (n:=0) (cap:=0) (f0:=fun _=>undef) hG hk hk' hz hby hsrc (fun h=>absurd (by simp) h) hb
  by_cases hy:ys.length=0
  ·have hys0:ys=[]:=List.eq_nil_of_length_eq_zero hy
   subst hys0
   obtain⟨r1,r2⟩:=nU (x':=.row (ver+1) (aH G e).size (aH G e).bytes ([]++[])) (ob':=none) (w':=w) (g:=g) rel (Nat.le_refl _) (fun _ _ _=>rfl) (fun _ _ h=>h)
    (fun v ob' e'=>by rw[hm'] at e';cases e';exact⟨by rw[hS];rfl,by simp[AO.ver],fun _=>rfl⟩) (fun b e=>by cases e) ⟨_,_,_,rfl⟩
   exact⟨_,w,_,hin (by simp) w rfl,.row _ _ _ _ _ _ ⟨_,none,cU _ _ _,Nat.le_refl _,fun _=>⟨rfl,rfl,rfl⟩⟩,r1,r2⟩
  ·obtain⟨newCap,rest,hc1,hc2,hrun⟩:=hgr (by simp;omega)
   let arr:=fN (fun _=>undef) (0*(aH G e).size)++fN f (ys.length*(aH G e).size)++rest
   have hsz:arr.size=newCap*(aH G e).size:=by
    simp only[arr,Array.size_append,gS,hc2,← Nat.add_mul];congr 1;simp at hc1;omega
   let w':World:={ w with drawn:=w.drawn+1,heap:=w.heap.push (.cells arr e) }
   have hpo:∀ b,b<w.heap.size→w'.heap[b]?=w.heap[b]?:=fun b hb=>nD w _ b hb
   have hps:∀ b N,(w.shape? b).map (·.2)=some N→(w'.shape? b).map (·.2)=some N:=kQ w _
   have hnew:w'.heap[w.heap.size]?=some (.cells arr e (0,0)):=by simp[w']
   obtain⟨r1,r2⟩:=nU (x':=.row (ver+1) (aH G e).size (aH G e).bytes ([]++ys)) (ob':=some w.heap.size) (w':=w') (g:=g) rel (by simp[w']) (fun b hb _=>hpo b hb) hps
    (fun v ob' e'=>by rw[hm'] at e';cases e';exact⟨by rw[hS];rfl,by simp[AO.ver],fun e=>by simp[AO.ver] at e⟩) (fun b e=>by cases e;exact .inr (Nat.le_refl _))
    ⟨_,hnew,app_obj (f0:=fun _=>undef) (f:=f) rel ⟨fun _ h=>h,fun b hb=>hpo b (rel.frz b hb),hps,hnle _⟩ hb (fun i h=>absurd h (by simp)) hyl (fun i j hi=>absurd hi (by simp)) hsrc.rep
     (by rw[hsz];exact Nat.mul_le_mul_right _ hc1) (fun k hk=>absurd hk (by simp)) (fun k hk=>by
      simp only[arr]
      rw[Array.getElem?_append_left (by simp[gS];exact hk),Array.getElem?_append_right (by simp[gS])]
      simpa[gS] using rC f _ k hk)⟩
   refine⟨_,w',_,hrun,?_,r1,r2⟩
   have:=kU (w':=w') (fr:=fr) (m:=m) g w.heap.size 0 (0+ys.length) newCap (aH G e).size (newCap*(aH G e).size) (ver+1) hc1 (by rw[iH hnew,hsz]) (by simp)
   have h9:Rep w' fr (eY m g (ver+1,some w.heap.size)) (.slice (some ⟨w.heap.size,0,none⟩) (0+ys.length) newCap) (.row g (ver+1) 0 (0+ys.length) (aH G e).size):=by simpa using this
   exact h9
 ·rw[hm'] at hm;cases hm
  obtain⟨o,ho,he,arr,el,rfl,hsz,hle,hcs⟩:=hob
  have hN:N=arr.size:=by rw[iH ho] at h2;cases h2;rfl
  subst hN
  have hcap:cap*(aH G e).size≤arr.size:=by simpa using h3
  let f0:Nat→Value:=fun k=>arr.getD k undef
  have hf0:∀ k,k<xs.length*(aH G e).size→arr[k]?=some (f0 k):=fun k hk=>by
   simp only[f0,Array.getD_eq_getD_getElem?]
   rw[Array.getElem?_eq_getElem (by omega)];rfl
  have hr0:∀ (i j:Nat) (hi:i<xs.length) (hj:j<xs[i].length),Rep w fr m (f0 (i*(aH G e).size+j)) xs[i][j]:=fun i j hi hj=>by
   obtain⟨v,hv,hr⟩:=hcs i j hi hj
   simpa[f0,Array.getD_eq_getD_getElem?,hv] using hr
  have hcell:∀ k,k<arr.size→w.cell? ⟨b,k,none⟩=some arr[k]!:=fun k hk=>by simp[World.cell?,ho,hk]
  obtain⟨hin,hgr⟩:=app_run (P:=P) (rty:=rty) (base:=some ⟨b,0*(aH G e).size,none⟩) (n:=xs.length) (cap:=cap) (f0:=f0) hG hk hk' hz hby hsrc
   (fun h=>⟨_,rfl,fun k hk=>by rw[iJ];simp[World.cell?,ho,f0,Array.getD_eq_getD_getElem?];rw[Array.getElem?_eq_getElem (by omega)];rfl⟩) hb
  by_cases hroom:xs.length+ys.length≤cap
  ·have hnl:(fN f (ys.length*(aH G e).size)).toList.length=ys.length*(aH G e).size:=by simp[fN]
   have hfit:xs.length*(aH G e).size+ys.length*(aH G e).size≤arr.size:=by
    rw[← Nat.add_mul];exact Nat.le_trans (Nat.mul_le_mul_right _ hroom) hcap
   have hone:∀ v∈(fN f (ys.length*(aH G e).size)).toList,v.oneCell'=true:=by
    intro v hv
    simp only[fN,List.mem_map,List.mem_range] at hv
    obtain⟨k,hk,rfl⟩:=hv
    have hp:0<(aH G e).size:=by omega
    have hi:k / (aH G e).size<ys.length:=(Nat.div_lt_iff_lt_mul hp).2 hk
    have hj:k % (aH G e).size<ys[k / (aH G e).size].length:=by rw[hyl _ hi];exact Nat.mod_lt _ hp
    have h5:=hsrc.rep _ _ hi hj
    rw[show k / (aH G e).size*(aH G e).size+k % (aH G e).size=k by rw[Nat.mul_comm];exact Nat.div_add_mod k _] at h5
    have h6:=(hys _ (List.getElem_mem hi)).2
    have h7:∀ (c:List PV),dS S c→∀ (j:Nat) (h:j<c.length),lH S c[j]:=by
     intro c
     induction c with
     | nil=>intro _ j h;exact absurd h (by simp)
     | cons y c ih=>intro hc j h;cases j with
      | zero=>exact hc.1
      | succ j=>exact ih hc.2 j (by simpa using h)
    exact (uD rel h5 (h7 _ h6 _ hj)).2
   have hst:=run_storeCells_cells (P:=P) b (xs.length*(aH G e).size) (fN f (ys.length*(aH G e).size)).toList 0 w
    (fun k hk=>by rw[Nat.add_zero,hcell _ (by rw[hnl] at hk;omega)];rfl) (fun k hk=>by simp[World.frozen?,ho]) hone
   rw[Nat.add_zero] at hst
   obtain⟨b1,b2,b3⟩:=lK (fN f (ys.length*(aH G e).size)).toList (xs.length*(aH G e).size) w b arr el ho
   have hsa:=jX (xs.length*(aH G e).size) (fN f (ys.length*(aH G e).size)).toList 0 arr
   have hsh:=uE ho b1 hsa b3
   have hrun:=hin hroom (w.setCells b (xs.length*(aH G e).size) (fN f (ys.length*(aH G e).size)).toList) (by dsimp only;rw[iJ];simpa using hst)
   obtain⟨r1,r2⟩:=nU (x':=.row (ver+1) (aH G e).size (aH G e).bytes (xs++ys)) (ob':=some b) (w':=w.setCells b (xs.length*(aH G e).size) (fN f (ys.length*(aH G e).size)).toList) (g:=g) rel (by rw[b2];exact Nat.le_refl _)
    (fun b' hb' hne=>b3 b' (fun e=>by subst e;exact hne _ hm')) hsh
    (fun v ob' e'=>by rw[hm'] at e';cases e';exact⟨by rw[hS];rfl,by simp[AO.ver],fun _=>rfl⟩) (fun b' e'=>by cases e';exact .inl ⟨_,hm'⟩)
    ⟨_,b1,app_obj (f0:=f0) (f:=f) rel ⟨fun _ h=>h,fun b' hb'=>b3 b' (fun e=>by subst e;exact rel.apart _ hb' ⟨g,_,_,hS,hm'⟩),hsh,hnle _⟩ hb hsz hyl hr0 hsrc.rep
     (by rw[hsa,Nat.add_mul];exact hfit)
     (fun k hk=>by rw[iW _ _ 0 _ _ (by rw[hnl];omega),if_neg (by omega)];exact hf0 k hk)
     (fun k hk=>by
      rw[iW _ _ 0 _ _ (by rw[hnl];omega),if_pos (by rw[hnl];omega)]
      have:=rC f (ys.length*(aH G e).size) k hk
      rw[show xs.length*(aH G e).size+k - (xs.length*(aH G e).size+0)=k by omega]
      rw[Array.getElem?_toList];exact this)⟩
   refine⟨_,_,_,hrun,?_,r1,r2⟩
   exact kU g b 0 (xs.length+ys.length) cap (aH G e).size arr.size (ver+1) hroom (by rw[iH b1,hsa]) h3
  ·obtain⟨newCap,rest,hc1,hc2,hrun⟩:=hgr (by omega)
   let arr':=fN f0 (xs.length*(aH G e).size)++fN f (ys.length*(aH G e).size)++rest
   have hsz':arr'.size=newCap*(aH G e).size:=by
    simp only[arr',Array.size_append,gS,hc2,← Nat.add_mul];congr 1;omega
   let w':World:={ w with drawn:=w.drawn+1,heap:=w.heap.push (.cells arr' e) }
   have hpo:∀ b,b<w.heap.size→w'.heap[b]?=w.heap[b]?:=fun b hb=>nD w _ b hb
   have hps:∀ b N,(w.shape? b).map (·.2)=some N→(w'.shape? b).map (·.2)=some N:=kQ w _
   have hnew:w'.heap[w.heap.size]?=some (.cells arr' e (0,0)):=by simp[w']
   obtain⟨r1,r2⟩:=nU (x':=.row (ver+1) (aH G e).size (aH G e).bytes (xs++ys)) (ob':=some w.heap.size) (w':=w') (g:=g) rel (by simp[w']) (fun b hb _=>hpo b hb) hps
    (fun v ob' e'=>by rw[hm'] at e';cases e';exact⟨by rw[hS];rfl,by simp[AO.ver],fun e=>by simp[AO.ver] at e⟩) (fun b e=>by cases e;exact .inr (Nat.le_refl _))
    ⟨_,hnew,app_obj (f0:=f0) (f:=f) rel ⟨fun _ h=>h,fun b hb=>hpo b (rel.frz b hb),hps,hnle _⟩ hb hsz hyl hr0 hsrc.rep
     (by rw[hsz'];exact Nat.mul_le_mul_right _ hc1)
     (fun k hk=>by
      simp only[arr']
      rw[Array.append_assoc,Array.getElem?_append_left (by simpa[gS] using hk)]
      exact rC _ _ _ hk)
     (fun k hk=>by
      simp only[arr']
      rw[Array.getElem?_append_left (by simp[gS];omega),Array.getElem?_append_right (by simp[gS])]
      simpa[gS] using rC f _ k hk)⟩
   refine⟨_,w',_,hrun,?_,r1,r2⟩
   have:=kU (w':=w') (fr:=fr) (m:=m) g w.heap.size 0 (xs.length+ys.length) newCap (aH G e).size (newCap*(aH G e).size) (ver+1) hc1 (by rw[iH hnew,hsz']) (by simp)
   have h9:Rep w' fr (eY m g (ver+1,some w.heap.size)) (.slice (some ⟨w.heap.size,0,none⟩) (xs.length+ys.length) newCap) (.row g (ver+1) 0 (xs.length+ys.length) (aH G e).size):=by simpa using this
   exact h9
end
end Go.Proofs.YtbojdflgjpjbiaaGreat.L
