/- A logic over the machine, and what the functions of the seat come to: part 8. No claim stands here; the theorems are used by the row. -/
import Derived.Test.YtbojdflgjpjbiaaGreatJ5
import Derived.Test.YtbojdflgjpjbiaaGreatJ6
set_option linter.unusedSimpArgs false
set_option linter.unnecessarySimpa false
set_option linter.unusedVariables false
namespace Go.Proofs.YtbojdflgjpjbiaaGreat.L
open Go
inductive Ty where
 | mk (kind:Int) (name:ByteArray) (lo hi:Int) (args:List Ty)
def Ty.kind:Ty→Int | .mk k _ _ _ _=>k
def Ty.name:Ty→ByteArray | .mk _ n _ _ _=>n
def Ty.lo:Ty→Int | .mk _ _ l _ _=>l
def Ty.hi:Ty→Int | .mk _ _ _ h _=>h
def Ty.args:Ty→List Ty | .mk _ _ _ _ a=>a
theorem Ty.eta (t:Ty):t=.mk t.kind t.name t.lo t.hi t.args:=by cases t;rfl
mutual
def tyC:Ty→List PV
 | .mk k n lo hi a=>[.int .i64 k,.str n,.int .i64 lo,.int .i64 hi,.list 64 (tysC a)]
def tysC:List Ty→List (List PV)
 | []=>[]
 | t::l=>tyC t::tysC l
end
@[irreducible] def tA (l:List Ty):List (List PV):=tysC l
abbrev eT (t:Ty):List PV:=[.int .i64 t.kind,.str t.name,.int .i64 t.lo,.int .i64 t.hi,.list 64 (tA t.args)]
theorem tyC_eq (t:Ty):tyC t=eT t:=by cases t;simp only[tyC,eT,Ty.kind,Ty.name,Ty.lo,Ty.hi,Ty.args,tA]
theorem tysC_eq:∀ l:List Ty,tysC l=l.map eT
 | []=>rfl
 | t::l=>by rw[tysC,tyC_eq,tysC_eq l,List.map_cons]
theorem nX (l:List Ty):tA l=l.map eT:=by unfold tA;exact tysC_eq l
abbrev TS (l:List Ty):PV:=.list 64 (l.map eT)
abbrev TV (t:Ty):PV:=.agg (eT t)
theorem Ty.ind {C:Ty→Prop} (h:∀ t:Ty,(∀ a∈t.args,C a)→C t):∀ t,C t:=by
 intro t
 refine Ty.rec (motive_1:=C) (motive_2:=fun l=>∀ a∈l,C a) ?_ ?_ ?_ t
 ·intro k n lo hi a ih;exact h _ ih
 ·intro a ha;cases ha
 ·intro t l ht hl a ha
  rcases List.mem_cons.1 ha with rfl | ha
  ·exact ht
  ·exact hl a ha
mutual
def Ty.cnt:Ty→Nat
 | .mk _ _ _ _ a=>1+nK a
def nK:List Ty→Nat
 | []=>0
 | t::l=>Ty.cnt t+nK l
end
mutual
def Ty.deep:Ty→Nat
 | .mk _ _ _ _ a=>1+zA a
def zA:List Ty→Nat
 | []=>0
 | t::l=>max (Ty.deep t) (zA l)
end
theorem sR (t:Ty):t.cnt=1+nK t.args:=by cases t;rw[Ty.cnt];rfl
theorem deep_eq (t:Ty):t.deep=1+zA t.args:=by cases t;rw[Ty.deep];rfl
theorem cnt_pos (t:Ty):0<t.cnt:=by rw[sR];omega
theorem len_cnts:∀ l:List Ty,l.length≤nK l
 | []=>by simp[nK]
 | t::l=>by have:=len_cnts l;have:=cnt_pos t;simp[nK];omega
structure ClassI where
 name:ByteArray
 lib:ByteArray
 supers:List ByteArray
 cpl:List ByteArray
 abs:Bool
 sealed:Bool
deriving DecidableEq
abbrev eC (c:ClassI):List PV:=[.str c.name,.str c.lib,LS c.supers,LS c.cpl,.bool c.abs,.bool c.sealed]
abbrev CS (l:List ClassI):PV:=.list 88 (l.map eC)
abbrev CV (c:ClassI):PV:=.agg (eC c)
def ClassI.heir (c:ClassI):bA:=(c.name,c.supers)
def hsOf (l:List ClassI):List bA:=l.map ClassI.heir
abbrev eP (p:ByteArray × Ty):List PV:=[.str p.1,.int .i64 p.2.kind,.str p.2.name,.int .i64 p.2.lo,.int .i64 p.2.hi,.list 64 (tA p.2.args)]
abbrev PS (l:List (ByteArray × Ty)):PV:=.list 80 (l.map eP)
inductive Ex where
 | mk (kind:Int) (name:ByteArray) (num:Int) (ty:Ty) (params:List (ByteArray × Ty)) (keys:List ByteArray) (args:List Ex)
def Ex.kind:Ex→Int | .mk k _ _ _ _ _ _=>k
def Ex.name:Ex→ByteArray | .mk _ n _ _ _ _ _=>n
def Ex.num:Ex→Int | .mk _ _ n _ _ _ _=>n
def Ex.ty:Ex→Ty | .mk _ _ _ t _ _ _=>t
def Ex.params:Ex→List (ByteArray × Ty) | .mk _ _ _ _ p _ _=>p
def Ex.keys:Ex→List ByteArray | .mk _ _ _ _ _ k _=>k
def Ex.args:Ex→List Ex | .mk _ _ _ _ _ _ a=>a
mutual
def exC:Ex→List PV
 | .mk k n m t p ks a=>[.int .i64 k,.str n,.int .i64 m,.int .i64 t.kind,.str t.name,.int .i64 t.lo,.int .i64 t.hi,.list 64 (tA t.args),PS p,LS ks,.list 168 (exsC a)]
def exsC:List Ex→List (List PV)
 | []=>[]
 | t::l=>exC t::exsC l
end
@[irreducible] def xA (l:List Ex):List (List PV):=exsC l
abbrev eX (e:Ex):List PV:=[.int .i64 e.kind,.str e.name,.int .i64 e.num,.int .i64 e.ty.kind,.str e.ty.name,.int .i64 e.ty.lo,.int .i64 e.ty.hi,.list 64 (tA e.ty.args),PS e.params,LS e.keys,.list 168 (xA e.args)]
theorem exC_eq (e:Ex):exC e=eX e:=by cases e;simp only[exC,eX,Ex.kind,Ex.name,Ex.num,Ex.ty,Ex.params,Ex.keys,Ex.args,xA]
theorem exsC_eq:∀ l:List Ex,exsC l=l.map eX
 | []=>rfl
 | t::l=>by rw[exsC,exC_eq,exsC_eq l,List.map_cons]
theorem xA_eq (l:List Ex):xA l=l.map eX:=by unfold xA;exact exsC_eq l
theorem Ex.ind {C:Ex→Prop} (h:∀ t:Ex,(∀ a∈t.args,C a)→C t):∀ t,C t:=by
 intro t
 refine Ex.rec (motive_1:=C) (motive_2:=fun l=>∀ a∈l,C a) ?_ ?_ ?_ t
 ·intro k n m t p ks a ih;exact h _ ih
 ·intro a ha;cases ha
 ·intro t l ht hl a ha
  rcases List.mem_cons.1 ha with rfl | ha
  ·exact ht
  ·exact hl a ha
abbrev XS (l:List Ex):PV:=.list 168 (l.map eX)
abbrev XV (e:Ex):PV:=.agg (eX e)
structure SlotT where
 name:ByteArray
 ty:Ty
 key:ByteArray
 alloc:Int
 init:List Ex
abbrev wN (s:SlotT):List PV:=[.str s.name,.int .i64 s.ty.kind,.str s.ty.name,.int .i64 s.ty.lo,.int .i64 s.ty.hi,.list 64 (tA s.ty.args),.str s.key,.int .i64 s.alloc,XS s.init]
abbrev SLS (l:List SlotT):PV:=.list 128 (l.map wN)
structure OwnT where
 slot:SlotT
 owner:ByteArray
abbrev eO (o:OwnT):List PV:=[.str o.slot.name,.int .i64 o.slot.ty.kind,.str o.slot.ty.name,.int .i64 o.slot.ty.lo,.int .i64 o.slot.ty.hi,.list 64 (tA o.slot.ty.args),.str o.slot.key,.int .i64 o.slot.alloc,XS o.slot.init,.str o.owner]
abbrev OS (l:List OwnT):PV:=.list 144 (l.map eO)
structure DefT where
 name:ByteArray
 supers:List ByteArray
 slots:List SlotT
 abs:Bool
 sealed:Bool
abbrev eD (d:DefT):List PV:=[.str d.name,LS d.supers,SLS d.slots,.bool d.abs,.bool d.sealed]
abbrev DS (l:List DefT):PV:=.list 72 (l.map eD)
structure MethT where
 id:Int
 lib:ByteArray
 params:List (ByteArray × Ty)
 result:Ty
abbrev eM (m:MethT):List PV:=[.int .i64 m.id,.str m.lib,PS m.params,.int .i64 m.result.kind,.str m.result.name,.int .i64 m.result.lo,.int .i64 m.result.hi,.list 64 (tA m.result.args)]
structure DomT where
 lib:ByteArray
 types:List Ty
abbrev eDm (d:DomT):List PV:=[.str d.lib,TS d.types]
structure GenT where
 name:ByteArray
 lib:ByteArray
 arity:Int
 sealed:Bool
 methods:List MethT
 domains:List DomT
abbrev eG (g:GenT):List PV:=[.str g.name,.str g.lib,.int .i64 g.arity,.bool g.sealed,.list 112 (g.methods.map eM),.list 40 (g.domains.map eDm)]
structure aW where
 classes:List ClassI
 defs:List DefT
 versions:List Int
 generics:List GenT
 changed:List ByteArray
 libs:List ByteArray
 next:Int
abbrev eI (n:Int):List PV:=[.int .i64 n]
abbrev IS (l:List Int):PV:=.list 8 (l.map eI)
abbrev eW (w:aW):List PV:=[CS w.classes,DS w.defs,IS w.versions,.list 96 (w.generics.map eG),LS w.changed,LS w.libs,.int .i64 w.next]
abbrev WV (w:aW):PV:=.agg (eW w)
structure yZ where
 slot:OwnT
 key:Int
 init:Bool
abbrev eF (f:yZ):List PV:=[.str f.slot.slot.name,.int .i64 f.slot.slot.ty.kind,.str f.slot.slot.ty.name,.int .i64 f.slot.slot.ty.lo,.int .i64 f.slot.slot.ty.hi,.list 64 (tA f.slot.slot.ty.args),.str f.slot.slot.key,.int .i64 f.slot.slot.alloc,XS f.slot.slot.init,.str f.slot.owner,.int .i64 f.key,.bool f.init]
def aP:ByteArray:=⟨#[60,111,98,106,101,99,116,62]⟩
def cS:ByteArray:=⟨#[60,105,110,116,101,103,101,114,62]⟩
def dX:ByteArray:=⟨#[60,98,111,111,108,101,97,110,62]⟩
def iK:ByteArray:=⟨#[60,99,108,97,115,115,62]⟩
def kS:ByteArray:=⟨#[60,102,117,110,99,116,105,111,110,62]⟩
def bM:ByteArray:=⟨#[60,99,111,110,100,105,116,105,111,110,62]⟩
def gH:ByteArray:=⟨#[60,115,101,114,105,111,117,115,45,99,111,110,100,105,116,105,111,110,62]⟩
def uW:ByteArray:=⟨#[60,119,97,114,110,105,110,103,62]⟩
def uS:ByteArray:=⟨#[60,114,101,115,116,97,114,116,62]⟩
def pS:ByteArray:=⟨#[60,101,114,114,111,114,62]⟩
def nmFault:ByteArray:=⟨#[60,102,97,117,108,116,62]⟩
def eA (n:ByteArray) (up:List ByteArray) (a s:Bool):ClassI:=⟨n,⟨#[]⟩,up.take 1,n::up,a,s⟩
def baseL:List ClassI:=
  [eA aP [] true false,eA cS [aP] false true,eA dX [aP] false true,eA iK [aP] false true,eA kS [aP] false true,
   eA bM [aP] false false,eA gH [bM,aP] false false,eA uW [bM,aP] false false,eA uS [bM,aP] false false,
   eA pS [gH,bM,aP] false false,eA nmFault [pS,gH,bM,aP] false false]
def mZ (l:List ClassI) (b:ByteArray):Option Nat:=oD (hsOf l) b
def lI (l:List ClassI) (b:ByteArray):Bool:=(mZ l b).isSome
def sD (l:List ClassI) (b:ByteArray):Option ClassI:=(mZ l b).bind (l[·]?)
def jR (l:List ClassI) (a b:ByteArray):Bool:=match sD l a with
 | some c=>c.cpl.any (nL b)
 | none=>false
def qE (l:List ClassI) (lib:ByteArray) (s:ByteArray):Bool:=match mZ l s with
 | none=>false
 | some i=>match l[i]? with
  | none=>false
  | some d=>!(decide (1≤i) && decide (i≤4)) && !(d.sealed && !decide (d.lib=lib))
def mayB (l:List ClassI) (c:ClassI):Bool:=c.supers.all (qE l c.lib)
def fM (l:List ClassI) (i:Nat) (c:ClassI):Bool:=
 !(lI l c.name) && !decide (c.name=⟨#[]⟩) && decide (c.name.size≤100) && (decide (i<11) || (decide (c.supers.length≠0) && decide (c.supers.length≤8) && mayB l c))
def okFrom:Nat→List ClassI→List ClassI→Bool
 | _,_,[]=>true
 | i,pre,c::l=>fM pre i c && okFrom (i+1) (pre++[c]) l
def aAa (g:List bA):List (List ByteArray) × Nat × Int:=
 if cX g≠0 then ([],0,cX g) else
 match (List.range g.length).find? (fun i=>(iN g i).isNone) with
 | some i=>([],i,71)
 | none=>((List.range g.length).filterMap (iN g),0,0)
theorem allV_Q (g:List bA):allV g=.tup [uN (aAa g).1,.int .i64 ((aAa g).2.1:Nat),.int .i64 (aAa g).2.2]:=by
 unfold allV aAa
 split
 ·rfl
 ·cases (List.range g.length).find? (fun i=>(iN g i).isNone) <;> rfl
instance (priority:=2000) (g:List bA):cH 160 [HS g] (.tup [uN (aAa g).1,.int .i64 ((aAa g).2.1:Nat),.int .i64 (aAa g).2.2]):=⟨allV_Q g ▸ all_spec g⟩
def cplsOk (l:List ClassI):Bool:=decide ((aAa (hsOf l)).2.2=0) && decide (l.map (·.cpl)=(aAa (hsOf l)).1)
def lookB (l:List ClassI):Bool:=decide (l.length≤120) && decide (11≤l.length) && decide (l.take 11=baseL) && okFrom 0 [] l && cplsOk l
def gV (l:List ClassI) (b:ByteArray):List ByteArray:=(l.filter (fun c=>c.supers.any (nL b))).map (·.name)
def rG (l:List ClassI):Nat→ByteArray→Bool
 | 0,_=>false
 | n+1,b=>match sD l b with
  | some c=>c.sealed && (gV l b).all (rG l n)
  | none=>false
def closedC (l:List ClassI) (b:ByteArray):Bool:=rG l (l.length+1) b
def absC (l:List ClassI) (b:ByteArray):Bool:=match sD l b with
 | some c=>c.abs
 | none=>match l with
  | c::_=>c.abs
  | []=>false
def voidN (l:List ClassI):Nat→ByteArray→Bool
 | 0,_=>false
 | n+1,b=>closedC l b && absC l b && (gV l b).all (voidN l n)
def voidC (l:List ClassI) (b:ByteArray):Bool:=voidN l (l.length+1) b
def yW (t:Ty):Int:=if 100<t.deep then 6 else if 1000<t.cnt then 2 else 0
def lB (h:ByteArray→Bool) (k:Int) (n:ByteArray) (lo hi:Int) (len:Nat):Bool:=
 if k=1∨k=4 then h n && decide (lo=0) && decide (hi=0) && decide (len=0)
 else if k=2 then decide (lo≤hi) && decide (n=⟨#[]⟩) && decide (len=0)
 else if k=3 then (decide (lo=0) || decide (lo=1)) && decide (hi=0) && decide (n=⟨#[]⟩) && decide (len=0)
 else if k=5 then decide (len≤16) && decide (n=⟨#[]⟩) && decide (lo=0) && decide (hi=0)
 else false
mutual
def zC (h:ByteArray→Bool):Ty→Bool
 | .mk k n lo hi a=>lB h k n lo hi a.length && fmBs h a
def fmBs (h:ByteArray→Bool):List Ty→Bool
 | []=>true
 | t::l=>zC h t && fmBs h l
end
theorem fmBs_eq (h:ByteArray→Bool):∀ l:List Ty,fmBs h l=l.all (zC h)
 | []=>by simp[fmBs]
 | t::l=>by simp[fmBs,fmBs_eq h l]
theorem vS (h:ByteArray→Bool) (t:Ty):zC h t=(lB h t.kind t.name t.lo t.hi t.args.length && t.args.all (zC h)):=by
 cases t;rw[zC,fmBs_eq];rfl
def iO (l:List ClassI) (t:Ty):Int:=if yW t≠0 then yW t else if zC (lI l) t then 0 else 81
def cC (lo hi:Int):Ty:=.mk 2 ⟨#[]⟩ lo hi []
def classT (n:ByteArray):Ty:=.mk 1 n 0 0 []
def metaT (n:ByteArray):Ty:=.mk 4 n 0 0 []
def vP (n:Int):Ty:=.mk 3 ⟨#[]⟩ n 0 []
abbrev tZ:Int:=-9223372036854775808
abbrev iB:Int:=9223372036854775807
structure cI where
 ints:List Ty
 metas:List Ty
 kinds:List Ty
 t0:Bool
 t1:Bool
def dY (void:ByteArray→Bool) (p:cI) (t:Ty):cI:=
 if t.name=cS then { p with ints:=p.ints++[cC tZ iB] }
 else if t.name=dX then { p with t0:=true,t1:=true }
 else if void t.name then p else { p with kinds:=p.kinds++[t] }
def oF (void:ByteArray→Bool) (p:cI) (t:Ty):cI:=
 if t.kind=1 then dY void p t
 else if t.kind=2 then { p with ints:=p.ints++[t] }
 else if t.kind=3 then if t.lo=0 then { p with t0:=true } else { p with t1:=true }
 else if t.kind=4 then if t.name=aP then dY void p (classT iK) else { p with metas:=p.metas++[t] }
 else p
mutual
def rL (void:ByteArray→Bool) (p:cI):Ty→cI
 | .mk k n lo hi a=>if k=5 then nW void p a else oF void p (.mk k n lo hi a)
def nW (void:ByteArray→Bool) (p:cI):List Ty→cI
 | []=>p
 | t::l=>nW void (rL void p t) l
end
theorem addT_eq (void:ByteArray→Bool) (p:cI) (t:Ty):rL void p t=if t.kind=5 then nW void p t.args else oF void p t:=by
 cases t;rw[rL];rfl
def blt (a b:ByteArray):Bool:=Op.bytesLess a.data.toList b.data.toList
def insB {α:Type} (lt:α→α→Bool) (x:α):List α→List α
 | []=>[x]
 | y::l=>if lt y x then y::insB lt x l else x::y::l
def pN {α:Type} (lt:α→α→Bool):List α→List α
 | []=>[]
 | x::l=>insB lt x (pN lt l)
def qT:List Ty→List Ty→List Ty
 | out,[]=>out
 | out,t::l=>match out.getLast? with
  | some o=>if o.hi=iB∨t.lo≤o.hi+1 then qT (out.dropLast++[cC o.lo (max o.hi t.hi)]) l else qT (out++[cC t.lo t.hi]) l
  | none=>qT (out++[cC t.lo t.hi]) l
def pF (a b:Ty):Bool:=decide (a.lo<b.lo)
def sG (a b:Ty):Bool:=blt a.name b.name
def jA (l:List Ty):List Ty:=qT [] (pN pF l)
def kD:List Ty→List Ty
 | []=>[]
 | t::l=>if l.head?.map Ty.name=some t.name then kD l else t::kD l
def jK (l:List ClassI) (k:List Ty):List Ty:=
 kD (pN sG (k.filter fun t=>!(k.any fun u=>!decide (u.name=t.name) && jR l t.name u.name)))
def fZ (l:List ClassI) (t:Ty):List Ty:=
 let p:=rL (voidC l) ⟨[],[],[],false,false⟩ t
 if p.kinds.any (fun t=>decide (t.name=aP)) then [classT aP] else
 let i:=jA p.ints
 let whole:=match i with
  | [x]=>decide (x.lo=tZ) && decide (x.hi=iB)
  | _=>false
 let ints:=if whole then [] else i
 let kinds1:=if whole then p.kinds++[classT cS] else p.kinds
 let kinds:=if p.t0 && p.t1 then kinds1++[classT dX] else kinds1
 let out:=if p.t0 && p.t1 then [] else if p.t0 then [vP 0] else if p.t1 then [vP 1] else []
 let metas:=if kinds.any (fun t=>decide (t.name=iK)) then [] else p.metas
 out++ints++jK l metas++jK l kinds
def coverB (l:List ClassI) (x y:Ty):Bool:=
 (decide (y.kind=1) && decide (y.name=aP)) ||
 (decide (x.kind=y.kind) && decide (x.name=y.name) && decide (x.lo=y.lo) && decide (x.hi=y.hi)) ||
 (if x.kind=2 then (decide (y.kind=2) && decide (y.lo≤x.lo) && decide (x.hi≤y.hi)) || (decide (y.kind=1) && decide (y.name=cS))
 else if x.kind=3 then decide (y.kind=1) && decide (y.name=dX)
 else if x.kind=4 then (decide (y.kind=4) && jR l x.name y.name) || (decide (y.kind=1) && decide (y.name=iK))
 else decide (y.kind=1) && jR l x.name y.name)
def oW (l:List ClassI) (by':List Ty):Nat→Ty→Bool
 | 0,_=>false
 | n+1,x=>by'.any (coverB l x) || (decide (x.kind=1) && closedC l x.name && absC l x.name && (gV l x.name).all fun s=>oW l by' n (classT s))
def iE (l:List ClassI) (by':List Ty) (x:Ty):Bool:=oW l by' (l.length+1) x
def subB (l:List ClassI) (a b:Ty):Bool:=(fZ l a).all (iE l (fZ l b))
def vI (l:List ClassI) (a b:Ty):Bool:=lookB l && decide (iO l a=0) && decide (iO l b=0)
def subV (l:List ClassI) (a b:Ty):Bool:=vI l a b && subB l a b
section
theorem yE:∀ x:List UInt8,Op.bytesLess x x=false
 | []=>rfl
 | a::x=>by simp[Op.bytesLess,yE x]
theorem bl_trans:∀ x y z:List UInt8,Op.bytesLess x y=true→Op.bytesLess y z=true→Op.bytesLess x z=true
 | _,[],_,h,_=>by cases ‹List UInt8› <;> simp[Op.bytesLess] at h
 | _,_::_,[],_,h=>by simp[Op.bytesLess] at h
 | [],b::y,c::z,_,_=>by simp[Op.bytesLess]
 | a::x,b::y,c::z,h,k=>by
  simp only[Op.bytesLess,Bool.or_eq_true,decide_eq_true_eq,Bool.and_eq_true,beq_iff_eq] at h k ⊢
  rcases h with h | ⟨rfl,h⟩
  ·rcases k with k | ⟨rfl,k⟩
   ·exact .inl (UInt8.lt_trans h k)
   ·exact .inl h
  ·rcases k with k | ⟨rfl,k⟩
   ·exact .inl k
   ·exact .inr ⟨rfl,bl_trans x y z h k⟩
theorem bl_tri:∀ x y:List UInt8,Op.bytesLess x y=false→Op.bytesLess y x=false→x=y
 | [],[],_,_=>rfl
 | [],_::_,h,_=>by simp[Op.bytesLess] at h
 | _::_,[],_,h=>by simp[Op.bytesLess] at h
 | a::x,b::y,h,k=>by
  simp only[Op.bytesLess,Bool.or_eq_false_iff,decide_eq_false_iff_not,Bool.and_eq_false_iff,beq_eq_false_iff_ne] at h k
  have e:a=b:=by
   have h1:=h.1;have k1:=k.1
   have:¬ a.toNat<b.toNat:=fun hh=>h1 (UInt8.lt_iff_toNat_lt.2 hh)
   have:¬ b.toNat<a.toNat:=fun hh=>k1 (UInt8.lt_iff_toNat_lt.2 hh)
   exact UInt8.toNat_inj.1 (by omega)
  subst e
  have h2:Op.bytesLess x y=false:=by rcases h.2 with h | h;exact absurd rfl h;exact h
  have k2:Op.bytesLess y x=false:=by rcases k.2 with h | h;exact absurd rfl h;exact h
  rw[bl_tri x y h2 k2]
theorem vQ (a:ByteArray):blt a a=false:=yE _
theorem blt_trans {a b c:ByteArray} (h:blt a b=true) (k:blt b c=true):blt a c=true:=bl_trans _ _ _ h k
theorem blt_tri {a b:ByteArray} (h:blt a b=false) (k:blt b a=false):a=b:=by
 have:=bl_tri _ _ h k
 cases a;cases b
 simp only[ByteArray.mk.injEq]
 exact Array.toList_inj.1 this
theorem blt_asymm {a b:ByteArray} (h:blt a b=true):blt b a=false:=by
 cases e:blt b a with
 | false=>rfl
 | true=>have:=blt_trans h e;rw[vQ] at this;cases this
section
variable {α:Type} (lt:α→α→Bool)
theorem ins_perm (x:α):∀ l:List α,(insB lt x l).Perm (x::l)
 | []=>by simp[insB]
 | y::l=>by
  simp only[insB]
  split
  ·exact ((ins_perm x l).cons y).trans (List.Perm.swap x y l)
  ·exact List.Perm.refl _
theorem mI:∀ l:List α,(pN lt l).Perm l
 | []=>by simp[pN]
 | x::l=>by simp only[pN];exact (ins_perm lt x _).trans ((mI l).cons x)
def Srt (l:List α):Prop:=l.Pairwise fun a b=>lt b a=false
theorem ins_sorted (htr:∀ a b c,lt b a=false→lt c b=false→lt c a=false) (has:∀ a b,lt a b=true→lt b a=false) (x:α):∀ l:List α,Srt lt l→Srt lt (insB lt x l)
 | [],_=>by simp[insB,Srt]
 | y::l,h=>by
  simp only[insB]
  unfold Srt at h
  rw[List.pairwise_cons] at h
  split
  ·rename_i hxy
   refine List.pairwise_cons.2 ⟨fun z hz=>?_,ins_sorted htr has x l h.2⟩
   rcases List.mem_cons.1 ((ins_perm lt x l).mem_iff.1 hz) with rfl | hz
   ·exact has _ _ hxy
   ·exact h.1 z hz
  ·rename_i hxy
   have hxy:lt y x=false:=by simpa using hxy
   refine List.pairwise_cons.2 ⟨fun z hz=>?_,List.pairwise_cons.2 h⟩
   rcases List.mem_cons.1 hz with rfl | hz
   ·exact hxy
   ·exact htr _ _ _ hxy (h.1 z hz)
theorem tU (htr:∀ a b c,lt b a=false→lt c b=false→lt c a=false) (has:∀ a b,lt a b=true→lt b a=false):∀ l:List α,Srt lt (pN lt l)
 | []=>by simp[pN,Srt]
 | x::l=>by simp only[pN];exact ins_sorted lt htr has x _ (tU htr has l)
end
theorem nmLt_asymm (a b:Ty) (h:sG a b=true):sG b a=false:=blt_asymm h
theorem blt_ntr {a b c:ByteArray} (h:blt b a=false) (k:blt c b=false):blt c a=false:=by
 cases e:blt c a with
 | false=>rfl
 | true=>
  cases e2:blt a b with
  | true=>have:=blt_trans e e2;rw[k] at this;cases this
  | false=>have:=blt_tri e2 h;subst this;rw[k] at e;cases e
theorem nmLt_ntr (a b c:Ty) (h:sG b a=false) (k:sG c b=false):sG c a=false:=blt_ntr h k
theorem loLt_asymm (a b:Ty) (h:pF a b=true):pF b a=false:=by simp[pF] at *;omega
theorem loLt_ntr (a b c:Ty) (h:pF b a=false) (k:pF c b=false):pF c a=false:=by simp[pF] at *;omega
theorem strict_ext:∀ {l m:List ByteArray},l.Pairwise (fun a b=>blt a b=true)→m.Pairwise (fun a b=>blt a b=true)→(∀ x,x∈l↔x∈m)→l=m
 | [],[],_,_,_=>rfl
 | [],y::m,_,_,h=>by have:=(h y).2 (by simp);cases this
 | x::l,[],_,_,h=>by have:=(h x).1 (by simp);cases this
 | x::l,y::m,hl,hm,h=>by
  rw[List.pairwise_cons] at hl hm
  have e:x=y:=by
   rcases List.mem_cons.1 ((h x).1 (by simp)) with e | h1
   ·exact e
   rcases List.mem_cons.1 ((h y).2 (by simp)) with e | h2
   ·exact e.symm
   have a:=hm.1 x h1
   have b:=hl.1 y h2
   rw[blt_asymm a] at b;cases b
  subst e
  rw[strict_ext hl.2 hm.2 fun z=>?_]
  constructor
  ·intro hz
   rcases List.mem_cons.1 ((h z).1 (List.mem_cons_of_mem _ hz)) with rfl | h1
   ·have:=hl.1 z hz;rw[vQ] at this;cases this
   ·exact h1
  ·intro hz
   rcases List.mem_cons.1 ((h z).2 (List.mem_cons_of_mem _ hz)) with rfl | h1
   ·have:=hm.1 z hz;rw[vQ] at this;cases this
   ·exact h1
end
section
attribute [local irreducible] T TL
set_option maxRecDepth 10000
structure pY where
 gh:Nat
 ga:Nat
 gc:Nat
 gv:Nat
structure pY.Ok (n:pY):Prop where
 ac:n.gc≠n.ga
 av:n.gv≠n.ga
 ah:n.gh≠n.ga
 cv:n.gv≠n.gc
 ch:n.gh≠n.gc
 vh:n.gh≠n.gv
structure Memo (l:List ClassI) where
 C:MK→Option PV
 V:MK→Option PV
 hC:∀ b p,C (.s b)=some p→p=.bool (closedC l b)
 hV:∀ b p,V (.s b)=some p→p=.bool (voidC l b)
def Memo.nil (l:List ClassI):Memo l:={ C:=fun _=>none,V:=fun _=>none,hC:=(by intro _ _ h;cases h),hV:=(by intro _ _ h;cases h) }
def HK (l:List ClassI) (n:pY) (s:Memo l):aD:=
 aK (aK (aK (aK E n.ga (.map true (atM (hsOf l)))) n.gc (.map true s.C)) n.gv (.map true s.V)) n.gh (.row 0 4 0 [[CS l,.map n.ga,.map n.gc,.map n.gv]])
variable {l:List ClassI} {n:pY} {B:aD}
structure Off (n:pY) (B:aD):Prop where
 a:B n.ga=none
 c:B n.gc=none
 v:B n.gv=none
 h:B n.gh=none
theorem Off.E (n:pY):Off n L.E:=⟨rfl,rfl,rfl,rfl⟩
theorem cM {s:Memo l} {g:Nat}:HK l n s g=none↔g≠n.ga∧g≠n.gc∧g≠n.gv∧g≠n.gh:=by
 unfold HK
 constructor
 ·intro h
  have h4:g≠n.gh:=by rintro rfl;rw[aA] at h;cases h
  rw[aC h4] at h
  have h3:g≠n.gv:=by rintro rfl;rw[aA] at h;cases h
  rw[aC h3] at h
  have h2:g≠n.gc:=by rintro rfl;rw[aA] at h;cases h
  rw[aC h2] at h
  have h1:g≠n.ga:=by rintro rfl;rw[aA] at h;cases h
  exact⟨h1,h2,h3,h4⟩
 ·rintro⟨h1,h2,h3,h4⟩
  rw[aC h4,aC h3,aC h2,aC h1];rfl
theorem HK_Dj (o:Off n B) (s:Memo l):Dj (HK l n s) B:=by
 intro g x hx
 by_cases h4:g=n.gh
 ·subst h4;exact o.h
 by_cases h3:g=n.gv
 ·subst h3;exact o.v
 by_cases h2:g=n.gc
 ·subst h2;exact o.c
 by_cases h1:g=n.ga
 ·subst h1;exact o.a
 rw[cM.2 ⟨h1,h2,h3,h4⟩] at hx;cases hx
theorem Off.upd {g:Nat} {x:AO} (o:Off n B) {s:Memo l} (hg:bC (HK l n s) B g=none):Off n (L.aK B g x):=by
 obtain⟨h,_⟩:=bL.1 hg
 obtain⟨h1,h2,h3,h4⟩:=cM.1 h
 exact⟨by rw[aC (Ne.symm h1)];exact o.a,by rw[aC (Ne.symm h2)];exact o.c,by rw[aC (Ne.symm h3)];exact o.v,by rw[aC (Ne.symm h4)];exact o.h⟩
theorem Off.set {g:Nat} {x y:AO} (o:Off n B) (hg:B g=some y):Off n (L.aK B g x):=by
 have k:∀ {m},B m=none→L.aK B g x m=none:=fun {m} hm=>by
  rw[aC (by rintro rfl;rw[hg] at hm;cases hm)];exact hm
 exact⟨k o.a,k o.c,k o.v,k o.h⟩
theorem sE {s:Memo l}:bC (HK l n s) B n.gh=some (.row 0 4 0 [[CS l,.map n.ga,.map n.gc,.map n.gv]]):=dM (by unfold HK;rw[aA])
theorem HK_v (k:n.Ok) {s:Memo l}:bC (HK l n s) B n.gv=some (.map true s.V):=dM (by unfold HK;rw[aC (Ne.symm k.vh),aA])
theorem HK_c (k:n.Ok) {s:Memo l}:bC (HK l n s) B n.gc=some (.map true s.C):=dM (by unfold HK;rw[aC (Ne.symm k.ch),aC (Ne.symm k.cv),aA])
theorem HK_a (k:n.Ok) {s:Memo l}:bC (HK l n s) B n.ga=some (.map true (atM (hsOf l))):=dM (by unfold HK;rw[aC (Ne.symm k.ah),aC (Ne.symm k.av),aC (Ne.symm k.ac),aA])
theorem memo_add {l:List ClassI} {f:ByteArray→Bool} {C:MK→Option PV} (h:∀ b p,C (.s b)=some p→p=.bool (f b)) (b:ByteArray):∀ b' p,fD C (.s b) (.bool (f b)) (.s b')=some p→p=.bool (f b'):=fun b' p k=>by
 by_cases e:b'=b
 ·subst e;simp[fD] at k;exact k.symm
 ·have:¬ (MK.s b'=MK.s b):=by simpa using e
  simp only[fD,this,if_false] at k
  exact h b' p k
def Memo.addC {l:List ClassI} (s:Memo l) (b:ByteArray):Memo l:={ C:=fD s.C (.s b) (.bool (closedC l b)),V:=s.V,hC:=memo_add (l:=l) s.hC b,hV:=s.hV }
def Memo.addV {l:List ClassI} (s:Memo l) (b:ByteArray):Memo l:={ C:=s.C,V:=fD s.V (.s b) (.bool (voidC l b)),hC:=s.hC,hV:=memo_add (l:=l) s.hV b }
theorem cK {S:aD} {a b:Nat} {x y:AO} (h:a≠b):aK (aK S a x) b y=aK (aK S b y) a x:=by
 funext g
 by_cases e:g=b
 ·subst e;rw[aA,aC (Ne.symm h),aA]
 ·by_cases e2:g=a
  ·subst e2;rw[aC e,aA,aA]
  ·rw[aC e,aC e2,aC e2,aC e]
theorem HK_addC (k:n.Ok) (s:Memo l) (b:ByteArray):aK (bC (HK l n s) B) n.gc (.map true (fD s.C (.s b) (.bool (closedC l b))))=bC (HK l n (s.addC b)) B:=by
 rw[mC]
 congr 1
 unfold HK Memo.addC
 rw[cK k.ch,cK k.cv,aN]
theorem HK_addV (k:n.Ok) (s:Memo l) (b:ByteArray):aK (bC (HK l n s) B) n.gv (.map true (fD s.V (.s b) (.bool (voidC l b))))=bC (HK l n (s.addV b)) B:=by
 rw[mC]
 congr 1
 unfold HK Memo.addV
 rw[cK k.vh,aN]
def FnH (l:List ClassI) (n:pY) (B:aD) (f:Nat) (args:List PV) (v:PV):Prop:=
 ∀ s:Memo l,Fn PP f args (bC (HK l n s) B) fun o S'=>∃ s':Memo l,o=.ret v∧S'=bC (HK l n s') B
theorem jG {f:Nat} {args:List PV} {v:PV} {s:Memo l} {kr kp:PV→aD→Prop} (h:FnH l n B f args v) (hk:∀ s',kr v (bC (HK l n s') B)):kJ PP f args (bC (HK l n s) B) kr kp:=by
 refine aV (h s) (aB _) ?_
 rintro o S' ⟨s',rfl,rfl⟩ -
 unfold dR
 rw[cW]
 exact hk s'
theorem FnH.frame {f:Nat} {args:List PV} {v:PV} {C:aD} (h:FnH l n B f args v) (o:Off n B) (oc:Off n C) (hs:bV C B):FnH l n C f args v:=fun s=>by
 refine⟨(h s).1,fun w fr m vs rel ha=>?_⟩
 have hle:bV (bC (HK l n s) C) (bC (HK l n s) B):=fun g x hx=>by
  cases e:HK l n s g with
  | some y=>rw[dM e] at hx ⊢;exact hx
  | none=>rw[gU e] at hx ⊢;exact hs g x hx
 refine ((h s).2 w fr m vs (rel.weak hle) ha).mono ?_
 rintro e w' ⟨o',S',fr',m',⟨s',rfl,rfl⟩,ho,r',st⟩
 obtain⟨h1,h2,_⟩:=sZ rel hle r' st
 have e1:jD (bC (HK l n s) C) (bC (HK l n s) B) (bC (HK l n s') B)=bC (HK l n s') C:=by
  funext g
  have hn:HK l n s g=none↔HK l n s' g=none:=by rw[cM,cM]
  cases e:HK l n s' g with
  | some y=>simp[jD,bC,e]
  | none=>
   have e':=hn.2 e
   cases eb:B g with
   | some y=>simp[jD,bC,e,e',eb,hs g y eb]
   | none=>simp[jD,bC,e,e',eb]
 rw[e1] at h1 h2
 exact⟨_,_,fr',m',⟨s',rfl,rfl⟩,ho,h1,h2⟩
end
structure Hier (l:List ClassI):Prop where
 g:Heirs (hsOf l)
 lo:11≤l.length
 base:l.take 11=baseL
 ok:okFrom 0 [] l=true
 cpl:cplsOk l=true
theorem dP (l:List ClassI):(hsOf l).length=l.length:=by simp[hsOf]
theorem eJ {l:List ClassI} {i:Nat} (h:i<l.length) (h':i<(hsOf l).length):(hsOf l)[i]=(l[i].name,l[i].supers):=by simp[hsOf,ClassI.heir]
theorem Hier.len {l:List ClassI} (h:Hier l):l.length≤120:=by have:=h.g.len;rwa [dP] at this
theorem pR {l:List ClassI} (h:lookB l=true):Hier l:=by
 unfold lookB at h
 simp only[Bool.and_eq_true,decide_eq_true_eq] at h
 obtain⟨⟨⟨⟨h1,h2⟩,h3⟩,h4⟩,h5⟩:=h
 refine⟨xX ?_,h2,h3,h4,h5⟩
 unfold cplsOk aAa at h5
 by_cases e:cX (hsOf l)=0
 ·exact e
 ·rw[if_pos e] at h5
  simp[e] at h5
theorem mF {l:List ClassI} {b:ByteArray} {i:Nat} (h:mZ l b=some i):∃ hi:i<l.length,l[i].name=b:=by
 obtain⟨h1,h2⟩:=rY h
 have hi:i<l.length:=by rwa [dP] at h1
 refine⟨hi,?_⟩
 rw[eJ hi] at h2
 exact h2
theorem Hier.at {l:List ClassI} (h:Hier l) {i:Nat} (hi:i<l.length):mZ l l[i].name=some i:=by
 have:=h.g.at (i:=i) (by rw[dP];exact hi)
 rw[eJ hi] at this
 exact this
theorem Hier.sup {l:List ClassI} (h:Hier l) {i:Nat} (hi:i<l.length) {s:ByteArray} (hs:s∈l[i].supers):∃ k,k<i∧mZ l s=some k:=by
 have:=h.g.atsup (i:=i) (by rw[dP];exact hi) (s:=s) (by rw[eJ hi];exact hs)
 exact this
def pA (l:List ClassI) (b:ByteArray):Nat:=match mZ l b with
 | some i=>l.length - i
 | none=>0
theorem getC_some {l:List ClassI} {b:ByteArray} {c:ClassI}:sD l b=some c↔∃ i,∃ h:i<l.length,mZ l b=some i∧l[i]=c:=by
 unfold sD
 cases e:mZ l b with
 | none=>simp
 | some i=>
  obtain⟨hi,hn⟩:=mF e
  simp only[Option.bind_some,List.getElem?_eq_getElem hi,Option.some.injEq]
  constructor
  ·rintro rfl;exact⟨i,hi,rfl,rfl⟩
  ·rintro⟨j,hj,rfl,rfl⟩;rfl
theorem pO {l:List ClassI} {b:ByteArray} {i:Nat} (h:mZ l b=some i) (hi:i<l.length):sD l b=some l[i]:=getC_some.2 ⟨i,hi,h,rfl⟩
theorem getC_no {l:List ClassI} {b:ByteArray} (h:mZ l b=none):sD l b=none:=by unfold sD;rw[h];rfl
theorem subs_mem {l:List ClassI} {b s:ByteArray}:s∈gV l b↔∃ j,∃ h:j<l.length,l[j].name=s∧b∈l[j].supers:=by
 unfold gV
 simp only[List.mem_map,List.mem_filter,jE]
 constructor
 ·rintro⟨c,⟨hc,hb⟩,rfl⟩
  obtain⟨j,hj,rfl⟩:=List.getElem_of_mem hc
  exact⟨j,hj,rfl,hb⟩
 ·rintro⟨j,hj,rfl,hb⟩
  exact⟨l[j],⟨List.getElem_mem hj,hb⟩,rfl⟩
theorem jZ {l:List ClassI} (h:Hier l) {b s:ByteArray} (hs:s∈gV l b):pA l s<pA l b:=by
 obtain⟨j,hj,rfl,hb⟩:=subs_mem.1 hs
 obtain⟨k,hk,e⟩:=h.sup hj hb
 unfold pA
 rw[e,h.at hj]
 dsimp only
 omega
theorem lX {α:Type} {f g:α→Bool}:∀ {l:List α},(∀ x∈l,f x=g x)→l.all f=l.all g
 | [],_=>rfl
 | x::l,h=>by simp only[List.all_cons];rw[h x (by simp),lX fun y hy=>h y (by simp[hy])]
theorem closedN_eq {l:List ClassI} (h:Hier l):∀ (r:Nat) (n m:Nat) (b:ByteArray),pA l b=r→r<n→r<m→rG l n b=rG l m b:=by
 intro r
 induction r using Nat.strongRecOn with
 | _ r ih=>
  intro n m b hr hn hm
  obtain⟨n,rfl⟩:∃ k,n=k+1:=⟨n - 1,by omega⟩
  obtain⟨m,rfl⟩:∃ k,m=k+1:=⟨m - 1,by omega⟩
  simp only[rG]
  cases sD l b with
  | none=>rfl
  | some c=>
   dsimp only
   rw[lX fun s hs=>?_]
   have:=jZ h hs
   exact ih _ (by omega) n m s rfl (by omega) (by omega)
theorem rank_le (l:List ClassI) (b:ByteArray):pA l b≤l.length:=by
 unfold pA
 split <;> omega
theorem closedC_eq {l:List ClassI} (h:Hier l) (b:ByteArray):closedC l b=match sD l b with
  | some c=>c.sealed && (gV l b).all (closedC l)
  | none=>false:=by
 show rG l (l.length+1) b=_
 simp only[rG]
 cases sD l b with
 | none=>rfl
 | some c=>
  dsimp only
  rw[lX fun s hs=>?_]
  have:=jZ h hs
  have:=rank_le l b
  exact closedN_eq h _ _ _ s rfl (by omega) (by omega)
theorem voidN_eq {l:List ClassI} (h:Hier l):∀ (r:Nat) (n m:Nat) (b:ByteArray),pA l b=r→r<n→r<m→voidN l n b=voidN l m b:=by
 intro r
 induction r using Nat.strongRecOn with
 | _ r ih=>
  intro n m b hr hn hm
  obtain⟨n,rfl⟩:∃ k,n=k+1:=⟨n - 1,by omega⟩
  obtain⟨m,rfl⟩:∃ k,m=k+1:=⟨m - 1,by omega⟩
  simp only[voidN]
  rw[lX fun s hs=>?_]
  have:=jZ h hs
  exact ih _ (by omega) n m s rfl (by omega) (by omega)
theorem voidC_eq {l:List ClassI} (h:Hier l) (b:ByteArray):voidC l b=(closedC l b && absC l b && (gV l b).all (voidC l)):=by
 show voidN l (l.length+1) b=_
 simp only[voidN]
 rw[lX fun s hs=>?_]
 have:=jZ h hs
 have:=rank_le l b
 exact voidN_eq h _ _ _ s rfl (by omega) (by omega)
theorem coveredN_eq {l:List ClassI} (h:Hier l) (ys:List Ty):∀ (r:Nat) (n m:Nat) (x:Ty),pA l x.name=r→r<n→r<m→oW l ys n x=oW l ys m x:=by
 intro r
 induction r using Nat.strongRecOn with
 | _ r ih=>
  intro n m x hr hn hm
  obtain⟨n,rfl⟩:∃ k,n=k+1:=⟨n - 1,by omega⟩
  obtain⟨m,rfl⟩:∃ k,m=k+1:=⟨m - 1,by omega⟩
  simp only[oW]
  rw[lX fun s hs=>?_]
  have:=jZ h hs
  exact ih _ (by rw[← hr];exact this) n m (classT s) rfl (show pA l s<_ by omega) (show pA l s<_ by omega)
theorem coveredB_eq {l:List ClassI} (h:Hier l) (ys:List Ty) (x:Ty):iE l ys x=(ys.any (coverB l x) || (decide (x.kind=1) && closedC l x.name && absC l x.name && (gV l x.name).all fun s=>iE l ys (classT s))):=by
 show oW l ys (l.length+1) x=_
 simp only[oW]
 rw[lX fun s hs=>?_]
 have:=jZ h hs
 have:=rank_le l x.name
 exact coveredN_eq h ys _ _ _ (classT s) rfl (show pA l s<_ by omega) (show pA l s<_ by omega)
section
attribute [local irreducible] T TL
set_option maxRecDepth 10000
def FnS {St:Type} (st:St→aD) (f:Nat) (args:List PV) (v:PV):Prop:=∀ s,Fn PP f args (st s) fun o S'=>∃ s',o=.ret v∧S'=st s'
theorem fA {St:Type} {st:St→aD} {f:Nat} {args:List PV} {v:PV} {s:St} {kr kp:PV→aD→Prop} (h:FnS st f args v) (hk:∀ s',kr v (st s')):kJ PP f args (st s) kr kp:=by
 refine aV (h s) (aB _) ?_
 rintro o S' ⟨s',rfl,rfl⟩ -
 unfold dR
 rw[cW]
 exact hk s'
theorem indexFuncB {St:Type} {st:St→aD} (l:List ByteArray) (k:Nat) (a c:List PV) (p:ByteArray→Bool) (hp:∀ x∈l,FnS st k (a++[.str x]++c) (.bool (p x))):FnS st 221 [LS l,.fn (.func k) a c] (.int .i64 (cQ p l)):=by
 intro s0
 refine aJ aI Tryz.func221 rfl (by rfl) (by rfl) ?_
 refine aX ?_;intros
 refine aU (aY (α:=St × Nat) (inv:=fun x=>x.2≤l.length∧∀ j (_:j<x.2) (h':j<l.length),p l[j]=false) (tm:=fun x=>gF 19 [(0,LS l),(1,.fn (.func k) a c),(7,.int .i64 l.length),(8,.int .i64 x.2)]) (st:=fun x=>st x.1) (μ:=fun x=>l.length - x.2) (s0,0) ⟨by simp,by simp⟩ ?_ (aB _) ?_)
 ·repeat' (first | exact trivial | exact rfl | refine And.intro ?_ ?_)
  simp
 rintro⟨s,i⟩ ⟨hi,hpre⟩
 dsimp only at hi hpre ⊢
 refine aX ?_;intros
 refine And.intro (fun hc=>?_) (fun hc=>?_)
 ·have hlt:i<l.length:=by simpa using hc
  refine aX ?_;intros
  refine bS hlt ?_
  refine aX ?_;intros
  simp only[iS]
  refine fA (hp _ (List.getElem_mem hlt)) fun s'=>?_
  refine aX ?_;intros
  refine And.intro (fun hc=>?_) (fun hc=>?_)
  ·conv=>whnf
   refine aX ?_;intros
   refine Exists.intro _ (And.intro (aB _) ?_)
   exact⟨s',by rw[iM hlt hc hpre],rfl⟩
  ·conv=>whnf
   refine aX ?_;intros
   refine⟨(s',i+1),⟨by dsimp only;omega,fun j hj h'=>?_⟩,by dsimp only;omega,?_,aB _⟩
   ·dsimp only at hj
    by_cases e:j=i
    ·subst e;exact hc
    ·exact hpre j (by omega) h'
   ·repeat' (first | exact trivial | exact rfl | refine And.intro ?_ ?_)
 ·have hge:¬ i<l.length:=by simpa using hc
  refine aX ?_;intros
  refine Exists.intro _ (And.intro (aB _) ?_)
  exact⟨s,by rw[eN fun j h'=>hpre j (by omega) h'],rfl⟩
theorem mQ {St:Type} {st:St→aD} (l:List ByteArray) (k:Nat) (a c:List PV) (p:ByteArray→Bool) (hp:∀ x∈l,FnS st k (a++[.str x]++c) (.bool (p x))):FnS st 188 [LS l,.fn (.func k) a c] (.bool (l.any p)):=by
 intro s0
 refine aJ aI Tryz.func188 rfl (by rfl) (by rfl) ?_
 refine aX ?_;intros
 refine fA (indexFuncB l k a c p hp) fun s'=>?_
 refine aX ?_;intros
 refine Exists.intro _ (And.intro (aB _) ?_)
 exact⟨s',by rw[← nI],rfl⟩
theorem indexFuncT {St:Type} {st:St→aD} (l:List Ty) (k:Nat) (a c:List PV) (p:Ty→Bool) (hp:∀ x∈l,FnS st k (a++[TV x]++c) (.bool (p x))):FnS st 211 [TS l,.fn (.func k) a c] (.int .i64 (cQ p l)):=by
 intro s0
 refine aJ aI Tryz.func211 rfl (by rfl) (by rfl) ?_
 refine aX ?_;intros
 refine aU (aY (α:=St × Nat) (inv:=fun x=>x.2≤l.length∧∀ j (_:j<x.2) (h':j<l.length),p l[j]=false) (tm:=fun x=>gF 19 [(0,TS l),(1,.fn (.func k) a c),(7,.int .i64 l.length),(8,.int .i64 x.2)]) (st:=fun x=>st x.1) (μ:=fun x=>l.length - x.2) (s0,0) ⟨by simp,by simp⟩ ?_ (aB _) ?_)
 ·repeat' (first | exact trivial | exact rfl | refine And.intro ?_ ?_)
  simp
 rintro⟨s,i⟩ ⟨hi,hpre⟩
 dsimp only at hi hpre ⊢
 refine aX ?_;intros
 refine And.intro (fun hc=>?_) (fun hc=>?_)
 ·have hlt:i<l.length:=by simpa using hc
  refine aX ?_;intros
  refine bS hlt ?_
  refine aX ?_;intros
  simp only[iS]
  refine fA (hp _ (List.getElem_mem hlt)) fun s'=>?_
  refine aX ?_;intros
  refine And.intro (fun hc=>?_) (fun hc=>?_)
  ·conv=>whnf
   refine aX ?_;intros
   refine Exists.intro _ (And.intro (aB _) ?_)
   exact⟨s',by rw[iM hlt hc hpre],rfl⟩
  ·conv=>whnf
   refine aX ?_;intros
   refine⟨(s',i+1),⟨by dsimp only;omega,fun j hj h'=>?_⟩,by dsimp only;omega,?_,aB _⟩
   ·dsimp only at hj
    by_cases e:j=i
    ·subst e;exact hc
    ·exact hpre j (by omega) h'
   ·repeat' (first | exact trivial | exact rfl | refine And.intro ?_ ?_)
 ·have hge:¬ i<l.length:=by simpa using hc
  refine aX ?_;intros
  refine Exists.intro _ (And.intro (aB _) ?_)
  exact⟨s,by rw[eN fun j h'=>hpre j (by omega) h'],rfl⟩
theorem kI {St:Type} {st:St→aD} (l:List Ty) (k:Nat) (a c:List PV) (p:Ty→Bool) (hp:∀ x∈l,FnS st k (a++[TV x]++c) (.bool (p x))):FnS st 179 [TS l,.fn (.func k) a c] (.bool (l.any p)):=by
 intro s0
 refine aJ aI Tryz.func179 rfl (by rfl) (by rfl) ?_
 refine aX ?_;intros
 refine fA (indexFuncT l k a c p hp) fun s'=>?_
 refine aX ?_;intros
 refine Exists.intro _ (And.intro (aB _) ?_)
 exact⟨s',by rw[← nI],rfl⟩
theorem equalFuncC (l:List ClassI) (m:List ClassI) (k:Nat) (p:ClassI→ClassI→Bool) (hp:∀ x y,FnP PP k [CV x,CV y] (.bool (p x y))):FnP PP 157 [CS l,CS m,.fn (.func k) [] []] (.bool (decide (l.length=m.length) && (l.zip m).all fun x=>p x.1 x.2)):=by
 haveI:∀ x y,cH k [CV x,CV y] (.bool (p x y)):=fun x y=>⟨hp x y⟩
 refine aJ aI Tryz.func157 rfl (by rfl) (by rfl) ?_
 refine go ?_;intros
 refine ifN (fun hn=>?_) (fun hn=>?_)
 ·refine go ?_;intros
  refine⟨E,aM _,?_,rfl⟩
  have:¬ l.length=m.length:=by simp at hn;omega
  simp[this]
 ·have hn:l.length=m.length:=by simp at hn;omega
  refine go ?_;intros
  refine aU (aY (α:=Nat) (inv:=fun i=>i≤l.length∧∀ j (h1:j<i) (h2:j<l.length) (h3:j<m.length),p l[j] m[j]=true) (tm:=fun i=>gF 32 [(1,CS m),(2,.fn (.func k) [] []),(15,CS l),(16,.int .i64 l.length),(17,.int .i64 i)]) (st:=fun _=>E) (μ:=fun i=>l.length - i) 0 ⟨by omega,fun j h=>absurd h (by omega)⟩ ?_ (aM _) ?_)
  ·repeat' (first | exact trivial | exact rfl | refine And.intro ?_ ?_)
   simp
  rintro i ⟨hi,hpre⟩
  refine go ?_;intros
  refine fC (fun hc=>?_) (fun hc=>?_)
  ·have hlt:i<l.length:=by simpa using hc
   have hlm:i<m.length:=by omega
   refine go ?_;intros
   refine aG fun g1 hg1=>?_
   refine go ?_;intros
   refine aG fun g2 hg2=>?_
   refine aF ?_;intros
   refine And.intro (fun h=>?_) (fun h=>?_)
   ·have h:p l[i] m[i]=false:=by simpa using h
    refine go ?_;intros
    refine⟨E,aM _,?_,rfl⟩
    have:(l.zip m).all (fun x=>p x.1 x.2)=false:=by
     rw[List.all_eq_false]
     exact⟨(l[i],m[i]),by rw[List.mem_iff_getElem];exact⟨i,by simp;omega,by simp⟩,by simp[h]⟩
    rw[this,Bool.and_false]
   ·have h:p l[i] m[i]=true:=by simpa using h
    refine go ?_;intros
    refine⟨i+1,⟨by omega,fun j h1 h2 h3=>?_⟩,by omega,?_,aM _⟩
    ·by_cases e:j=i
     ·subst e;exact h
     ·exact hpre j (by omega) h2 h3
    ·repeat' (first | exact trivial | exact rfl | refine And.intro ?_ ?_)
  ·have hge:¬ i<l.length:=by simpa using hc
   refine go ?_;intros
   refine⟨E,aM _,?_,rfl⟩
   have:(l.zip m).all (fun x=>p x.1 x.2)=true:=by
    rw[List.all_eq_true]
    intro x hx
    obtain⟨j,hj,rfl⟩:=List.getElem_of_mem hx
    simp at hj
    simpa using hpre j (by omega) (by omega) (by omega)
   rw[this,hn];simp
theorem equalFuncP (l:List ClassI) (m:List (List ByteArray)) (k:Nat) (p:ClassI→(List ByteArray)→Bool) (hp:∀ x y,FnP PP k [CV x,LS y] (.bool (p x y))):FnP PP 162 [CS l,uN m,.fn (.func k) [] []] (.bool (decide (l.length=m.length) && (l.zip m).all fun x=>p x.1 x.2)):=by
 haveI:∀ x y,cH k [CV x,LS y] (.bool (p x y)):=fun x y=>⟨hp x y⟩
 refine aJ aI Tryz.func162 rfl (by rfl) (by rfl) ?_
 refine go ?_;intros
 refine ifN (fun hn=>?_) (fun hn=>?_)
 ·refine go ?_;intros
  refine⟨E,aM _,?_,rfl⟩
  have:¬ l.length=m.length:=by simp at hn;omega
  simp[this]
 ·have hn:l.length=m.length:=by simp at hn;omega
  refine go ?_;intros
  refine aU (aY (α:=Nat) (inv:=fun i=>i≤l.length∧∀ j (h1:j<i) (h2:j<l.length) (h3:j<m.length),p l[j] m[j]=true) (tm:=fun i=>gF 32 [(1,uN m),(2,.fn (.func k) [] []),(15,CS l),(16,.int .i64 l.length),(17,.int .i64 i)]) (st:=fun _=>E) (μ:=fun i=>l.length - i) 0 ⟨by omega,fun j h=>absurd h (by omega)⟩ ?_ (aM _) ?_)
  ·repeat' (first | exact trivial | exact rfl | refine And.intro ?_ ?_)
   simp
  rintro i ⟨hi,hpre⟩
  refine go ?_;intros
  refine fC (fun hc=>?_) (fun hc=>?_)
  ·have hlt:i<l.length:=by simpa using hc
   have hlm:i<m.length:=by omega
   refine go ?_;intros
   refine aG fun g1 hg1=>?_
   refine go ?_;intros
   refine And.intro (fun h=>?_) (fun h=>?_)
   ·have h:p l[i] m[i]=false:=by simpa using h
    refine go ?_;intros
    refine⟨E,aM _,?_,rfl⟩
    have:(l.zip m).all (fun x=>p x.1 x.2)=false:=by
     rw[List.all_eq_false]
     exact⟨(l[i],m[i]),by rw[List.mem_iff_getElem];exact⟨i,by simp;omega,by simp⟩,by simp[h]⟩
    rw[this,Bool.and_false]
   ·have h:p l[i] m[i]=true:=by simpa using h
    refine go ?_;intros
    refine⟨i+1,⟨by omega,fun j h1 h2 h3=>?_⟩,by omega,?_,aM _⟩
    ·by_cases e:j=i
     ·subst e;exact h
     ·exact hpre j (by omega) h2 h3
    ·repeat' (first | exact trivial | exact rfl | refine And.intro ?_ ?_)
  ·have hge:¬ i<l.length:=by simpa using hc
   refine go ?_;intros
   refine⟨E,aM _,?_,rfl⟩
   have:(l.zip m).all (fun x=>p x.1 x.2)=true:=by
    rw[List.all_eq_true]
    intro x hx
    obtain⟨j,hj,rfl⟩:=List.getElem_of_mem hx
    simp at hj
    simpa using hpre j (by omega) (by omega) (by omega)
   rw[this,hn];simp
end
section
attribute [local irreducible] T TL
set_option maxRecDepth 10000
def FzL (g ver sz e:Nat) (xs:List (List PV)):List PV→List PV→Prop
 | [],[]=>True
 | p::ps,q::qs=>FzV g ver sz e xs p q∧FzL g ver sz e xs ps qs
 | _,_=>False
theorem FzL.len {g ver sz e:Nat} {xs:List (List PV)}:∀ {ps qs:List PV},FzL g ver sz e xs ps qs→ps.length=qs.length
 | [],[],_=>rfl
 | _::ps,_::qs,h=>by simp[FzL.len (ps:=ps) (qs:=qs) h.2]
theorem FzL.get {g ver sz e:Nat} {xs:List (List PV)}:∀ {ps qs:List PV},FzL g ver sz e xs ps qs→∀ (i:Nat) (h1:i<ps.length) (h2:i<qs.length),FzV g ver sz e xs ps[i] qs[i]
 | p::ps,q::qs,h,0,_,_=>h.1
 | p::ps,q::qs,h,i+1,h1,h2=>FzL.get h.2 i (by simpa using h1) (by simpa using h2)
 | [],_,_,_,h1,_=>absurd h1 (by simp)
theorem fzA {g ver sz e:Nat} {xs:List (List PV)} {ps qs:List PV} (h:FzL g ver sz e xs ps qs):FzV g ver sz e xs (.agg ps) (.agg qs):=.agg _ _ h.len h.get
theorem fzT {g ver sz e:Nat} {xs:List (List PV)} {ps qs:List PV} (h:FzL g ver sz e xs ps qs):FzV g ver sz e xs (.tup ps) (.tup qs):=.tup _ _ h.len h.get
def aAc:List PV→List PV→Prop
 | [],[]=>True
 | p::ps,q::qs=>NilV p q∧aAc ps qs
 | _,_=>False
theorem aAc.len:∀ {ps qs:List PV},aAc ps qs→ps.length=qs.length
 | [],[],_=>rfl
 | _::ps,_::qs,h=>by simp[aAc.len (ps:=ps) (qs:=qs) h.2]
theorem aAc.get:∀ {ps qs:List PV},aAc ps qs→∀ (i:Nat) (h1:i<ps.length) (h2:i<qs.length),NilV ps[i] qs[i]
 | p::ps,q::qs,h,0,_,_=>h.1
 | p::ps,q::qs,h,i+1,h1,h2=>aAc.get h.2 i (by simpa using h1) (by simpa using h2)
 | [],_,_,_,h1,_=>absurd h1 (by simp)
theorem nilA {ps qs:List PV} (h:aAc ps qs):NilV (.agg ps) (.agg qs):=.agg _ _ h.len h.get
theorem nilT {ps qs:List PV} (h:aAc ps qs):NilV (.tup ps) (.tup qs):=.tup _ _ h.len h.get
theorem rA {e:Nat} {p q:List PV} {xs ys:List (List PV)} (h:aAc p q) (k:NilV (.list e xs) (.list e ys)):NilV (.list e (p::xs)) (.list e (q::ys)):=by
 have hl:=h.len
 have hg:=h.get
 cases k with
 | same=>exact .list _ _ _ rfl (fun i h1 h2=>by cases i with
   | zero=>exact hl
   | succ i=>rfl) (fun i h1 h2 j h3 h4=>by cases i with
   | zero=>exact hg j h3 h4
   | succ i=>exact .same _)
 | list _ _ _ hl' hs' h'=>exact .list _ _ _ (by simp[hl']) (fun i h1 h2=>by cases i with
   | zero=>exact hl
   | succ i=>exact hs' i (by simpa using h1) (by simpa using h2)) (fun i h1 h2 j h3 h4=>by cases i with
   | zero=>exact hg j h3 h4
   | succ i=>exact h' i (by simpa using h1) (by simpa using h2) j h3 h4)
theorem Fn_nil {f:Nat} {args args':List PV} {S:aD} {R:iY→aD→Prop} (h:Fn PP f args' S R) (hn:aAc args args'):Fn PP f args S R:=
 ⟨h.1,fun w fr m vs rel ha=>h.2 w fr m vs rel ⟨ha.1.trans hn.len,fun i h1 h2=>(hn.get i (by rw[hn.len];exact h2) h2).rep (ha.2 i h1 (by rw[hn.len];exact h2))⟩⟩
theorem fE {S:aD} {g:Nat} {x:AO} (h:S g=some x):bV S (aK E g x):=fun k y hy=>by
 by_cases e:k=g
 ·subst e;rw[aA] at hy;rw[h,hy]
 ·rw[aC e] at hy;cases hy
theorem gY (n:ByteArray) (up:List ByteArray) (hu:up.length≤100):FnP PP 187 [.str n,LS up] (CV (eA n up false false)):=by
 refine cL (aJ aI Tryz.func187 rfl (by rfl) (by rfl) ?_)
 refine goMB ?_;intros
 refine aG fun g0 hg0=>?_
 refine goMB ?_;intros
 refine .inr (aG fun g1 hg1=>?_)
 refine goMB ?_;intros
 refine And.intro (show (1+(up.map eS).length)*16≤140737488355328 by simp;omega) ?_
 refine goMB ?_;intros
 rw[aN]
 refine aG fun g2 hg2=>?_
 refine aF ?_;intros
 have fin:∀ q,NilV q (LS (up.take 1))→aO (.ret (.agg [PV.str n,PV.str { data:=#[] },q,PV.row g1 (0+1) 0 (1+(List.map eS up).length) (aH GT 9).size,PV.bool false,PV.bool false])) (aK E g1 (AO.row (0+1) (aH GT 9).size (aH GT 9).bytes ([[PV.str n]]++List.map eS up))) fun o S'=>o=iY.ret (CV (eA n up false false))∧S'=E:=fun q hq=>
  aO.freeze (q:=.agg [PV.str n,PV.str { data:=#[] },q,LS (n::up),PV.bool false,PV.bool false]) (aA _ _ _) (fzA ⟨.same _,.same _,.same _,eQ (by simp;omega),.same _,.same _,trivial⟩)
   (aO.nilv (q:=CV (eA n up false false)) (nilA ⟨.same _,.same _,hq,.same _,.same _,.same _,trivial⟩) (aO.weak (aM _) (aO.same ⟨rfl,rfl⟩)))
 have n10:g1≠g0:=aL (aA _ _ _) hg1
 refine And.intro (fun hc=>?_) (fun hc=>?_)
 ·have h1:1≤up.length:=by simp at hc;omega
  refine aF ?_;intros
  exact⟨_,fE (by rw[aC n10];exact aE (aA _ _ _) hg2),fin _ (.same _)⟩
 ·have h1:up=[]:=by simp at hc;exact hc
  subst h1
  refine aF ?_;intros
  exact⟨_,fE (by rw[aC n10];exact aE (aA _ _ _) hg2),fin _ (.nils 16)⟩
theorem newW_as {S:aD} {x y:AO} {k:Nat→aD→Prop} (h:x=y) (hk:rJ S y k):rJ S x k:=h ▸ hk
theorem stW_rec {α:Type} {S:aD} {g ver i j sz e:Nat} {f:α→List PV} {l:List α} {c:List PV} {k:aD→Prop} (y:α) (h:S g=some (.row ver sz e (l.map f))) (hi:i<l.length) (hj:j+c.length≤(f l[i]).length)
  (hy:lE (f l[i]) j c fun new=>new=f y) (hk:k (aK S g (.row ver sz e ((l.set i y).map f)))):stW S g ver i j sz c k:=by
 refine eR h (by simp[hi];rfl) (by simpa using hj) fun new hn=>?_
 rw[pC] at hy hn
 have e1:new=f y:=hn.symm.trans hy
 subst e1
 rw[List.map_set] at hk
 exact hk
theorem sN {α:Type} {S:aD} {g ver i j sz e:Nat} {f:α→List PV} {l:List α} {c:List PV} {k:aD→Prop} (y:α) (h:S g=some (.row ver sz e (l.map f))) (hi:i<l.length) (hj:j+c.length≤(f l[i]).length)
  (hy:lE (f l[i]) j c fun new=>new=f y) (hk:k (aK S g (.row ver sz e ((l.set i y).map f)))):stW S g ver (0+i) j sz c k:=by
 rw[Nat.zero_add];exact stW_rec y h hi hj hy hk
def base0:List ClassI:=
  [eA aP [] false false,eA cS [aP] false false,eA dX [aP] false false,eA iK [aP] false false,eA kS [aP] false false,
   eA bM [aP] false false,eA gH [bM,aP] false false,eA uW [bM,aP] false false,eA uS [bM,aP] false false,
   eA pS [gH,bM,aP] false false,eA nmFault [pS,gH,bM,aP] false false]
abbrev sealC (c:ClassI):ClassI:=⟨c.name,c.lib,c.supers,c.cpl,c.abs,true⟩
def zR (i:Nat):List ClassI:=
  [eA aP [] true false,eA cS [aP] false (decide (0<i)),eA dX [aP] false (decide (1<i)),eA iK [aP] false (decide (2<i)),eA kS [aP] false (decide (3<i)),
   eA bM [aP] false false,eA gH [bM,aP] false false,eA uW [bM,aP] false false,eA uS [bM,aP] false false,
   eA pS [gH,bM,aP] false false,eA nmFault [pS,gH,bM,aP] false false]
theorem Base_spec:FnP PP 156 [] (CS baseL):=by
 refine cL (aJ aI Tryz.func156 rfl (by rfl) (by rfl) ?_)
 refine aF ?_;intros
 refine bE (Fn_nil (args':=[.str aP,LS []]) (gY aP [] (by decide)) ⟨.same _,.nils 16,trivial⟩) ?_
 refine aF ?_;intros
 refine bE (gY cS [aP] (by decide)) ?_
 refine aF ?_;intros
 refine bE (gY dX [aP] (by decide)) ?_
 refine aF ?_;intros
 refine bE (gY iK [aP] (by decide)) ?_
 refine aF ?_;intros
 refine bE (gY kS [aP] (by decide)) ?_
 refine aF ?_;intros
 refine bE (gY bM [aP] (by decide)) ?_
 refine aF ?_;intros
 refine .inl ?_
 refine aF ?_;intros
 refine bE (gY gH [bM,aP] (by decide)) ?_
 refine aF ?_;intros
 refine .inl ?_
 refine aF ?_;intros
 refine bE (gY uW [bM,aP] (by decide)) ?_
 refine aF ?_;intros
 refine .inl ?_
 refine aF ?_;intros
 refine bE (gY uS [bM,aP] (by decide)) ?_
 refine aF ?_;intros
 refine .inl ?_
 refine aF ?_;intros
 refine bE (gY pS [gH,bM,aP] (by decide)) ?_
 refine aF ?_;intros
 refine .inl ?_
 refine aF ?_;intros
 refine bE (gY nmFault [pS,gH,bM,aP] (by decide)) ?_
 refine aF ?_;intros
 refine .inr (newW_as (y:=.row 0 6 88 (base0.map eC)) rfl (aG fun g hg=>?_))
 have hS:∀ l:List ClassI,aK E g (.row 0 6 88 (l.map eC)) g=some (.row 0 6 88 (l.map eC)):=fun l=>aA _ _ _
 have h0:=hS base0
 refine aF ?_;intros
 refine⟨0,rfl,by decide,?_⟩
 refine aF ?_;intros
 refine stW_rec (i:=0) (eA aP [] true false) h0 (by decide) (Nat.le_of_ble_eq_true rfl) rfl ?_
 rw[aN]
 refine aF ?_;intros
 refine aU (aY (α:=Nat) (inv:=fun i=>i≤4) (tm:=fun i=>gF 55 [(1,.row g 0 0 11 6),(29,.int .i64 i)]) (st:=fun i=>aK E g (.row 0 6 88 ((zR i).map eC))) (μ:=fun i=>4 - i) 0 (by omega) ?_ (aB _) ?_)
 ·repeat' (first | exact trivial | exact rfl | refine And.intro ?_ ?_)
 ·intro i hi
  have h1:=hS (zR i)
  refine aF ?_;intros
  refine fC (fun hc=>?_) (fun hc=>?_)
  ·have hi4:i<4:=by omega
   have hl:(zR i).length=11:=rfl
   refine aF ?_;intros
   refine⟨i+1,by omega,by omega,?_⟩
   refine aF ?_;intros
   refine sN (i:=i+1) (sealC ((zR i)[i+1]'(by omega))) h1 (by omega) (by exact Nat.le_of_ble_eq_true rfl) (by exact rfl) ?_
   rw[aN]
   refine aF ?_;intros
   refine⟨i+1,by omega,by omega,?_,?_⟩
   ·repeat' (first | exact trivial | exact rfl | refine And.intro ?_ ?_)
   ·have:(zR i).set (i+1) (sealC ((zR i)[i+1]'(by omega)))=zR (i+1):=by
     obtain rfl | rfl | rfl | rfl:i=0∨i=1∨i=2∨i=3:=by omega
     all_goals rfl
    rw[this];exact aB _
  ·have hi4:i=4:=by omega
   subst hi4
   have e4:zR 4=baseL:=rfl
   rw[e4] at h1 ⊢
   refine aF ?_;intros
   refine aU (aY (α:=Nat) (inv:=fun i=>i≤11) (tm:=fun i=>gF 55 [(1,.row g 0 0 11 6),(39,.int .i64 11),(40,.int .i64 i)]) (st:=fun i=>aK E g (.row 0 6 88 (baseL.map eC))) (μ:=fun i=>11 - i) 0 (by omega) ?_ (aB _) ?_)
   ·repeat' (first | exact trivial | exact rfl | refine And.intro ?_ ?_)
   ·intro i hi
    refine aF ?_;intros
    refine fC (fun hc=>?_) (fun hc=>?_)
    ·have hi4:i<11:=by omega
     have hl:baseL.length=11:=rfl
     haveI:∀ l,cH 124 [LS l] (LS l):=fun l=>⟨pZ l⟩
     refine aF ?_;intros
     refine sN (i:=i) (baseL[i]'(by omega)) h1 (by omega) (by exact Nat.le_of_ble_eq_true rfl) (by exact rfl) ?_
     rw[aN,List.set_getElem_self]
     refine aF ?_;intros
     refine⟨i+1,by omega,by omega,?_,aB _⟩
     ·repeat' (first | exact trivial | exact rfl | refine And.intro ?_ ?_)
    ·refine aF ?_;intros
     exact⟨_,aB _,aO.freeze (aA _ _ _) (eQ rfl) (aO.weak (aM _) (aO.same ⟨rfl,rfl⟩))⟩
instance:cH 156 [] (CS baseL):=⟨Base_spec⟩
end
end Go.Proofs.YtbojdflgjpjbiaaGreat.L
