/- A logic over the machine, and what the functions of the seat come to: part 23. No claim stands here; the theorems are used by the row. -/
import Derived.Test.YtbojdflgjpjbiaaGreatJ21
set_option linter.unusedSimpArgs false
set_option linter.unnecessarySimpa false
set_option linter.unusedVariables false
namespace Go.Proofs.YtbojdflgjpjbiaaGreat.L
open Go
section
attribute [local irreducible] T TL
set_option maxRecDepth 10000
set_option maxHeartbeats 1000000
theorem zE:∀ t:Ty,FnP PP 26 [TV t,TV t] (.bool true):=by
 refine Ty.ind fun t ih=>?_
 show FnP PP 26 [.agg [.int .i64 t.kind,.str t.name,.int .i64 t.lo,.int .i64 t.hi,.list 64 (tA t.args)],.agg [.int .i64 t.kind,.str t.name,.int .i64 t.lo,.int .i64 t.hi,.list 64 (tA t.args)]] _
 rw[nX]
 refine aJ aI Tryz.func26 rfl (by rfl) (by rfl) ?_
 have ml:(t.args.map eT).length=t.args.length:=List.length_map _
 refine aF ?_;intros
 refine aG fun b1 h1=>?_
 have k1:aK E b1 (.row 0 5 0 [[.int .i64 t.kind,.str t.name,.int .i64 t.lo,.int .i64 t.hi,.list 64 (t.args.map eT)]]) b1=some (.row 0 5 0 [[.int .i64 t.kind,.str t.name,.int .i64 t.lo,.int .i64 t.hi,.list 64 (t.args.map eT)]]):=aA _ _ _
 refine aF ?_;intros
 refine aG fun b2 h2=>?_
 have k2:=aE (y:=.row 0 5 0 [[.int .i64 t.kind,.str t.name,.int .i64 t.lo,.int .i64 t.hi,.list 64 (t.args.map eT)]]) k1 h2
 refine aF ?_;intros
 refine And.intro (fun _=>?_) (fun h=>absurd h (by simp))
 refine aF ?_;intros
 refine And.intro (fun _=>?_) (fun h=>absurd h (by simp))
 refine aF ?_;intros
 refine And.intro (fun _=>?_) (fun h=>absurd h (by simp))
 refine aF ?_;intros
 refine And.intro (fun _=>?_) (fun h=>absurd h (by simp))
 refine aF ?_;intros
 refine And.intro (fun h=>absurd h (by simp)) (fun _=>?_)
 refine aF ?_;intros
 refine aU (aY (α:=Nat) (inv:=fun i=>i≤t.args.length) (tm:=fun i=>gF 60 [(2,.ptr b1 0 0 0 5),(3,.ptr b2 0 0 0 5),(5,.int .i64 i)]) (st:=fun _=>aK (aK E b1 (.row 0 5 0 [[.int .i64 t.kind,.str t.name,.int .i64 t.lo,.int .i64 t.hi,.list 64 (t.args.map eT)]])) b2 (.row 0 5 0 [[.int .i64 t.kind,.str t.name,.int .i64 t.lo,.int .i64 t.hi,.list 64 (t.args.map eT)]])) (μ:=fun i=>t.args.length - i) 0 (by omega) ?_ (aB _) ?_)
 ·repeat' (first | exact trivial | exact rfl | refine And.intro ?_ ?_)
 intro i hi
 have k3:=aA (aK E b1 (.row 0 5 0 [[.int .i64 t.kind,.str t.name,.int .i64 t.lo,.int .i64 t.hi,.list 64 (t.args.map eT)]])) b2 (.row 0 5 0 [[.int .i64 t.kind,.str t.name,.int .i64 t.lo,.int .i64 t.hi,.list 64 (t.args.map eT)]])
 generalize aK (aK E b1 _) b2 _=Y at k2 k3 ⊢
 refine aF ?_;intros
 refine fC (fun hc=>?_) (fun hc=>?_)
 ·have hil:i<t.args.length:=by omega
  haveI:=cH.mk (ih t.args[i] (List.getElem_mem hil))
  refine aF ?_;intros
  refine aU (aT aI (by rfl) 12 (by kernel_rfl) ?_)
  refine aF ?_;intros
  exact⟨i+1,by omega,by omega,by repeat' (first | exact trivial | exact rfl | refine And.intro ?_ ?_),aB _⟩
 ·refine aF ?_;intros
  exact⟨E,aM _,rfl,rfl⟩
instance (t:Ty):cH 26 [TV t,TV t] (.bool true):=⟨zE t⟩
theorem sameStr_spec (a:List ByteArray):FnP PP 127 [LS a,LS a] (.bool true):=by
 refine aJ aI Tryz.func127 rfl (by rfl) (by rfl) ?_
 refine cJ (bW (d:=0) rfl) fun hla=>?_
 rw[List.length_map] at hla
 have ml:(a.map eS).length=a.length:=List.length_map _
 refine aF ?_;intros
 refine aU (aY (α:=Nat) (inv:=fun i=>i≤a.length) (tm:=fun i=>gF 31 [(0,LS a),(1,LS a),(5,.bool true),(6,.int .i64 i)]) (st:=fun _=>E) (μ:=fun i=>a.length - i) 0 (by omega) ?_ (aB _) ?_)
 ·repeat' (first | exact trivial | exact rfl | refine And.intro ?_ ?_)
  simp
 intro i hi
 refine aF ?_;intros
 refine And.intro (fun hc=>?_) (fun hc=>?_)
 ·have hc:=of_decide_eq_true hc
  have hil:i<a.length:=by omega
  refine aF ?_;intros
  refine aU (aT aI (by rfl) 10 (by kernel_rfl) ?_)
  refine aF ?_;intros
  refine⟨i+1,by omega,by omega,?_,aB _⟩
  repeat' (first | exact trivial | exact rfl | refine And.intro ?_ ?_)
  simp
 ·refine aF ?_;intros
  exact⟨E,aM _,rfl,rfl⟩
instance (a:List ByteArray):cH 127 [LS a,LS a] (.bool true):=⟨sameStr_spec a⟩
theorem samePar_spec (a:List (ByteArray × Ty)):FnP PP 152 [PS a,PS a] (.bool true):=by
 refine aJ aI Tryz.func152 rfl (by rfl) (by rfl) ?_
 refine cJ (bW (d:=0) rfl) fun hla=>?_
 rw[List.length_map] at hla
 have ml:(a.map eP).length=a.length:=List.length_map _
 refine aF ?_;intros
 refine And.intro (fun h=>absurd h (by simp)) (fun _=>?_)
 refine aF ?_;intros
 refine aU (aY (α:=Nat) (inv:=fun i=>i≤a.length) (tm:=fun i=>gF 42 [(0,PS a),(1,PS a),(5,.int .i64 i)]) (st:=fun _=>E) (μ:=fun i=>a.length - i) 0 (by omega) ?_ (aB _) ?_)
 ·repeat' (first | exact trivial | exact rfl | refine And.intro ?_ ?_)
 intro i hi
 refine aF ?_;intros
 refine fC (fun hc=>?_) (fun hc=>?_)
 ·have hil:i<a.length:=by omega
  refine aF ?_;intros
  refine aU (aT aI (by rfl) 25 (by kernel_rfl) ?_)
  refine aF ?_;intros
  refine And.intro (fun _=>?_) (fun h=>absurd h (by simp))
  refine aF ?_;intros
  exact⟨i+1,by omega,by omega,by repeat' (first | exact trivial | exact rfl | refine And.intro ?_ ?_),aB _⟩
 ·refine aF ?_;intros
  exact⟨E,aM _,rfl,rfl⟩
instance (a:List (ByteArray × Ty)):cH 152 [PS a,PS a] (.bool true):=⟨samePar_spec a⟩
theorem wT (a:List Ex) (h:∀ e∈a,FnP PP 117 [XV e,XV e] (.bool true)):FnP PP 70 [XS a,XS a] (.bool true):=by
 refine aJ aI Tryz.func70 rfl (by rfl) (by rfl) ?_
 refine cJ (bW (d:=0) rfl) fun hla=>?_
 rw[List.length_map] at hla
 have ml:(a.map eX).length=a.length:=List.length_map _
 refine aF ?_;intros
 refine And.intro (fun h=>absurd h (by simp)) (fun _=>?_)
 refine aF ?_;intros
 refine aU (aY (α:=Nat) (inv:=fun i=>i≤a.length) (tm:=fun i=>gF 27 [(0,XS a),(1,XS a),(5,.int .i64 i)]) (st:=fun _=>E) (μ:=fun i=>a.length - i) 0 (by omega) ?_ (aB _) ?_)
 ·repeat' (first | exact trivial | exact rfl | refine And.intro ?_ ?_)
 intro i hi
 refine aF ?_;intros
 refine fC (fun hc=>?_) (fun hc=>?_)
 ·have hil:i<a.length:=by omega
  haveI:=cH.mk (h a[i] (List.getElem_mem hil))
  refine aF ?_;intros
  refine aU (aT aI (by rfl) 10 (by kernel_rfl) ?_)
  refine aF ?_;intros
  exact⟨i+1,by omega,by omega,by repeat' (first | exact trivial | exact rfl | refine And.intro ?_ ?_),aB _⟩
 ·refine aF ?_;intros
  exact⟨E,aM _,rfl,rfl⟩
theorem sameEx_spec:∀ e:Ex,FnP PP 117 [XV e,XV e] (.bool true):=by
 refine Ex.ind fun e ih=>?_
 show FnP PP 117 [.agg [.int .i64 e.kind,.str e.name,.int .i64 e.num,.int .i64 e.ty.kind,.str e.ty.name,.int .i64 e.ty.lo,.int .i64 e.ty.hi,.list 64 (tA e.ty.args),PS e.params,LS e.keys,.list 168 (xA e.args)],.agg [.int .i64 e.kind,.str e.name,.int .i64 e.num,.int .i64 e.ty.kind,.str e.ty.name,.int .i64 e.ty.lo,.int .i64 e.ty.hi,.list 64 (tA e.ty.args),PS e.params,LS e.keys,.list 168 (xA e.args)]] _
 rw[xA_eq]
 haveI:=cH.mk (wT e.args ih)
 refine aJ aI Tryz.func117 rfl (by rfl) (by rfl) ?_
 refine aF ?_;intros
 refine aG fun b1 h1=>?_
 have k1:aK E b1 (.row 0 11 0 [[.int .i64 e.kind,.str e.name,.int .i64 e.num,.int .i64 e.ty.kind,.str e.ty.name,.int .i64 e.ty.lo,.int .i64 e.ty.hi,.list 64 (tA e.ty.args),PS e.params,LS e.keys,.list 168 (e.args.map eX)]]) b1=some (.row 0 11 0 [[.int .i64 e.kind,.str e.name,.int .i64 e.num,.int .i64 e.ty.kind,.str e.ty.name,.int .i64 e.ty.lo,.int .i64 e.ty.hi,.list 64 (tA e.ty.args),PS e.params,LS e.keys,.list 168 (e.args.map eX)]]):=aA _ _ _
 refine aF ?_;intros
 refine aG fun b2 h2=>?_
 have k2:=aE (y:=.row 0 11 0 [[.int .i64 e.kind,.str e.name,.int .i64 e.num,.int .i64 e.ty.kind,.str e.ty.name,.int .i64 e.ty.lo,.int .i64 e.ty.hi,.list 64 (tA e.ty.args),PS e.params,LS e.keys,.list 168 (e.args.map eX)]]) k1 h2
 refine aF ?_;intros
 refine And.intro (fun _=>?_) (fun h=>absurd h (by simp))
 refine aF ?_;intros
 refine And.intro (fun _=>?_) (fun h=>absurd h (by simp))
 refine aF ?_;intros
 refine And.intro (fun _=>?_) (fun h=>absurd h (by simp))
 refine aF ?_;intros
 exact⟨E,aM _,rfl,rfl⟩
instance (a:List Ex):cH 70 [XS a,XS a] (.bool true):=⟨wT a fun e _=>sameEx_spec e⟩
theorem tS (a:List OwnT):FnP PP 27 [OS a,OS a] (.bool true):=by
 refine aJ aI Tryz.func27 rfl (by rfl) (by rfl) ?_
 refine cJ (bW (d:=0) rfl) fun hla=>?_
 rw[List.length_map] at hla
 have ml:(a.map eO).length=a.length:=List.length_map _
 refine aF ?_;intros
 refine And.intro (fun h=>absurd h (by simp)) (fun _=>?_)
 refine aF ?_;intros
 refine aU (aY (α:=Nat) (inv:=fun i=>i≤a.length) (tm:=fun i=>gF 77 [(0,OS a),(1,OS a),(5,.int .i64 i)]) (st:=fun _=>E) (μ:=fun i=>a.length - i) 0 (by omega) ?_ (aB _) ?_)
 ·repeat' (first | exact trivial | exact rfl | refine And.intro ?_ ?_)
 intro i hi
 refine aF ?_;intros
 refine fC (fun hc=>?_) (fun hc=>?_)
 ·have hil:i<a.length:=by omega
  refine aF ?_;intros
  refine aG fun b1 h1=>?_
  have k1:aK E b1 (.row 0 9 0 [[.str a[i].slot.name,.int .i64 a[i].slot.ty.kind,.str a[i].slot.ty.name,.int .i64 a[i].slot.ty.lo,.int .i64 a[i].slot.ty.hi,.list 64 (tA a[i].slot.ty.args),.str a[i].slot.key,.int .i64 a[i].slot.alloc,XS a[i].slot.init]]) b1=some (.row 0 9 0 [[.str a[i].slot.name,.int .i64 a[i].slot.ty.kind,.str a[i].slot.ty.name,.int .i64 a[i].slot.ty.lo,.int .i64 a[i].slot.ty.hi,.list 64 (tA a[i].slot.ty.args),.str a[i].slot.key,.int .i64 a[i].slot.alloc,XS a[i].slot.init]]):=aA _ _ _
  refine aF ?_;intros
  refine aG fun b2 h2=>?_
  have k2:=aE (y:=.row 0 9 0 [[.str a[i].slot.name,.int .i64 a[i].slot.ty.kind,.str a[i].slot.ty.name,.int .i64 a[i].slot.ty.lo,.int .i64 a[i].slot.ty.hi,.list 64 (tA a[i].slot.ty.args),.str a[i].slot.key,.int .i64 a[i].slot.alloc,XS a[i].slot.init]]) k1 h2
  have k3:=aA (aK E b1 (.row 0 9 0 [[.str a[i].slot.name,.int .i64 a[i].slot.ty.kind,.str a[i].slot.ty.name,.int .i64 a[i].slot.ty.lo,.int .i64 a[i].slot.ty.hi,.list 64 (tA a[i].slot.ty.args),.str a[i].slot.key,.int .i64 a[i].slot.alloc,XS a[i].slot.init]])) b2 (.row 0 9 0 [[.str a[i].slot.name,.int .i64 a[i].slot.ty.kind,.str a[i].slot.ty.name,.int .i64 a[i].slot.ty.lo,.int .i64 a[i].slot.ty.hi,.list 64 (tA a[i].slot.ty.args),.str a[i].slot.key,.int .i64 a[i].slot.alloc,XS a[i].slot.init]])
  refine aF ?_;intros
  refine aU (aT aI (by rfl) 48 (by kernel_rfl) ?_)
  refine aF ?_;intros
  refine And.intro (fun _=>?_) (fun h=>absurd h (by simp))
  refine aF ?_;intros
  refine And.intro (fun _=>?_) (fun h=>absurd h (by simp))
  refine aF ?_;intros
  refine And.intro (fun _=>?_) (fun h=>absurd h (by simp))
  refine aF ?_;intros
  refine And.intro (fun _=>?_) (fun h=>absurd h (by simp))
  refine aF ?_;intros
  exact⟨i+1,by omega,by omega,by repeat' (first | exact trivial | exact rfl | refine And.intro ?_ ?_),aM _⟩
 ·refine aF ?_;intros
  exact⟨E,aM _,rfl,rfl⟩
instance (a:List OwnT):cH 27 [OS a,OS a] (.bool true):=⟨tS a⟩
end
end Go.Proofs.YtbojdflgjpjbiaaGreat.L
