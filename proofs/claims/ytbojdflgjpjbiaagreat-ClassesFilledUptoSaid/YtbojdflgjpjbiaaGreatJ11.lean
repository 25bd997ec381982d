/- A logic over the machine, and what the functions of the seat come to: part 11. No claim stands here; the theorems are used by the row. -/
import Derived.Test.YtbojdflgjpjbiaaGreatJ10
import Derived.Test.YtbojdflgjpjbiaaGreatProg
import Derived.Shelf.SlSortCmp.WholeK
import Derived.Shelf.SlicesG.Cmp
import Derived.Shelf.Spec.SlicesGrow
import Derived.Laws.Cover1
import Derived.Ground.SlsfProg
import Derived.Ground.SlgcProg
import Derived.Ground.NamesProg
import Derived.Shelf.Lay
set_option linter.unusedSimpArgs false
set_option linter.unnecessarySimpa false
set_option linter.unusedVariables false
namespace Go.Proofs
open Go.Shelf
def Tryz.sortT_ren:Go.Shelf.Ren:=⟨fun | 6=>232 | 15=>248 | 14=>247 | 28=>267 | 29=>268 | 20=>259 | 21=>260 | 22=>261 | 23=>262 | 24=>263 | 25=>264 | 26=>265 | 27=>266 | 46=>270 | 47=>271 | 48=>272 | 49=>273 | 50=>274 | 57=>275 | n=>n,fun | 22=>44 | 24=>46 | 25=>304 | 3=>3 | 39=>317 | 0=>0 | 53=>332 | 55=>334 | 4=>4 | 46=>326 | 45=>325 | 50=>168 | 5=>5 | 9=>9 | 66=>336 | 70=>340 | 76=>342 | 77=>343 | n=>n,fun | n=>n⟩
theorem Tryz.sortT:Go.Proofs.SlLaysF0.n6 Tryz.prog Tryz.sortT_ren:={
 mixed:=by kernel_rfl
 f6:=⟨Tryz.f232.name,by decide,Tryz.func232.trans (congrArg some (by kernel_rfl))⟩
 f14:=⟨Tryz.f247.name,by decide,Tryz.func247.trans (congrArg some (by kernel_rfl))⟩
 f15:=Tryz.func248.trans (congrArg some (by kernel_rfl))
 f20:=⟨Tryz.f259.name,by decide,Tryz.func259.trans (congrArg some (by kernel_rfl))⟩
 f21:=⟨Tryz.f260.name,by decide,Tryz.func260.trans (congrArg some (by kernel_rfl))⟩
 f22:=⟨Tryz.f261.name,by decide,Tryz.func261.trans (congrArg some (by kernel_rfl))⟩
 f23:=⟨Tryz.f262.name,by decide,Tryz.func262.trans (congrArg some (by kernel_rfl))⟩
 f24:=⟨Tryz.f263.name,by decide,Tryz.func263.trans (congrArg some (by kernel_rfl))⟩
 f25:=⟨Tryz.f264.name,by decide,Tryz.func264.trans (congrArg some (by kernel_rfl))⟩
 f26:=⟨Tryz.f265.name,by decide,Tryz.func265.trans (congrArg some (by kernel_rfl))⟩
 f27:=⟨Tryz.f266.name,by decide,Tryz.func266.trans (congrArg some (by kernel_rfl))⟩
 f28:=Tryz.func267.trans (congrArg some (by kernel_rfl))
 f29:=Tryz.func268.trans (congrArg some (by kernel_rfl))
 f46:=⟨Tryz.f270.name,by decide,Tryz.func270.trans (congrArg some (by kernel_rfl))⟩
 f47:=Tryz.func271.trans (congrArg some (by kernel_rfl))
 f48:=Tryz.func272.trans (congrArg some (by kernel_rfl))
 f49:=⟨Tryz.f273.name,by decide,Tryz.func273.trans (congrArg some (by kernel_rfl))⟩
 f50:=⟨Tryz.f274.name,by decide,Tryz.func274.trans (congrArg some (by kernel_rfl))⟩
 f57:=⟨Tryz.f275.name,by decide,Tryz.func275.trans (congrArg some (by kernel_rfl))⟩
 t0:=Tryz.underlying0
 a0:=Tryz.isAgg0
 z0:=Tryz.sizeOf0
 v0:=Tryz.zeroValue0
 t3:=Tryz.underlying3
 a3:=Tryz.isAgg3
 z3:=Tryz.sizeOf3
 v3:=Tryz.zeroValue3
 t4:=Tryz.underlying4
 a4:=Tryz.isAgg4
 z4:=Tryz.sizeOf4
 v4:=Tryz.zeroValue4
 t5:=Tryz.underlying5
 a5:=Tryz.isAgg5
 z5:=Tryz.sizeOf5
 v5:=Tryz.zeroValue5
 t9:=Tryz.underlying9
 a9:=Tryz.isAgg9
 z9:=Tryz.sizeOf9
 v9:=Tryz.zeroValue9
 t22:=Tryz.underlying44
 a22:=Tryz.isAgg44
 z22:=Tryz.sizeOf44
 v22:=Tryz.zeroValue44
 t25:=Tryz.underlying304
 a25:=Tryz.isAgg304
 z25:=Tryz.sizeOf304
 v25:=Tryz.zeroValue304
 t39:=Tryz.underlying317
 a39:=Tryz.isAgg317
 z39:=Tryz.sizeOf317
 v39:=Tryz.zeroValue317
 t45:=Tryz.underlying325
 a45:=Tryz.isAgg325
 z45:=Tryz.sizeOf325
 v45:=Tryz.zeroValue325
 t46:=Tryz.underlying326
 a46:=Tryz.isAgg326
 z46:=Tryz.sizeOf326
 v46:=Tryz.zeroValue326
 t50:=Tryz.underlying168
 a50:=Tryz.isAgg168
 z50:=Tryz.sizeOf168
 v50:=Tryz.zeroValue168
 t53:=Tryz.underlying332
 a53:=Tryz.isAgg332
 z53:=Tryz.sizeOf332
 v53:=Tryz.zeroValue332
 t55:=Tryz.underlying334
 a55:=Tryz.isAgg334
 z55:=Tryz.sizeOf334
 v55:=Tryz.zeroValue334
 t66:=Tryz.underlying336
 a66:=Tryz.isAgg336
 z66:=Tryz.sizeOf336
 v66:=Tryz.zeroValue336
 t70:=Tryz.underlying340
 a70:=Tryz.isAgg340
 z70:=Tryz.sizeOf340
 v70:=Tryz.zeroValue340
 t76:=Tryz.underlying342
 a76:=Tryz.isAgg342
 z76:=Tryz.sizeOf342
 v76:=Tryz.zeroValue342
 t77:=Tryz.underlying343
 a77:=Tryz.isAgg343
 z77:=Tryz.sizeOf343
 v77:=Tryz.zeroValue343 }
def Tryz.cmpInt_ren:Go.Shelf.Ren:=⟨fun | 5=>234 | 7=>249 | n=>n,fun | 22=>3 | 3=>3 | 4=>4 | n=>n,fun | n=>n⟩
theorem Tryz.cmpInt:Go.Proofs.SlLaysC2.n5 Tryz.prog Tryz.cmpInt_ren:={
 mixed:=by kernel_rfl
 f5:=⟨Tryz.f234.name,by decide,Tryz.func234.trans (congrArg some (by kernel_rfl))⟩
 f7:=⟨Tryz.f249.name,by decide,Tryz.func249.trans (congrArg some (by kernel_rfl))⟩
 t3:=Tryz.underlying3
 a3:=Tryz.isAgg3
 z3:=Tryz.sizeOf3
 v3:=Tryz.zeroValue3
 t4:=Tryz.underlying4
 a4:=Tryz.isAgg4
 z4:=Tryz.sizeOf4
 v4:=Tryz.zeroValue4
 t22:=Tryz.underlying3
 a22:=Tryz.isAgg3
 z22:=Tryz.sizeOf3
 v22:=Tryz.zeroValue3 }
def Tryz.bitsLen_ren:Go.Shelf.Ren:=⟨fun | 125=>248 | 128=>267 | 129=>268 | n=>n,fun | 46=>317 | 3=>3 | 51=>332 | 53=>334 | 4=>4 | 5=>5 | 9=>9 | n=>n,fun | n=>n⟩
theorem Tryz.bitsLen:Go.Proofs.Lays.n125 Tryz.prog Tryz.bitsLen_ren:={
 mixed:=by kernel_rfl
 f125:=Tryz.func248.trans (congrArg some (by kernel_rfl))
 f128:=Tryz.func267.trans (congrArg some (by kernel_rfl))
 f129:=Tryz.func268.trans (congrArg some (by kernel_rfl))
 t3:=Tryz.underlying3
 a3:=Tryz.isAgg3
 z3:=Tryz.sizeOf3
 v3:=Tryz.zeroValue3
 t4:=Tryz.underlying4
 a4:=Tryz.isAgg4
 z4:=Tryz.sizeOf4
 v4:=Tryz.zeroValue4
 t5:=Tryz.underlying5
 a5:=Tryz.isAgg5
 z5:=Tryz.sizeOf5
 v5:=Tryz.zeroValue5
 t9:=Tryz.underlying9
 a9:=Tryz.isAgg9
 z9:=Tryz.sizeOf9
 v9:=Tryz.zeroValue9
 t46:=Tryz.underlying317
 a46:=Tryz.isAgg317
 z46:=Tryz.sizeOf317
 v46:=Tryz.zeroValue317
 t51:=Tryz.underlying332
 a51:=Tryz.isAgg332
 z51:=Tryz.sizeOf332
 v51:=Tryz.zeroValue332
 t53:=Tryz.underlying334
 a53:=Tryz.isAgg334
 z53:=Tryz.sizeOf334
 v53:=Tryz.zeroValue334 }
def Tryz.growT_ren:Go.Shelf.Ren:=⟨fun | 4=>236 | n=>n,fun | 22=>44 | 25=>46 | 3=>3 | 4=>4 | 9=>9 | 20=>20 | 0=>0 | n=>n,fun | n=>n⟩
theorem Tryz.growT:Go.Proofs.Lays8.n4 Tryz.prog Tryz.growT_ren:={
 mixed:=by kernel_rfl
 f4:=⟨Tryz.f236.name,by decide,Tryz.func236.trans (congrArg some (by kernel_rfl))⟩
 t0:=Tryz.underlying0
 a0:=Tryz.isAgg0
 z0:=Tryz.sizeOf0
 v0:=Tryz.zeroValue0
 t3:=Tryz.underlying3
 a3:=Tryz.isAgg3
 z3:=Tryz.sizeOf3
 v3:=Tryz.zeroValue3
 t4:=Tryz.underlying4
 a4:=Tryz.isAgg4
 z4:=Tryz.sizeOf4
 v4:=Tryz.zeroValue4
 t9:=Tryz.underlying9
 a9:=Tryz.isAgg9
 z9:=Tryz.sizeOf9
 v9:=Tryz.zeroValue9
 t20:=Tryz.underlying20
 a20:=Tryz.isAgg20
 z20:=Tryz.sizeOf20
 v20:=Tryz.zeroValue20
 t22:=Tryz.underlying44
 a22:=Tryz.isAgg44
 z22:=Tryz.sizeOf44
 v22:=Tryz.zeroValue44 }
end Go.Proofs
namespace Go.Proofs
open Go.Shelf Go.RowKit Go.Lib Go.Sort
structure SE where
 k:Int
 nm:ByteArray
 lo:Int
 hi:Int
 p:Option Addr
 n:Nat
 c:Nat
deriving Inhabited
def encSE (x:SE):List Value:=[.int .i64 x.k,.string x.nm,.int .i64 x.lo,.int .i64 x.hi,.slice x.p x.n x.c]
set_option maxHeartbeats 1000000 in
theorem Tryz.closure233 (x y:SE) (W:World):Calls Tryz.prog 233 #[.agg (encSE x).toArray,.agg (encSE y).toArray] W fun e w'=>e=.returned (.int .i64 (Lib.compareInt x.lo y.lo))∧∃ q os',w'=grow (W.drewN q) os':=by
 have hcon:=fun W'=>AnyG.cmp_Compare_int Tryz.cmpInt x.lo y.lo W'
 change ∀ W',Calls Tryz.prog 234 _ _ _ at hcon
 generalize Lib.compareInt x.lo y.lo=r at hcon ⊢
 simp only[encSE]
 go_enter Tryz.func233,Tryz.ntmps233
 go_wp2_with (go_at_call 234;refine (hcon _).mono ?_;rintro e w' ⟨rfl,rfl⟩)
 go_ret
 exact⟨rfl,0,_,by rw[alloc_eq_grow,alloc_eq_grow,grow_grow];rfl⟩
set_option maxHeartbeats 1000000 in
theorem Tryz.nan250 (x:ByteArray) (W:World):Calls Tryz.prog 250 #[.string x] W fun e w'=>e=.returned (.bool false)∧w'=W:=by
 go_enter Tryz.func250,Tryz.ntmps250
 go_wp2
 go_ret
 exact⟨by simp,rfl⟩
def cmpS (x y:ByteArray):Int:=if Op.bytesLess x.toList y.toList then -1 else if Op.bytesLess x.toList y.toList || x.toList == y.toList then 0 else 1
set_option maxHeartbeats 1000000 in
theorem Tryz.cmp239 (x y:ByteArray) (W:World):Calls Tryz.prog 239 #[.string x,.string y] W fun e w'=>e=.returned (.int .i64 (cmpS x y))∧w'=W:=by
 have hcon:=fun W' x=>Tryz.nan250 x W'
 go_enter Tryz.func239,Tryz.ntmps239
 go_wp2_with (go_at_call 250;refine (hcon _ _).mono ?_;rintro e w' ⟨rfl,rfl⟩)
 all_goals go_ret
 all_goals exact⟨by simp_all [cmpS],rfl⟩
set_option maxHeartbeats 1000000 in
theorem Tryz.closure238 (x y:SE) (W:World):Calls Tryz.prog 238 #[.agg (encSE x).toArray,.agg (encSE y).toArray] W fun e w'=>e=.returned (.int .i64 (cmpS x.nm y.nm))∧∃ q os',w'=grow (W.drewN q) os':=by
 have hcon:=fun W'=>Tryz.cmp239 x.nm y.nm W'
 generalize cmpS x.nm y.nm=r at hcon ⊢
 simp only[encSE]
 go_enter Tryz.func238,Tryz.ntmps238
 go_wp2_with (go_at_call 239;refine (hcon _).mono ?_;rintro e w' ⟨rfl,rfl⟩)
 go_ret
 exact⟨rfl,0,_,by rw[alloc_eq_grow,alloc_eq_grow,grow_grow];rfl⟩
theorem Tryz.ltLo (x y:SE):ltOf (fun x y:SE=>Lib.compareInt x.lo y.lo) x y=decide (x.lo<y.lo):=by
 unfold ltOf Lib.compareInt
 by_cases h1:x.lo<y.lo
 ·simp[h1]
 ·by_cases h2:y.lo<x.lo <;> simp[h1,h2]
theorem Tryz.swoLo:SWO (ltOf fun x y:SE=>Lib.compareInt x.lo y.lo) where
 irrefl x:=by rw[Tryz.ltLo];simp
 trans x y z h1 h2:=by rw[Tryz.ltLo] at *;simp at *;omega
 ntrans x y z h1 h2:=by rw[Tryz.ltLo] at *;simp at *;omega
theorem Tryz.ltNm (x y:SE):ltOf (fun x y:SE=>cmpS x.nm y.nm) x y=Op.bytesLess x.nm.toList y.nm.toList:=by
 unfold ltOf cmpS
 by_cases h:Op.bytesLess x.nm.toList y.nm.toList=true
 ·simp[h]
 ·by_cases k:x.nm.toList=y.nm.toList
  ·have h':=h;rw[k] at h';simp[k,h']
  ·simp[h,k]
theorem Tryz.swoNm (htr:∀ x y z:List UInt8,Op.bytesLess x y=true→Op.bytesLess y z=true→Op.bytesLess x z=true) (hirr:∀ x:List UInt8,Op.bytesLess x x=false)
  (htri:∀ x y:List UInt8,Op.bytesLess x y=false→Op.bytesLess y x=false→x=y):SWO (ltOf fun x y:SE=>cmpS x.nm y.nm) where
 irrefl x:=by rw[Tryz.ltNm];exact hirr _
 trans x y z h1 h2:=by rw[Tryz.ltNm] at *;exact htr _ _ _ h1 h2
 ntrans x y z h1 h2:=by
  rw[Tryz.ltNm] at *
  cases h3:Op.bytesLess x.nm.toList z.nm.toList with
  | false=>rfl
  | true=>
   cases h4:Op.bytesLess z.nm.toList y.nm.toList with
   | true=>rw[htr _ _ _ h3 h4] at h1;cases h1
   | false=>rw[htri _ _ h2 h4] at h1;rw[h3] at h1;cases h1
theorem Tryz.sortFn (cid:Nat) (cf:SE→SE→Int) (hswo:SWO (ltOf cf)) (henter:∀ (args:Array Value) (w:World),(callFunc cid args).run Tryz.prog w=.ok (.enter cid args) w)
  (hc:∀ (x y:SE) (W:World),Calls Tryz.prog cid #[.agg (encSE x).toArray,.agg (encSE y).toArray] W fun e w'=>e=.returned (.int .i64 (cf x y))∧∃ q os',w'=grow (W.drewN q) os')
  (blk off cap:Nat) (d:Array SE) (w:World) (hH:HoldsK encSE 5 w blk off d) (hblk:blk<w.heap.size) (hsz:d.size<4611686018427387904) :
  Calls Tryz.prog 232 #[.slice (some ⟨blk,off,none⟩) d.size cap,.func (.func cid) #[] #[]] w fun e w'=>e=.returned (.tuple #[])∧∃ d' n os,PermIn 0 d.size d d'∧SortedIn (ltOf cf) 0 d.size d'∧w'=sortWorldK encSE 5 w blk off n d' os:=
 AnyQ.slices_SortFunc Tryz.sortT 5 Tryz.isAgg46 Tryz.sizeOf46 encSE (fun _=>rfl) (fun x v hv=>by simp[encSE] at hv;rcases hv with rfl | rfl | rfl | rfl | rfl <;> rfl) cf hswo cid #[] blk off cap d w henter (fun _ _ _ _ x y=>by simpa using hc x y _) hH hblk hsz
theorem Tryz.enter233 (args:Array Value) (w:World):(callFunc 233 args).run Tryz.prog w=.ok (.enter 233 args) w:=enters_of Tryz.func233 (by kernel_rfl) rfl args w
theorem Tryz.enter238 (args:Array Value) (w:World):(callFunc 238 args).run Tryz.prog w=.ok (.enter 238 args) w:=enters_of Tryz.func238 (by kernel_rfl) rfl args w
theorem Tryz.len248 (n:Nat) (W:World) (h:n<4611686018427387904):Calls Tryz.prog 248 #[.int .u64 n] W fun e w'=>e=.returned (.int .i64 (Lib.bitLen n))∧w'=W:=by
 have:=Any.bits_Len Tryz.bitsLen n W (by omega) (by omega)
 simp only[Int.toNat_natCast] at this
 exact this
end Go.Proofs
namespace Go.Proofs.YtbojdflgjpjbiaaGreat.L
open Go
section
open Go.Sort (PermIn SortedIn HoldsK flatK putRowK grow ahead putCells onCells mapBlock)
def SR (w:World) (fr:Nat→Prop) (m:aQ) (x:SE) (t:Ty):Prop:=
 x.lo=t.lo∧x.nm=t.name∧∀ j (h:j<5),Rep w fr m ((encSE x)[j]'h) ((eT t)[j]'h)
theorem SR_ex {w:World} {fr:Nat→Prop} {m:aQ} {arr:Array Value} {o:Nat} {t:Ty} (h:∀ (j:Nat) (hj:j<(eT t).length),∃ v,arr[o+j]?=some v∧Rep w fr m v (eT t)[j]) :
  ∃ x:SE,SR w fr m x t∧∀ j (h:j<5),arr[o+j]?=some ((encSE x)[j]'h):=by
 have hl:∀ j,j<5→j<(eT t).length:=fun _ h=>h
 obtain⟨v0,a0,r0⟩:=h 0 (hl 0 (by decide))
 obtain⟨v1,a1,r1⟩:=h 1 (hl 1 (by decide))
 obtain⟨v2,a2,r2⟩:=h 2 (hl 2 (by decide))
 obtain⟨v3,a3,r3⟩:=h 3 (hl 3 (by decide))
 obtain⟨v4,a4,r4⟩:=h 4 (hl 4 (by decide))
 have e0:v0=.int .i64 t.kind:=by
  change Rep w fr m v0 (.int .i64 t.kind) at r0
  cases r0;rfl
 have e1:v1=.string t.name:=by
  change Rep w fr m v1 (.str t.name) at r1
  cases r1;rfl
 have e2:v2=.int .i64 t.lo:=by
  change Rep w fr m v2 (.int .i64 t.lo) at r2
  cases r2;rfl
 have e3:v3=.int .i64 t.hi:=by
  change Rep w fr m v3 (.int .i64 t.hi) at r3
  cases r3;rfl
 have e4:∃ p n c,v4=.slice p n c:=by
  have r5:Rep w fr m v4 (.list 64 (tA t.args)):=r4
  clear r4 h a4
  generalize tA t.args=l at r5
  cases r5
  ·exact⟨_,_,_,rfl⟩
  ·exact⟨_,_,_,rfl⟩
 obtain⟨p,n,c,e4⟩:=e4
 subst e0 e1 e2 e3 e4
 refine⟨⟨t.kind,t.name,t.lo,t.hi,p,n,c⟩,⟨rfl,rfl,fun j hj=>?_⟩,fun j hj=>?_⟩
 ·match j,hj with
  | 0,_=>exact r0
  | 1,_=>exact r1
  | 2,_=>exact r2
  | 3,_=>exact r3
  | 4,_=>exact r4
 ·match j,hj with
  | 0,_=>exact a0
  | 1,_=>exact a1
  | 2,_=>exact a2
  | 3,_=>exact a3
  | 4,_=>exact a4
theorem perm_lift {α β:Type} (f:α→β) {l l':List β} (h:l'.Perm l):∀ P:List α,P.map f=l→∃ P':List α,P'.Perm P∧P'.map f=l':=by
 induction h with
 | nil=>intro P hP;exact⟨P,.refl _,hP⟩
 | cons x _ ih=>
  intro P hP
  match P,hP with
  | a::P,hP=>
   simp only[List.map_cons,List.cons.injEq] at hP
   obtain⟨P',h1,h2⟩:=ih P hP.2
   exact⟨a::P',h1.cons a,by simp[h2,hP.1]⟩
 | swap x y l=>
  intro P hP
  match P,hP with
  | a::b::P,hP=>
   simp only[List.map_cons,List.cons.injEq] at hP
   exact⟨b::a::P,.swap _ _ _,by simp[hP.1,hP.2.1,hP.2.2]⟩
 | trans _ _ ih1 ih2=>
  intro P hP
  obtain⟨P1,h1,h2⟩:=ih2 P hP
  obtain⟨P2,h3,h4⟩:=ih1 P1 h2
  exact⟨P2,h3.trans h1,h4⟩
theorem flat_at (d:Array SE) (i j:Nat) (hi:i<d.size) (hj:j<5):(flatK encSE 5 d)[i*5+j]! = ((encSE d[i])[j]'hj):=by
 rw[Go.Sort.get_flatK _ _ _ _ (by omega)]
 have h1:(i*5+j) / 5=i:=by omega
 have h2:(i*5+j) % 5=j:=by omega
 rw[h1,h2,getElem!_pos d i hi,getElem!_pos (encSE d[i]) j hj]
theorem sort_heap (w:World) (b n:Nat) (d:Array SE) (os:Array Obj) (arr:Array Value) (el:TypeId) (fz:Nat × Nat) (hb:w.heap[b]?=some (.cells arr el fz)) :
  (sortWorldK encSE 5 w b 0 n d os).heap[b]?=some (.cells (putCells id 0 (flatK encSE 5 d) arr) el fz) ∧
  (∀ k,k<w.heap.size→k≠b→(sortWorldK encSE 5 w b 0 n d os).heap[k]?=w.heap[k]?)∧w.heap.size≤(sortWorldK encSE 5 w b 0 n d os).heap.size:=by
 have hbl:=(Array.getElem?_eq_some_iff.1 hb).1
 refine⟨?_,fun k hk hne=>?_,?_⟩
 ·simp only[sortWorldK,grow,putRowK,Go.Sort.putRow,mapBlock,ahead]
  rw[Array.getElem?_append_left (by simpa using hbl),Array.getElem?_modify,if_pos rfl,show (Go.Sort.ahead w n).heap[b]?=_ from hb]
  rfl
 ·simp only[sortWorldK,grow,putRowK,Go.Sort.putRow,mapBlock,ahead]
  rw[Array.getElem?_append_left (by simpa using hk),Array.getElem?_modify,if_neg (Ne.symm hne)]
  rfl
 ·simp[sortWorldK,grow,putRowK,Go.Sort.putRow,mapBlock,ahead]
theorem shape_swap {w w':World} (h:∀ (b:Nat) (o:Obj),w.heap[b]?=some o→∃ o':Obj,w'.heap[b]?=some o'∧(o'=o∨∃ (a a':Array Value) (el:TypeId) (fz:Nat × Nat),o=Obj.cells a el fz∧o'=Obj.cells a' el fz∧a'.size=a.size)) (b N:Nat) (hN:(w.shape? b).map (·.2)=some N):(w'.shape? b).map (·.2)=some N:=by
 unfold World.shape? at hN ⊢
 cases hb:w.heap[b]? with
 | none=>rw[hb] at hN;cases hN
 | some o=>
  obtain⟨o',h1,h2⟩:=h b o hb
  rw[hb] at hN
  rw[h1]
  rcases h2 with rfl | ⟨a,a',el,fz,rfl,rfl,h3⟩
  ·exact hN
  ·simpa[h3] using hN
theorem sort_ok {S:aD} {g ver:Nat} {ts:List Ty} {w:World} {fr:Nat→Prop} {m:aQ} {b cap:Nat} (cid:Nat) (cf:SE→SE→Int) (lt:Ty→Ty→Bool) (hswo:Go.Sort.SWO (ltOf cf))
  (henter:∀ (args:Array Value) (w:World),(callFunc cid args).run Tryz.prog w=.ok (.enter cid args) w)
  (hc:∀ (x y:SE) (W:World),Calls Tryz.prog cid #[.agg (encSE x).toArray,.agg (encSE y).toArray] W fun e w'=>e=.returned (.int .i64 (cf x y))∧∃ q os',w'=grow (W.drewN q) os')
  (hlt:∀ (x y:SE) (t u:Ty),x.lo=t.lo→x.nm=t.name→y.lo=u.lo→y.nm=u.name→ltOf cf x y=lt t u)
  (hg:S g=some (.row ver 5 64 (ts.map eT))) (hm:m g=some (ver,some b)) (rel:RelS w fr m S) :
  Calls Tryz.prog 232 #[.slice (some ⟨b,0,none⟩) ts.length cap,.func (.func cid) #[] #[]] w fun e w'=>e=.returned (.tuple #[])∧∃ ys,ys.Perm ts∧Srt lt ys∧RelS w' fr m (aK S g (.row ver 5 64 (ys.map eT)))∧bZ w fr m S w' fr m (aK S g (.row ver 5 64 (ys.map eT))):=by
 obtain⟨ob,hm',hO⟩:=rel.obj g _ hg
 rw[hm] at hm'
 cases hm'
 obtain⟨o,hob,he,arr,el,rfl,hsz,hlen,hcells⟩:=hO
 have hn:(ts.map eT).length=ts.length:=List.length_map _
 have hex:∀ i:Fin ts.length,∃ x:SE,SR w fr m x ts[i]∧∀ j (h:j<5),arr[i.1*5+j]?=some ((encSE x)[j]'h):=fun i=>SR_ex fun j hj=>by
  obtain⟨v,h1,h2⟩:=hcells i.1 j (by simpa using i.2) (by simpa using hj)
  refine⟨v,h1,?_⟩
  have:(ts.map eT)[i.1]'(by simpa using i.2)=eT ts[i]:=by simp
  simpa only[this] using h2
 let f:Fin ts.length→SE:=fun i=>Classical.choose (hex i)
 have hf:∀ i,SR w fr m (f i) ts[i]∧∀ j (h:j<5),arr[i.1*5+j]?=some ((encSE (f i))[j]'h):=fun i=>Classical.choose_spec (hex i)
 let d:Array SE:=Array.ofFn f
 have hd:d.size=ts.length:=by simp[d]
 have hdi:∀ i (h:i<d.size),d[i]=f ⟨i,by rw[← hd];exact h⟩:=fun i h=>by simp[d]
 have hbsz:b<w.heap.size:=(Array.getElem?_eq_some_iff.1 hob).1
 have hH:HoldsK encSE 5 w b 0 d:=by
  intro j hj
  rw[Go.Sort.size_flatK] at hj
  have hi:j / 5<d.size:=by omega
  have e1:(flatK encSE 5 d)[j / 5*5+j % 5]! = ((encSE d[j / 5])[j % 5]'(Nat.mod_lt _ (by decide))):=flat_at d _ _ hi (Nat.mod_lt _ (by decide))
  have e2:=(hf ⟨j / 5,by rw[← hd];exact hi⟩).2 (j % 5) (Nat.mod_lt _ (by decide))
  have e3:j / 5*5+j % 5=j:=by omega
  rw[e3] at e1
  simp only[e3] at e2
  refine⟨?_,?_⟩
  ·simp only[World.cell?,hob,id,e1,Nat.zero_add,Option.isSome_none,hdi _ hi]
   exact e2
  ·simp only[World.frozen?,hob]
   simp
 have hsmall:d.size<4611686018427387904:=by
  rw[hd]
  rw[hn] at he
  simp only[cap47] at he
  omega
 have key:=Tryz.sortFn cid cf hswo henter hc b 0 cap d w hH hbsz hsmall
 rw[hd] at key
 refine key.mono ?_
 rintro e w' ⟨rfl,d',n,os,hp,hs,rfl⟩
 refine⟨rfl,?_⟩
 obtain⟨hs1,_,hp2⟩:=hp
 rw[hd] at hs1
 have hpl:d'.toList.Perm d.toList:=by
  have e1:d'.extract 0 ts.length=d':=by rw[← hs1];simp
  have e2:d.extract 0 ts.length=d:=by rw[← hd];simp
  rw[e1,e2] at hp2
  exact hp2
 have hzl:d.toList.length=ts.length:=by simp[d]
 obtain⟨P',hP1,hP2⟩:=perm_lift Prod.fst hpl (d.toList.zip ts) (by rw[List.map_fst_zip];omega)
 have hPl:P'.length=ts.length:=by have:=congrArg List.length hP2;simpa[hs1] using this
 have hSR:∀ p∈P',SR w fr m p.1 p.2:=by
  intro p hp
  have hp:=hP1.mem_iff.1 hp
  obtain⟨i,hi,rfl⟩:=List.getElem_of_mem hp
  rw[List.getElem_zip]
  have hi':i<ts.length:=by simp at hi;omega
  have:=(hf ⟨i,hi'⟩).1
  simpa[d] using this
 have hget:∀ i (h:i<P'.length),(P'[i].1)=d'[i]'(by omega):=fun i h=>by
  have:(P'.map Prod.fst)[i]'(by simpa using h)=d'.toList[i]'(by simp;omega):=by simp only[hP2]
  simpa using this
 refine⟨P'.map Prod.snd,?_,?_,?_⟩
 ·have:=hP1.map Prod.snd
  rwa [List.map_snd_zip (by omega)] at this
 ·unfold Srt
  rw[List.pairwise_iff_getElem]
  intro i j hi hj hij
  simp only[List.length_map] at hi hj
  have h1:=hs i j (by omega) hij (by omega)
  rw[getElem!_pos d' j (by omega),getElem!_pos d' i (by omega),← hget i hi,← hget j hj] at h1
  have r1:=hSR _ (List.getElem_mem hi)
  have r2:=hSR _ (List.getElem_mem hj)
  rw[hlt _ _ _ _ r2.1 r2.2.1 r1.1 r1.2.1] at h1
  simpa using h1
 ·obtain⟨h1,h2,h3⟩:=sort_heap w b n d' os arr el _ hob
  have hshape:∀ b1 N,(w.shape? b1).map (·.2)=some N→((sortWorldK encSE 5 w b 0 n d' os).shape? b1).map (·.2)=some N:=shape_swap fun k o hk=>by
   by_cases e:k=b
   ·subst e
    rw[hob] at hk
    cases hk
    exact⟨_,h1,.inr ⟨_,_,_,_,rfl,rfl,by simp[putCells]⟩⟩
   ·exact⟨o,(h2 k (Array.getElem?_eq_some_iff.1 hk).1 e).trans hk,.inl rfl⟩
  have hnm:eY m g (ver,some b)=m:=by
   funext k
   by_cases e:k=g
   ·subst e;rw[cU,hm]
   ·rw[gM e]
  have hne:∀ k,fr k→k≠b:=fun k hk e=>rel.apart k hk ⟨g,_,ver,hg,by rw[e];exact hm⟩
  have hk:iT w fr m (sortWorldK encSE 5 w b 0 n d' os) fr m:=⟨fun _ h=>h,fun k hk=>h2 k (rel.frz k hk) (hne k hk),hshape,Nle.refl m⟩
  have hPm:((P'.map Prod.snd).map eT).length=ts.length:=by simp[hPl]
  have:=nU (w':=sortWorldK encSE 5 w b 0 n d' os) rel (g:=g) (x':=.row ver 5 64 ((P'.map Prod.snd).map eT)) (ob':=some b) h3
   (fun k hk hv=>h2 k hk fun e=>hv ver (by rw[e];exact hm)) hshape
   (fun v ob h=>by rw[hm] at h;cases h;exact⟨by rw[hg];rfl,Nat.le_refl _,fun _=>rfl⟩)
   (fun k e=>by cases e;exact .inl ⟨ver,hm⟩)
   (by
    simp only[AO.ver]
    rw[hnm]
    refine⟨_,h1,by rw[hPm];rw[hn] at he;exact he,_,_,rfl,fun i hi=>by simp,by rw[hPm];rw[hn] at hlen;simpa[putCells] using hlen,fun i j hi hj=>?_⟩
    have hi':i<P'.length:=by simpa using hi
    have hj':j<5:=by simpa using hj
    have hlt':i*5+j<arr.size:=by rw[hn] at hlen;omega
    refine⟨(encSE P'[i].1)[j]'hj',?_,?_⟩
    ·simp only[putCells,Array.getElem?_mapIdx,Array.getElem?_eq_getElem hlt',Option.map_some,Go.Sort.size_flatK,id,Nat.zero_le,true_and,Nat.zero_add,Nat.sub_zero]
     rw[if_pos (by omega),flat_at d' i j (by omega) hj']
     have e9:=hget i hi'
     simp only[e9]
     rfl
    ·have:=(hSR _ (List.getElem_mem hi')).2.2 j hj'
     have e:((P'.map Prod.snd).map eT)[i]'hi=eT P'[i].2:=by simp
     simp only[e]
     exact this.keep hk)
   ⟨rfl,rfl⟩
  simp only[AO.ver] at this
  rw[hnm] at this
  exact this
end
section
attribute [local irreducible] T TL
set_option maxRecDepth 10000
set_option maxHeartbeats 4000000
theorem len0:FnP PP 248 [.int .u64 0] (.int .i64 0):=by
 refine⟨⟨_,Tryz.func248,rfl,rfl⟩,fun w fr m vs rel ha=>?_⟩
 obtain⟨hs,hr⟩:=ha
 have e:vs=#[.int .u64 0]:=by
  obtain⟨l⟩:=vs
  match l,hs with
  | [v],_=>
   have:=hr 0 (by simp) (by simp)
   simp only[List.getElem_toArray,List.getElem_cons_zero] at this
   cases this
   rfl
 subst e
 refine (Tryz.len248 0 w (by decide)).mono ?_
 rintro e w' ⟨rfl,rfl⟩
 exact⟨.ret (.int .i64 0),E,fr,m,⟨rfl,rfl⟩,.int .i64 0 (by constructor <;> decide),rel,bZ.refl _ _ _ _⟩
theorem ins0 (c:Nat):FnP PP 259 [TS [],.int .i64 0,.int .i64 0,.fn (.func c) [] []] (.tup []):=by
 refine aJ aI Tryz.func259 rfl (by rfl) (by rfl) ?_
 refine aF ?_;intros
 refine aU (aY (α:=Unit) (inv:=fun _=>True) (tm:=fun _=>gF 53 [(0,TS []),(1,.int .i64 0),(2,.int .i64 0),(3,.fn (.func c) [] []),(8,.int .i64 1)]) (st:=fun _=>E) (μ:=fun _=>0) () trivial ?_ (aM _) ?_)
 ·repeat' (first | exact trivial | exact rfl | refine And.intro ?_ ?_)
 intro _ _
 refine aF ?_;intros
 exact⟨E,aM _,rfl,rfl⟩
instance (c:Nat):cH 259 [TS [],.int .i64 0,.int .i64 0,.fn (.func c) [] []] (.tup []):=⟨ins0 c⟩
theorem pdq0 (c:Nat):FnP PP 247 [TS [],.int .i64 0,.int .i64 0,.int .i64 0,.fn (.func c) [] []] (.tup []):=by
 refine aJ aI Tryz.func247 rfl (by rfl) (by rfl) ?_
 refine aF ?_;intros
 refine aU (aY (α:=Unit) (inv:=fun _=>True) (tm:=fun _=>gF 148 [(0,TS []),(1,.int .i64 0),(2,.int .i64 0),(3,.int .i64 0),(4,.fn (.func c) [] []),(10,.bool true),(11,.bool true)]) (st:=fun _=>E) (μ:=fun _=>0) () trivial ?_ (aM _) ?_)
 ·repeat' (first | exact trivial | exact rfl | refine And.intro ?_ ?_)
 intro _ _
 refine aF ?_;intros
 exact⟨E,aM _,rfl,rfl⟩
theorem sort0 (c:Nat):FnP PP 232 [TS [],.fn (.func c) [] []] (.tup []):=by
 refine aJ aI Tryz.func232 rfl (by rfl) (by rfl) ?_
 refine aF ?_;intros
 refine⟨by unfold wY;exact (by constructor <;> decide:IntKind.u64.has 0),?_⟩
 refine bE len0 ?_
 refine aF ?_;intros
 refine bE (pdq0 c) ?_
 refine aF ?_;intros
 exact⟨E,aM _,rfl,rfl⟩
theorem sort_any {S:aD} {g ver:Nat} {ts:List Ty} (cid:Nat) (cf:SE→SE→Int) (lt:Ty→Ty→Bool) (hswo:Go.Sort.SWO (ltOf cf))
  (henter:∀ (args:Array Value) (w:World),(callFunc cid args).run Tryz.prog w=.ok (.enter cid args) w)
  (hc:∀ (x y:SE) (W:World),Calls Tryz.prog cid #[.agg (encSE x).toArray,.agg (encSE y).toArray] W fun e w'=>e=.returned (.int .i64 (cf x y))∧∃ q os',w'=Go.Sort.grow (W.drewN q) os')
  (hlt:∀ (x y:SE) (t u:Ty),x.lo=t.lo→x.nm=t.name→y.lo=u.lo→y.nm=u.name→ltOf cf x y=lt t u)
  (hg:S g=some (.row ver 5 64 (ts.map eT))) :
  Fn PP 232 [.row g ver 0 ts.length 5,.fn (.func cid) [] []] S (fun o S'=>o=.ret (.tup [])∧∃ ys,ys.Perm ts∧Srt lt ys∧S'=aK S g (.row ver 5 64 (ys.map eT))):=by
 cases ts with
 | nil=>
  have h:=Fn_borrow (S:=S) (args:=[.row g ver 0 0 5,.fn (.func cid) [] []]) (sort0 cid) ⟨BorV.row g ver 5 64 0 0 [] hg (by simp),.same _,trivial⟩ (.tup _ (by simp))
  refine⟨h.1,fun w fr m vs rel ha=>(h.2 w fr m vs rel ha).mono ?_⟩
  rintro e w' ⟨o,S',fr',m',⟨rfl,rfl⟩,ho,r',st⟩
  refine⟨_,S',fr',m',⟨rfl,[],.refl _,.nil,?_⟩,ho,r',st⟩
  funext k
  by_cases e:k=g
  ·subst e;rw[aA,hg]
  ·rw[aC e]
 | cons t ts=>
  refine⟨⟨_,Tryz.func232,rfl,rfl⟩,fun w fr m vs rel ha=>?_⟩
  obtain⟨hs,hr⟩:=ha
  obtain⟨l⟩:=vs
  match l,hs,hr with
  | [v0,v1],_,hr=>
   have r0:=hr 0 (by simp) (by simp)
   have r1:=hr 1 (by simp) (by simp)
   simp only[List.getElem_toArray,List.getElem_cons_zero,List.getElem_cons_succ] at r0 r1
   have e1:v1=.func (.func cid) #[] #[]:=by
    cases r1 with
    | fn f a c pa pc ha hc hra hrc=>
     obtain⟨a⟩:=a
     obtain⟨c⟩:=c
     have h1:a=[]:=by simpa using ha
     have h2:c=[]:=by simpa using hc
     subst h1 h2
     rfl
   subst e1
   obtain⟨ob,hm,hO⟩:=rel.obj g _ hg
   cases ob with
   | none=>obtain⟨_,_,_,h⟩:=hO;simp at h
   | some b=>
    have e0:∃ cap,v0=.slice (some ⟨b,0,none⟩) (t::ts).length cap:=by
     cases r0 with
     | row v g ver off len sz h=>
      obtain⟨v',b',h1,h2,h3⟩:=h
      rw[hm] at h1
      cases h1
      obtain⟨cap,N,h4,_⟩:=h3 rfl
      exact⟨cap,by simpa using h4⟩
    obtain⟨cap,rfl⟩:=e0
    refine (sort_ok cid cf lt hswo henter hc hlt hg hm rel).mono ?_
    rintro e w' ⟨rfl,ys,h1,h2,h3,h4⟩
    exact⟨.ret (.tup []),_,fr,m,⟨rfl,ys,h1,h2,rfl⟩,.tup _ _ rfl (fun i h=>absurd h (by simp)),h3,h4⟩
theorem sortLo {S:aD} {g ver:Nat} {ts:List Ty} (hg:S g=some (.row ver 5 64 (ts.map eT))) :
  Fn PP 232 [.row g ver 0 ts.length 5,.fn (.func 233) [] []] S (fun o S'=>o=.ret (.tup [])∧∃ ys,ys.Perm ts∧Srt pF ys∧S'=aK S g (.row ver 5 64 (ys.map eT))):=
 sort_any 233 _ pF Tryz.swoLo Tryz.enter233 Tryz.closure233 (fun x y t u h1 _ h2 _=>by rw[Tryz.ltLo,h1,h2];rfl) hg
theorem sortNm {S:aD} {g ver:Nat} {ts:List Ty} (hg:S g=some (.row ver 5 64 (ts.map eT))) :
  Fn PP 232 [.row g ver 0 ts.length 5,.fn (.func 238) [] []] S (fun o S'=>o=.ret (.tup [])∧∃ ys,ys.Perm ts∧Srt sG ys∧S'=aK S g (.row ver 5 64 (ys.map eT))):=
 sort_any 238 _ sG (Tryz.swoNm bl_trans yE bl_tri) Tryz.enter238 Tryz.closure238 (fun x y t u _ h1 _ h2=>by rw[Tryz.ltNm,h1,h2];simp only[sG,blt,ByteArray.toList_eq]) hg
end
section
attribute [local irreducible] T TL
set_option maxRecDepth 10000
set_option maxHeartbeats 4000000
def eE (out:List Ty) (t:Ty):List Ty:=match out.getLast? with
 | some o=>if o.hi=iB∨t.lo≤o.hi+1 then out.dropLast++[cC o.lo (max o.hi t.hi)] else out++[cC t.lo t.hi]
 | none=>out++[cC t.lo t.hi]
theorem nN:∀ (l out:List Ty),qT out l=l.foldl eE out
 | [],out=>by rw[qT];rfl
 | t::l,out=>by
  rw[qT,List.foldl_cons,eE]
  cases out.getLast? with
  | none=>exact nN l _
  | some o=>
   dsimp only
   split
   ·exact nN l _
   ·exact nN l _
def InR (t:Ty):Prop:=t.lo≤t.hi∧tZ≤t.lo∧t.hi≤iB
@[simp] theorem sJ (a b:Int):(cC a b).lo=a:=rfl
@[simp] theorem iU (a b:Int):(cC a b).hi=b:=rfl
theorem stepJ_swap (out:List Ty) (t u:Ty) (ht:InR t) (hu:InR u) (e:t.lo=u.lo) (ho:∀ o∈out,o.hi≤iB):eE (eE out t) u=eE (eE out u) t:=by
 obtain⟨t1,t2,t3⟩:=ht
 obtain⟨u1,u2,u3⟩:=hu
 have snocY:∀ (out:List Ty) (o x:Ty),(o.hi=iB∨x.lo≤o.hi+1)→eE (out++[o]) x=out++[cC o.lo (max o.hi x.hi)]:=fun out o x h=>by
  have:eE (out++[o]) x=if o.hi=iB∨x.lo≤o.hi+1 then out++[cC o.lo (max o.hi x.hi)] else out++[o]++[cC x.lo x.hi]:=by
   unfold eE
   simp
  rw[this,if_pos h]
 have snocN:∀ (out:List Ty) (o x:Ty),¬ (o.hi=iB∨x.lo≤o.hi+1)→eE (out++[o]) x=out++[o]++[cC x.lo x.hi]:=fun out o x h=>by
  have:eE (out++[o]) x=if o.hi=iB∨x.lo≤o.hi+1 then out++[cC o.lo (max o.hi x.hi)] else out++[o]++[cC x.lo x.hi]:=by
   unfold eE
   simp
  rw[this,if_neg h]
 have nil:∀ x:Ty,eE [] x=[]++[cC x.lo x.hi]:=fun x=>rfl
 rcases List.eq_nil_or_concat out with rfl | ⟨l,o,rfl⟩
 ·rw[nil,nil,snocY _ _ _ (Or.inr (by simp only[iU];omega)),snocY _ _ _ (Or.inr (by simp only[iU];omega))]
  simp only[sJ,iU]
  rw[e,Int.max_comm]
 ·rw[List.concat_eq_append]
  have ho':o.hi≤iB:=ho o (by simp)
  by_cases h1:o.hi=iB∨t.lo≤o.hi+1
  ·have h2:o.hi=iB∨u.lo≤o.hi+1:=by rw[← e];exact h1
   have q1:(cC o.lo (max o.hi t.hi)).hi=iB∨u.lo≤(cC o.lo (max o.hi t.hi)).hi+1:=by
    simp only[iU]
    rcases h2 with h | h
    ·exact Or.inl (by omega)
    ·exact Or.inr (by omega)
   have q2:(cC o.lo (max o.hi u.hi)).hi=iB∨t.lo≤(cC o.lo (max o.hi u.hi)).hi+1:=by
    simp only[iU]
    rcases h1 with h | h
    ·exact Or.inl (by omega)
    ·exact Or.inr (by omega)
   rw[snocY _ _ _ h1,snocY _ _ _ h2,snocY _ _ _ q1,snocY _ _ _ q2]
   simp only[sJ,iU]
   have:max (max o.hi t.hi) u.hi=max (max o.hi u.hi) t.hi:=by omega
   rw[this]
  ·have h2:¬ (o.hi=iB∨u.lo≤o.hi+1):=by rw[← e];exact h1
   rw[snocN _ _ _ h1,snocN _ _ _ h2,snocY _ _ _ (Or.inr (by simp only[iU];omega)),snocY _ _ _ (Or.inr (by simp only[iU];omega))]
   simp only[sJ,iU]
   rw[e,Int.max_comm]
theorem stepJ_hi (out:List Ty) (t:Ty) (ht:t.hi≤iB) (ho:∀ o∈out,o.hi≤iB):∀ o∈eE out t,o.hi≤iB:=by
 intro x hx
 unfold eE at hx
 cases h:out.getLast? with
 | none=>
  simp only[h,List.mem_append,List.mem_singleton] at hx
  rcases hx with hx | rfl
  ·exact ho x hx
  ·exact ht
 | some o=>
  have hm:o∈out:=List.mem_of_getLast? h
  simp only[h] at hx
  split at hx
  ·simp only[List.mem_append,List.mem_singleton] at hx
   rcases hx with hx | rfl
   ·exact ho x (List.dropLast_subset _ hx)
   ·have:=ho o hm
    simp only[iU];omega
  ·simp only[List.mem_append,List.mem_singleton] at hx
   rcases hx with hx | rfl
   ·exact ho x hx
   ·exact ht
theorem fold_front:∀ (p s:List Ty) (a:Ty) (out:List Ty),InR a→(∀ x∈p,InR x∧x.lo=a.lo)→(∀ o∈out,o.hi≤iB)→(p++a::s).foldl eE out=(a::p++s).foldl eE out
 | [],_,_,_,_,_,_=>rfl
 | x::p,s,a,out,ha,hp,ho=>by
  have hx:=hp x (by simp)
  rw[List.cons_append,List.foldl_cons,fold_front p s a _ ha (fun y hy=>hp y (by simp[hy])) (stepJ_hi _ _ hx.1.2.2 ho)]
  simp only[List.cons_append,List.foldl_cons]
  rw[stepJ_swap out x a hx.1 ha hx.2 ho]
theorem fold_perm:∀ (l l':List Ty) (out:List Ty),l'.Perm l→Srt pF l→Srt pF l'→(∀ x∈l,InR x)→(∀ o∈out,o.hi≤iB)→l'.foldl eE out=l.foldl eE out
 | [],l',out,hp,_,_,_,_=>by rw[hp.eq_nil]
 | a::l,l',out,hp,hs,hs',hr,ho=>by
  have ha:a∈l':=hp.mem_iff.2 (by simp)
  obtain⟨p,s,rfl⟩:=List.append_of_mem ha
  have hps:(p++s).Perm l:=by
   have h1:(a::(p++s)).Perm (a::l):=List.perm_middle.symm.trans hp
   exact h1.cons_inv
  have har:=hr a (by simp)
  have hpp:∀ x∈p,InR x∧x.lo=a.lo:=fun x hx=>by
   have hxl:x∈l:=hps.mem_iff.1 (by simp[hx])
   have h1:pF x a=false:=by
    unfold Srt at hs
    exact (List.pairwise_cons.1 hs).1 x hxl
   have h2:pF a x=false:=by
    unfold Srt at hs'
    rw[List.pairwise_append] at hs'
    exact hs'.2.2 x hx a (by simp)
   simp only[pF,decide_eq_false_iff_not] at h1 h2
   exact⟨hr x (by simp[hxl]),by omega⟩
  have hs2:Srt pF (p++s):=by
   unfold Srt at hs' ⊢
   exact hs'.sublist (by simp)
  rw[fold_front p s a out har hpp ho,List.cons_append,List.foldl_cons,List.foldl_cons]
  exact fold_perm l (p++s) _ hps (List.Pairwise.of_cons hs) hs2 (fun x hx=>hr x (by simp[hx])) (stepJ_hi _ _ har.2.2 ho)
theorem joinS_perm {l ys:List Ty} (h:ys.Perm l) (hs:Srt pF ys) (hr:∀ x∈l,InR x):qT [] ys=jA l:=by
 unfold jA
 rw[nN,nN]
 exact fold_perm _ _ _ (h.trans (mI pF l).symm) (tU pF loLt_ntr loLt_asymm l) hs (fun x hx=>hr x ((mI pF l).mem_iff.1 hx)) (by simp)
theorem stepJ_len (out:List Ty) (t:Ty):(eE out t).length≤out.length+1:=by
 unfold eE
 cases h:out.getLast? with
 | none=>simp
 | some o=>dsimp only;split <;> simp <;> omega
theorem fold_len:∀ (l out:List Ty),(l.foldl eE out).length≤out.length+l.length
 | [],out=>by simp
 | t::l,out=>by
  have h1:=stepJ_len out t
  have h2:=fold_len l (eE out t)
  simp only[List.foldl_cons,List.length_cons];omega
theorem stepJ_in (out:List Ty) (t:Ty) (ht:InR t) (ho:∀ o∈out,InR o):∀ o∈eE out t,InR o:=by
 intro x hx
 have h1:InR (cC t.lo t.hi):=ht
 unfold eE at hx
 cases h:out.getLast? with
 | none=>
  simp only[h,List.mem_append,List.mem_singleton] at hx
  rcases hx with hx | rfl
  ·exact ho x hx
  ·exact h1
 | some o=>
  have hm:=ho o (List.mem_of_getLast? h)
  simp only[h] at hx
  split at hx
  ·simp only[List.mem_append,List.mem_singleton] at hx
   rcases hx with hx | rfl
   ·exact ho x (List.dropLast_subset _ hx)
   ·obtain⟨a,b,c⟩:=hm
    obtain⟨a',b',c'⟩:=ht
    refine⟨?_,?_,?_⟩ <;> simp only[iU,sJ] <;> omega
  ·simp only[List.mem_append,List.mem_singleton] at hx
   rcases hx with hx | rfl
   ·exact ho x hx
   ·exact h1
theorem fold_in:∀ (l out:List Ty),(∀ t∈l,InR t)→(∀ o∈out,InR o)→∀ o∈l.foldl eE out,InR o
 | [],out,_,ho=>by simpa using ho
 | t::l,out,hl,ho=>by
  rw[List.foldl_cons]
  exact fold_in l _ (fun x hx=>hl x (by simp[hx])) (stepJ_in out t (hl t (by simp)) ho)
theorem stepJ_y {out:List Ty} {o t:Ty} (h:o.hi=iB∨t.lo≤o.hi+1):eE (out++[o]) t=out++[cC o.lo (max o.hi t.hi)]:=by
 have:eE (out++[o]) t=if o.hi=iB∨t.lo≤o.hi+1 then out++[cC o.lo (max o.hi t.hi)] else out++[o]++[cC t.lo t.hi]:=by
  unfold eE
  simp
 rw[this,if_pos h]
theorem stepJ_n {out:List Ty} {o t:Ty} (h:¬ (o.hi=iB∨t.lo≤o.hi+1)):eE (out++[o]) t=out++[o]++[cC t.lo t.hi]:=by
 have:eE (out++[o]) t=if o.hi=iB∨t.lo≤o.hi+1 then out++[cC o.lo (max o.hi t.hi)] else out++[o]++[cC t.lo t.hi]:=by
  unfold eE
  simp
 rw[this,if_neg h]
theorem stepJ_span (out:List Ty) (t:Ty) (ho:∀ o∈out,o=cC o.lo o.hi):∀ o∈eE out t,o=cC o.lo o.hi:=by
 intro x hx
 unfold eE at hx
 cases h:out.getLast? with
 | none=>
  simp only[h,List.mem_append,List.mem_singleton] at hx
  rcases hx with hx | rfl
  ·exact ho x hx
  ·rfl
 | some o=>
  simp only[h] at hx
  split at hx
  ·simp only[List.mem_append,List.mem_singleton] at hx
   rcases hx with hx | rfl
   ·exact ho x (List.dropLast_subset _ hx)
   ·rfl
  ·simp only[List.mem_append,List.mem_singleton] at hx
   rcases hx with hx | rfl
   ·exact ho x hx
   ·rfl
theorem yF:∀ (l out:List Ty),(∀ o∈out,o=cC o.lo o.hi)→∀ o∈l.foldl eE out,o=cC o.lo o.hi
 | [],out,ho=>by simpa using ho
 | t::l,out,ho=>by
  rw[List.foldl_cons]
  exact yF l _ (stepJ_span out t ho)
end
end Go.Proofs.YtbojdflgjpjbiaaGreat.L
