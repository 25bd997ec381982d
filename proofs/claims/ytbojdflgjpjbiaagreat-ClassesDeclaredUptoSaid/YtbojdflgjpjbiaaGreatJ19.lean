/- A logic over the machine, and what the functions of the seat come to: part 19. No claim stands here; the theorems are used by the row. -/
import Derived.Test.YtbojdflgjpjbiaaGreatJ4
import Derived.Test.YtbojdflgjpjbiaaGreatJ5
import Derived.Test.YtbojdflgjpjbiaaGreatJ15
import Derived.Test.YtbojdflgjpjbiaaGreatJ17
import Derived.Test.YtbojdflgjpjbiaaGreatJ18
set_option linter.unusedSimpArgs false
set_option linter.unnecessarySimpa false
set_option linter.unusedVariables false
namespace Go.Proofs.YtbojdflgjpjbiaaGreat.L
open Go
section
attribute [local irreducible] T TL
set_option maxRecDepth 10000
set_option maxHeartbeats 4000000
variable {w:aW} {q:uU}
theorem oA {S T:aD} (h:bV T S) {g:Nat} (hg:T g=none):S g=none:=by
 cases e:S g with
 | none=>rfl
 | some x=>rw[h g x e] at hg;cases hg
def wF (w:aW) (c:ClassI) (S:aD) (o:iY) (S':aD):Prop:=match pI w [] c.cpl.reverse with
 | none=>o=.ret (.tup [.nils,.bool false])∧S'=S
 | some out=>∃ gq,S gq=none∧slotsR gq S out o S'
theorem slots_row (hl:lookB w.classes=true) (hd:w.defs.length=w.classes.length) (hv:w.versions.length=w.classes.length) (hz:NumW w) (i:Nat) (hi:i<w.classes.length) (S:aD) (hS:HasV w q S) :
  Fn PP 55 [vp q,.int .i64 i] S (wF w w.classes[i] S):=by
 refine tW aI Tryz.func55 rfl (by rfl) (by rfl) ?_
 obtain⟨kw,km,kv⟩:=id hS
 refine aF ?_;intros
 refine aG fun b2 hb2=>?_
 generalize hT1:aK S b2 _=T1
 have nb2_qgw:b2≠q.gw:=aL kw hb2
 have nb2_qgm:b2≠q.gm:=aL km hb2
 have nb2_qgv:b2≠q.gv:=aL kv hb2
 replace kw:T1 q.gw=some (.row 0 7 0 [eW w]):=by rw[← hT1];exact aE kw hb2
 replace km:T1 q.gm=some (.map true (atM (hsOf w.classes))):=by rw[← hT1];exact aE km hb2
 replace kv:T1 q.gv=some (.row 0 2 0 [[.ptr q.gw 0 0 0 7,.map q.gm]]):=by rw[← hT1];exact aE kv hb2
 have fb2:T1 b2=some (.row 0 1 0 [[vp q]]):=by rw[← hT1];exact aA _ _ _
 have hle1:bV T1 S:=by rw[← hT1];exact (aR hb2)
 have zb2:S b2=none:=hb2
 clear hT1 hb2
 refine aF ?_;intros
 refine aG fun b4 hb4=>?_
 generalize hT2:aK T1 b4 _=T2
 have nb4_qgw:b4≠q.gw:=aL kw hb4
 have nb4_qgm:b4≠q.gm:=aL km hb4
 have nb4_qgv:b4≠q.gv:=aL kv hb4
 have nb4_b2:b4≠b2:=aL fb2 hb4
 replace kw:T2 q.gw=some (.row 0 7 0 [eW w]):=by rw[← hT2];exact aE kw hb4
 replace km:T2 q.gm=some (.map true (atM (hsOf w.classes))):=by rw[← hT2];exact aE km hb4
 replace kv:T2 q.gv=some (.row 0 2 0 [[.ptr q.gw 0 0 0 7,.map q.gm]]):=by rw[← hT2];exact aE kv hb4
 replace fb2:T2 b2=some (.row 0 1 0 [[vp q]]):=by rw[← hT2];exact aE fb2 hb4
 have fb4:T2 b4=some (.row 0 1 0 [[.nils]]):=by rw[← hT2];exact aA _ _ _
 have hle2:bV T2 S:=by rw[← hT2];exact (aR hb4).trans hle1
 have zb4:S b4=none:=oA hle1 hb4
 clear hT2 hb4
 refine aF ?_;intros
 refine aG fun b5 hb5=>?_
 generalize hT3:aK T2 b5 _=T3
 have nb5_qgw:b5≠q.gw:=aL kw hb5
 have nb5_qgm:b5≠q.gm:=aL km hb5
 have nb5_qgv:b5≠q.gv:=aL kv hb5
 have nb5_b2:b5≠b2:=aL fb2 hb5
 have nb5_b4:b5≠b4:=aL fb4 hb5
 replace kw:T3 q.gw=some (.row 0 7 0 [eW w]):=by rw[← hT3];exact aE kw hb5
 replace km:T3 q.gm=some (.map true (atM (hsOf w.classes))):=by rw[← hT3];exact aE km hb5
 replace kv:T3 q.gv=some (.row 0 2 0 [[.ptr q.gw 0 0 0 7,.map q.gm]]):=by rw[← hT3];exact aE kv hb5
 replace fb2:T3 b2=some (.row 0 1 0 [[vp q]]):=by rw[← hT3];exact aE fb2 hb5
 replace fb4:T3 b4=some (.row 0 1 0 [[.nils]]):=by rw[← hT3];exact aE fb4 hb5
 have fb5:T3 b5=some (.row 0 1 0 [[.bool false]]):=by rw[← hT3];exact aA _ _ _
 have hle3:bV T3 S:=by rw[← hT3];exact (aR hb5).trans hle2
 have zb5:S b5=none:=oA hle2 hb5
 clear hT3 hb5
 refine aF ?_;intros
 refine aG fun b6 hb6=>?_
 generalize hT4:aK T3 b6 _=T4
 have nb6_qgw:b6≠q.gw:=aL kw hb6
 have nb6_qgm:b6≠q.gm:=aL km hb6
 have nb6_qgv:b6≠q.gv:=aL kv hb6
 have nb6_b2:b6≠b2:=aL fb2 hb6
 have nb6_b4:b6≠b4:=aL fb4 hb6
 have nb6_b5:b6≠b5:=aL fb5 hb6
 replace kw:T4 q.gw=some (.row 0 7 0 [eW w]):=by rw[← hT4];exact aE kw hb6
 replace km:T4 q.gm=some (.map true (atM (hsOf w.classes))):=by rw[← hT4];exact aE km hb6
 replace kv:T4 q.gv=some (.row 0 2 0 [[.ptr q.gw 0 0 0 7,.map q.gm]]):=by rw[← hT4];exact aE kv hb6
 replace fb2:T4 b2=some (.row 0 1 0 [[vp q]]):=by rw[← hT4];exact aE fb2 hb6
 replace fb4:T4 b4=some (.row 0 1 0 [[.nils]]):=by rw[← hT4];exact aE fb4 hb6
 replace fb5:T4 b5=some (.row 0 1 0 [[.bool false]]):=by rw[← hT4];exact aE fb5 hb6
 have fb6:T4 b6=some (.row 0 1 0 [[.nils]]):=by rw[← hT4];exact aA _ _ _
 have hle4:bV T4 S:=by rw[← hT4];exact (aR hb6).trans hle3
 have zb6:S b6=none:=oA hle3 hb6
 clear hT4 hb6
 refine aF ?_;intros
 refine aG fun gp hgp=>?_
 generalize hT5:aK T4 gp _=T5
 have ngp_qgw:gp≠q.gw:=aL kw hgp
 have ngp_qgm:gp≠q.gm:=aL km hgp
 have ngp_qgv:gp≠q.gv:=aL kv hgp
 have ngp_b2:gp≠b2:=aL fb2 hgp
 have ngp_b4:gp≠b4:=aL fb4 hgp
 have ngp_b5:gp≠b5:=aL fb5 hgp
 have ngp_b6:gp≠b6:=aL fb6 hgp
 replace kw:T5 q.gw=some (.row 0 7 0 [eW w]):=by rw[← hT5];exact aE kw hgp
 replace km:T5 q.gm=some (.map true (atM (hsOf w.classes))):=by rw[← hT5];exact aE km hgp
 replace kv:T5 q.gv=some (.row 0 2 0 [[.ptr q.gw 0 0 0 7,.map q.gm]]):=by rw[← hT5];exact aE kv hgp
 replace fb2:T5 b2=some (.row 0 1 0 [[vp q]]):=by rw[← hT5];exact aE fb2 hgp
 replace fb4:T5 b4=some (.row 0 1 0 [[.nils]]):=by rw[← hT5];exact aE fb4 hgp
 replace fb5:T5 b5=some (.row 0 1 0 [[.bool false]]):=by rw[← hT5];exact aE fb5 hgp
 replace fb6:T5 b6=some (.row 0 1 0 [[.nils]]):=by rw[← hT5];exact aE fb6 hgp
 have fgp:T5 gp=some (.map true fun _=>none):=by rw[← hT5];exact aA _ _ _
 have hle5:bV T5 S:=by rw[← hT5];exact (aR hgp).trans hle4
 have zgp:S gp=none:=oA hle4 hgp
 clear hT5 hgp
 refine aF ?_;intros
 refine aG fun b7 hb7=>?_
 refine aF ?_;intros
 generalize hT6:aK T5 b7 _=T6
 have nb7_qgw:b7≠q.gw:=aL kw hb7
 have nb7_qgm:b7≠q.gm:=aL km hb7
 have nb7_qgv:b7≠q.gv:=aL kv hb7
 have nb7_b2:b7≠b2:=aL fb2 hb7
 have nb7_b4:b7≠b4:=aL fb4 hb7
 have nb7_b5:b7≠b5:=aL fb5 hb7
 have nb7_b6:b7≠b6:=aL fb6 hb7
 have nb7_gp:b7≠gp:=aL fgp hb7
 replace kw:T6 q.gw=some (.row 0 7 0 [eW w]):=by rw[← hT6];exact aE kw hb7
 replace km:T6 q.gm=some (.map true (atM (hsOf w.classes))):=by rw[← hT6];exact aE km hb7
 replace kv:T6 q.gv=some (.row 0 2 0 [[.ptr q.gw 0 0 0 7,.map q.gm]]):=by rw[← hT6];exact aE kv hb7
 replace fb2:T6 b2=some (.row 0 1 0 [[vp q]]):=by rw[← hT6];exact aE fb2 hb7
 replace fb4:T6 b4=some (.row 0 1 0 [[.nils]]):=by rw[← hT6];exact aE fb4 hb7
 replace fb5:T6 b5=some (.row 0 1 0 [[.bool false]]):=by rw[← hT6];exact aE fb5 hb7
 replace fb6:T6 b6=some (.row 0 1 0 [[.nils]]):=by rw[← hT6];exact aE fb6 hb7
 replace fgp:T6 gp=some (.map true fun _=>none):=by rw[← hT6];exact aE fgp hb7
 have fb7:T6 b7=some (.row 0 1 0 [[.map gp]]):=by rw[← hT6];exact aA _ _ _
 have hle6:bV T6 S:=by rw[← hT6];exact (aR hb7).trans hle5
 have zb7:S b7=none:=oA hle5 hb7
 clear hT6 hb7
 refine aF ?_;intros
 refine aG fun b8 hb8=>?_
 refine aF ?_;intros
 generalize hT7:aK T6 b8 _=T7
 have nb8_qgw:b8≠q.gw:=aL kw hb8
 have nb8_qgm:b8≠q.gm:=aL km hb8
 have nb8_qgv:b8≠q.gv:=aL kv hb8
 have nb8_b2:b8≠b2:=aL fb2 hb8
 have nb8_b4:b8≠b4:=aL fb4 hb8
 have nb8_b5:b8≠b5:=aL fb5 hb8
 have nb8_b6:b8≠b6:=aL fb6 hb8
 have nb8_gp:b8≠gp:=aL fgp hb8
 have nb8_b7:b8≠b7:=aL fb7 hb8
 replace kw:T7 q.gw=some (.row 0 7 0 [eW w]):=by rw[← hT7];exact aE kw hb8
 replace km:T7 q.gm=some (.map true (atM (hsOf w.classes))):=by rw[← hT7];exact aE km hb8
 replace kv:T7 q.gv=some (.row 0 2 0 [[.ptr q.gw 0 0 0 7,.map q.gm]]):=by rw[← hT7];exact aE kv hb8
 replace fb2:T7 b2=some (.row 0 1 0 [[vp q]]):=by rw[← hT7];exact aE fb2 hb8
 replace fb4:T7 b4=some (.row 0 1 0 [[.nils]]):=by rw[← hT7];exact aE fb4 hb8
 replace fb5:T7 b5=some (.row 0 1 0 [[.bool false]]):=by rw[← hT7];exact aE fb5 hb8
 replace fb6:T7 b6=some (.row 0 1 0 [[.nils]]):=by rw[← hT7];exact aE fb6 hb8
 replace fgp:T7 gp=some (.map true fun _=>none):=by rw[← hT7];exact aE fgp hb8
 replace fb7:T7 b7=some (.row 0 1 0 [[.map gp]]):=by rw[← hT7];exact aE fb7 hb8
 have fb8:T7 b8=some (.row 0 1 0 [[.fn (.func 102) [] [.ptr b7 0 0 0 1,.ptr b6 0 0 0 1,.ptr b2 0 0 0 1]]]):=by rw[← hT7];exact aA _ _ _
 have hle7:bV T7 S:=by rw[← hT7];exact (aR hb8).trans hle6
 have zb8:S b8=none:=oA hle6 hb8
 clear hT7 hb8
 refine aV (general_spec i T7 ⟨kw,km,kv⟩) (aB _) ?_
 rintro o S' ⟨bv,bi,hbv,hbi,rfl,rfl⟩ -
 unfold dR
 rw[cW]
 obtain⟨T8,hT8⟩:∃ T8:aD,T8=aK T7 bv (.row 0 1 0 [[vp q]]):=⟨_,rfl⟩
 obtain⟨T9,hT9⟩:∃ T9:aD,T9=aK T8 bi (.row 0 1 0 [[.int .i64 (i:Nat)]]):=⟨_,rfl⟩
 rw[← hT8] at hbi ⊢
 rw[← hT9]
 have g8:∀ {g x},T7 g=some x→T9 g=some x:=fun {g x} h=>by rw[hT9];refine aE ?_ hbi;rw[hT8];exact aE h hbv
 have fbv:T9 bv=some (.row 0 1 0 [[vp q]]):=by rw[hT9];refine aE ?_ hbi;rw[hT8];exact aA _ _ _
 have fbi:T9 bi=some (.row 0 1 0 [[.int .i64 (i:Nat)]]):=by rw[hT9];exact aA _ _ _
 have nbv:∀ {g x},T7 g=some x→bv≠g:=fun h=>aL h hbv
 have nbi:∀ {g x},T7 g=some x→bi≠g:=fun {g x} h=>aL (by rw[hT8];exact aE h hbv) hbi
 have nbv6:=nbv fb6
 have nbi6:=nbi fb6
 have nbvp:=nbv fgp
 have nbip:=nbi fgp
 have hle9:bV T9 S:=by rw[hT9];refine (aR hbi).trans ?_;rw[hT8];exact (aR hbv).trans hle7
 replace kw:=g8 kw
 replace km:=g8 km
 replace kv:=g8 kv
 replace fb2:=g8 fb2
 replace fb4:=g8 fb4
 replace fb5:=g8 fb5
 replace fb6:=g8 fb6
 replace fgp:=g8 fgp
 replace fb7:=g8 fb7
 replace fb8:=g8 fb8
 clear hT9 hT8 g8 hbv hbi nbv nbi
 refine aF ?_;intros
 refine aU (mK 0 0 10 144 fb6 rfl rfl fun gq hgq=>?_)
 generalize hB3:aK (aK T9 gq _) b6 _=B3
 have nq:∀ {g x},T9 g=some x→gq≠g:=fun h=>aL h hgq
 have nq6:=nq fb6
 have nqp:=nq fgp
 have k3:∀ {g x},T9 g=some x→g≠b6→B3 g=some x:=fun {g x} h e=>by rw[← hB3,aC e];exact aE h hgq
 have f6:B3 b6=some (.row 0 1 0 [[.row gq 0 0 0 10]]):=by rw[← hB3];exact aA _ _ _
 have fq:B3 gq=some (.row 0 10 144 []):=by rw[← hB3,aC nq6];exact aA _ _ _
 replace kw:=k3 kw (Ne.symm nb6_qgw)
 replace km:=k3 km (Ne.symm nb6_qgm)
 replace kv:=k3 kv (Ne.symm nb6_qgv)
 replace fb2:=k3 fb2 (Ne.symm nb6_b2)
 replace fb4:=k3 fb4 (Ne.symm nb6_b4)
 replace fb5:=k3 fb5 (Ne.symm nb6_b5)
 replace fgp:=k3 fgp ngp_b6
 replace fb7:=k3 fb7 nb7_b6
 replace fb8:=k3 fb8 nb8_b6
 replace fbv:=k3 fbv nbv6
 replace fbi:=k3 fbi nbi6
 have hp0:plM []=fun _=>none:=by funext k;cases k <;> rfl
 obtain⟨n,hn⟩:∃ n:vU,n=⟨b2,b6,b7,gp,gq⟩:=⟨_,rfl⟩
 have hH0:sH w q n [] B3:=by subst hn;exact⟨⟨kw,km,kv⟩,fb2,f6,fb7,by rw[hp0];exact fgp,fq⟩
 have hmp:q.gm≠n.gp:=by subst hn;exact Ne.symm ngp_qgm
 have hleB:bV B3 S:=by
  rw[← hB3]
  intro g x hx
  have h9:=hle9 g x hx
  have e1:g≠b6:=by rintro rfl;rw[zb6] at hx;cases hx
  have e2:g≠gq:=by rintro rfl;rw[h9] at hgq;cases hgq
  rw[aC e1,aC e2];exact h9
 have zgq:S gq=none:=oA hle9 hgq
 have hd0:0<w.defs.length:=by omega
 have en6:n.b6=b6:=by rw[hn]
 have enq:n.gq=gq:=by rw[hn]
 have enp:n.gp=gp:=by rw[hn]
 have en2:n.b2=b2:=by rw[hn]
 have en7:n.b7=b7:=by rw[hn]
 have ebv:bv≠n.b6∧bv≠n.gq∧bv≠n.gp:=⟨by rw[en6];exact nbv6,bH fbv hH0.kq (by simp),by rw[enp];exact nbvp⟩
 have ebi:bi≠n.b6∧bi≠n.gq∧bi≠n.gp:=⟨by rw[en6];exact nbi6,bH fbi hH0.kq (by simp),by rw[enp];exact nbip⟩
 have eb4:b4≠n.b6∧b4≠n.gq∧b4≠n.gp:=⟨by rw[en6];exact Ne.symm nb6_b4,bH fb4 hH0.kq (by simp),bH fb4 hH0.kp (by simp)⟩
 have eb5:b5≠n.b6∧b5≠n.gq∧b5≠n.gp:=⟨by rw[en6];exact Ne.symm nb6_b5,bH fb5 hH0.kq (by simp),bH fb5 hH0.kp (by simp)⟩
 have eb8:b8≠n.b6∧b8≠n.gq∧b8≠n.gp:=⟨by rw[en6];exact nb8_b6,bH fb8 hH0.kq (by simp),bH fb8 hH0.kp (by simp)⟩
 clear hB3 nq nq6 nqp k3 hgq nbv6 nbi6 nbvp nbip hle9 f6 fq hle1 hle2 hle4 hle5 hle6 hle7
 refine pV ?_
 conv=>whnf
 intro fn gd gl hgd hgl hne
 refine rf_fam (fun x:StO w=>cT n B3 x.1) (fun out:List OwnT=>aK (aK (cT n B3 out) b4 (.row 0 1 0 [[.nils]])) b5 (.row 0 1 0 [[.bool false]])) (⟨[],OkO.nil w⟩:StO w) (qU (stpO w) ⟨[],OkO.nil w⟩ w.classes[i].cpl.reverse) ?_ hgd hgl hne ?_ ?_ ?_ ?_ ?_
 ·exact hH0.self
 ·intro x g h
  rw[jM] at h ⊢
  exact h
 ·intro y g h
  rw[jM] at h
  have e4:g≠b4:=by rintro rfl;rw[fb4] at h;cases h.2.2.2
  have e5:g≠b5:=by rintro rfl;rw[fb5] at h;cases h.2.2.2
  rw[aC e5,aC e4,jM]
  exact h
 ·generalize hR0:AO.loop .ready none fn _ _ _ _ gd=rec0
  generalize hRd:AO.loop .done (some .ret) fn _ _ _ _ gd=recd
  have eL:∀ {g x},B3 g=some x→g≠gl:=fun {g x} h=>by rintro rfl;rw[hgl] at h;cases h
  have gl6:gl≠n.b6:=fun e=>by rw[e,hH0.k6] at hgl;cases hgl
  have glq:gl≠n.gq:=fun e=>by rw[e,hH0.kq] at hgl;cases hgl
  have glp:gl≠n.gp:=fun e=>by rw[e,hH0.kp] at hgl;cases hgl
  have glN:∀ o,cT n B3 o gl=none:=fun o=>(jM _ _ _).2 ⟨gl6,glq,glp,hgl⟩
  have at3:∀ (o:List OwnT) {g x},B3 g=some x→g≠n.b6∧g≠n.gq∧g≠n.gp→aK (cT n B3 o) gl rec0 g=some x:=fun o {g x} h e=>by rw[aC (eL h),fS n B3 o e.1 e.2.1 e.2.2];exact h
  refine gens_spec (ACC:=fun x:StO w=>aK (cT n B3 x.1) gl rec0) (ACY:=fun out=>aK (aK (aK (cT n B3 out) b4 (.row 0 1 0 [[.nils]])) b5 (.row 0 1 0 [[.bool false]])) gl recd) hi hd hv ⟨fun x m hm=>?_,fun x=>⟨_,_,_,_,_,_,_,_,by rw[aA,← hR0]⟩,fun x x' g h=>?_,fun x y g h=>?_,fun x=>(hH0.put hmp x.1).v.upd (glN x.1),fun x=>at3 x.1 fbv ebv,fun x=>at3 x.1 fbi ebi⟩ ⟨[],OkO.nil w⟩
  ·obtain⟨c,v,hkn,hdm⟩:=eKn_def hd hv (by omega) m
   rw[hkn]
   have hstp:stpS w x.1 m=mY w.classes (gN w m).name x.1 (gN w m).slots:=rfl
   have hH1:sH w q n x.1 (aK (cT n B3 x.1) gl rec0):=(hH0.put hmp x.1).keep (glN x.1)
   have same:∀ o,cT n (aK (cT n B3 x.1) gl rec0) o=aK (cT n B3 o) gl rec0:=fun o=>by
    funext g
    unfold cT
    by_cases q0:g=gl
    ·subst q0;rw[aC gl6,aC glq,aC glp,aA,aA]
    rw[aC q0]
    by_cases q1:g=n.b6
    ·subst q1;rw[aA,aA]
    rw[aC q1,aC q1]
    by_cases q2:g=n.gq
    ·subst q2;rw[aA,aA]
    rw[aC q2,aC q2]
    by_cases q3:g=n.gp
    ·subst q3;rw[aA,aA]
    rw[aC q3,aC q3,aC q0,aC q1,aC q2,aC q3]
   refine xJ (by rw[aA,← hR0]) rfl fun lp=>?_
   refine sS (qJ.weak (t':=gF 67 [(4,.ptr b4 0 0 0 1),(5,.ptr b5 0 0 0 1),(6,.ptr n.b6 0 0 0 1),(8,.ptr b8 0 0 0 1),(20,.agg (eK (gN w m) c v))]) ?_ (aB _)) ?_
   ·rw[en6]
    repeat' (first | exact trivial | exact rfl | refine And.intro ?_ ?_)
   refine round55 hz hmp x.2 hH1 hdm (at3 x.1 fb4 eb4) (at3 x.1 fb5 eb5) (by rw[en7,en6,en2];exact at3 x.1 fb8 eb8) (by rw[aA,← hR0]) nb5_b4 (fun o ho=>?_) (fun o ho=>?_) lp
   ·have hok:=stp_ok hz hd0 x m (hstp.trans ho)
    unfold stpO
    rw[hstp,ho]
    simp only[dif_pos hok]
    exact⟨rfl,same o⟩
   ·unfold stpO
    rw[hstp,ho]
    refine⟨rfl,?_⟩
    rw[hRd,same]
    show _=aK (aK (aK (cT n B3 o) b4 (.row 0 1 0 [[.nils]])) b5 (.row 0 1 0 [[.bool false]])) gl recd
    funext g
    by_cases q0:g=gl
    ·subst q0;rw[aA,aA]
    rw[aC q0,aC q0]
    by_cases q5:g=b5
    ·subst q5;rw[aA,aA]
    rw[aC q5,aC q5]
    by_cases q4:g=b4
    ·subst q4;rw[aA,aA]
    rw[aC q4,aC q4,aC q0]
  ·obtain⟨e1,h⟩:=fR h
   rw[aC e1]
   rw[jM] at h ⊢
   exact h
  ·obtain⟨e1,h⟩:=fR h
   rw[jM] at h
   have e4:g≠b4:=by rintro rfl;rw[fb4] at h;cases h.2.2.2
   have e5:g≠b5:=by rintro rfl;rw[fb5] at h;cases h.2.2.2
   rw[aC e1,aC e5,aC e4,jM]
   exact h
 ·intro x hx
  have hfo:=foldO hz hd0 w.classes[i].cpl.reverse ⟨[],OkO.nil w⟩
  rw[hx] at hfo
  have hgen:pI w [] w.classes[i].cpl.reverse=some x.1:=by rw[genS_R,← hfo]
  have hO:∀ o S',slotsR n.gq S x.1 o S'→wF w w.classes[i] S o S':=fun o S' h=>by unfold wF;rw[hgen];exact⟨n.gq,by rw[enq];exact zgq,h⟩
  have zd:S gd=none:=oA hleB hgd
  have hHx:=hH0.put hmp x.1
  have gdN:cT n B3 x.1 gd=none:=by
   rw[jM]
   exact⟨fun e=>(by rw[e,hH0.k6] at hgd;cases hgd),fun e=>(by rw[e,hH0.kq] at hgd;cases hgd),fun e=>(by rw[e,hH0.kp] at hgd;cases hgd),hgd⟩
  have zq:S n.gq=none:=by rw[enq];exact zgq
  conv=>whnf
  refine sS (qJ.weak (t':=gF 67 [(4,.ptr b4 0 0 0 1),(5,.ptr b5 0 0 0 1),(6,.ptr n.b6 0 0 0 1)]) ?_ (aB _)) ?_
  ·rw[en6]
   repeat' (first | exact trivial | exact rfl | refine And.intro ?_ ?_)
  refine tail55 (n:=n) (x.2.len hz) (aE ((fS n B3 x.1 eb4.1 eb4.2.1 eb4.2.2).trans fb4) gdN) (aE ((fS n B3 x.1 eb5.1 eb5.2.1 eb5.2.2).trans fb5) gdN) (aE hHx.k6 gdN) (aE hHx.kq gdN) (aA _ _ _) nb5_b4 (fun g y hy=>?_) zb4 zb5 zq zd (fun h=>hO _ _ (.inl ⟨h,rfl,rfl⟩)) (fun h=>hO _ _ (.inr ⟨h,rfl,rfl⟩))
  have x1:g≠gd:=by rintro rfl;rw[zd] at hy;cases hy
  have x2:g≠n.b6:=by rintro rfl;rw[en6,zb6] at hy;cases hy
  have x3:g≠n.gq:=by rintro rfl;rw[zq] at hy;cases hy
  have x4:g≠n.gp:=by rintro rfl;rw[enp,zgp] at hy;cases hy
  rw[aC x1,fS n B3 x.1 x2 x3 x4]
  exact hleB g y hy
 ·intro y hy
  have hfo:=foldO hz hd0 w.classes[i].cpl.reverse ⟨[],OkO.nil w⟩
  rw[hy] at hfo
  have hgen:pI w [] w.classes[i].cpl.reverse=none:=by rw[genS_R,← hfo]
  have hO:wF w w.classes[i] S (.ret (.tup [.nils,.bool false])) S:=by unfold wF;rw[hgen];exact⟨rfl,rfl⟩
  have zd:S gd=none:=oA hleB hgd
  have zq:S n.gq=none:=by rw[enq];exact zgq
  have e4d:b4≠gd:=fun e=>by rw[← e,fb4] at hgd;cases hgd
  have e5d:b5≠gd:=fun e=>by rw[← e,fb5] at hgd;cases hgd
  refine sS (qJ.weak (t':=gF 67 [(4,.ptr b4 0 0 0 1),(5,.ptr b5 0 0 0 1)]) ?_ (aB _)) ?_
  ·repeat' (first | exact trivial | exact rfl | refine And.intro ?_ ?_)
  refine stop55b (by rw[aC e4d,aC (Ne.symm nb5_b4),aA]) (by rw[aC e5d,aA]) (aA _ _ _) (fun g y' hy'=>?_) zd _ hO
  have x1:g≠gd:=by rintro rfl;rw[zd] at hy';cases hy'
  have x2:g≠n.b6:=by rintro rfl;rw[en6,zb6] at hy';cases hy'
  have x3:g≠n.gq:=by rintro rfl;rw[zq] at hy';cases hy'
  have x4:g≠n.gp:=by rintro rfl;rw[enp,zgp] at hy';cases hy'
  have x5:g≠b4:=by rintro rfl;rw[zb4] at hy';cases hy'
  have x6:g≠b5:=by rintro rfl;rw[zb5] at hy';cases hy'
  rw[aC x1,aC x6,aC x5,fS n B3 y x2 x3 x4]
  exact hleB g y' hy'
end
section
attribute [local irreducible] T TL
set_option maxRecDepth 10000
set_option maxHeartbeats 4000000
variable {w:aW} {q:uU}
theorem rS (hl:lookB w.classes=true) (hd:w.defs.length=w.classes.length) (hv:w.versions.length=w.classes.length) (hz:NumW w) (i:Nat) (hi:i<w.classes.length) (S:aD) (hS:HasV w q S) :
  Fn PP 55 [vp q,.int .i64 i] S fun o S'=>o=.ret (.tup [OS (dI w w.classes[i]).1,.bool (dI w w.classes[i]).2])∧S'=S:=by
 refine cL (fO (slots_row hl hd hv hz i hi S hS) fun o S' h=>?_)
 unfold wF at h
 cases hg:pI w [] w.classes[i].cpl.reverse with
 | none=>
  rw[hg] at h
  obtain⟨rfl,rfl⟩:=h
  have e:dI w w.classes[i]=([],false):=by unfold dI;rw[hg]
  rw[e]
  exact aO.nilv (nilT (qs:=[OS [],.bool false]) ⟨.nils 144,.same _,trivial⟩) (aO.same ⟨rfl,rfl⟩)
 | some out=>
  rw[hg] at h
  obtain⟨gq,hgq,h⟩:=h
  have e:dI w w.classes[i]=ansS out:=by unfold dI ansS;rw[hg]
  rw[e]
  rcases h with ⟨hk,rfl,rfl⟩ | ⟨hk,rfl,rfl⟩
  ·have e2:ansS out=(out,decide (out.length≤64)):=by unfold ansS;rw[hk];rfl
   rw[e2]
   refine aO.freeze (aA _ _ _) (fzT (qs:=[OS out,.bool (decide (out.length≤64))]) ⟨eQ (List.length_map _).symm,.same _,trivial⟩) (aO.weak (fun g y hy=>?_) (aO.same ⟨rfl,rfl⟩))
   have x:g≠gq:=by rintro rfl;rw[hgq] at hy;cases hy
   unfold iZ
   rw[if_neg x,aC x];exact hy
  ·have e2:ansS out=([],false):=by unfold ansS;rw[hk];rfl
   rw[e2]
   exact aO.nilv (nilT (qs:=[OS [],.bool false]) ⟨.nils 144,.same _,trivial⟩) (aO.same ⟨rfl,rfl⟩)
def rF (w:aW):Prop:=∀ d∈w.defs,∀ s∈d.slots,s.ty.cnt<4611686018427387904∧kH s.ty
structure Rd (w:aW):Prop where
 l:lookB w.classes=true
 d:w.defs.length=w.classes.length
 v:w.versions.length=w.classes.length
 n:NumW w
theorem defsOk_mem {l:List ClassI}:∀ {cs:List ClassI} {ds:List DefT} {vs:List Int},jB l cs ds vs=true→ds.length=cs.length→vs.length=cs.length→∀ d∈ds,d.slots.length≤16
 | [],[],_,_,_,_,d,hd=>by simp at hd
 | [],_::_,_,_,h,_,d,hd=>by simp at h
 | c::cs,[],_,_,h,_,d,hd=>by simp at hd
 | c::cs,d0::ds,[],_,_,h,d,hd=>by simp at h
 | c::cs,d0::ds,v::vs,h,h1,h2,d,hd=>by
  simp only[jB,Bool.and_eq_true] at h
  rcases List.mem_cons.1 hd with rfl | hd
  ·have:=h.1.2
   unfold defOkB at this
   simp only[Bool.and_eq_true,decide_eq_true_eq] at this
   exact this.1.2
  ·exact defsOk_mem h.2 (by simpa using h1) (by simpa using h2) d hd
theorem rd_of (hm:rF w) (h:lU w=true):Rd w:=by
 unfold lU at h
 simp only[Bool.and_eq_true,decide_eq_true_eq] at h
 obtain⟨⟨⟨h1,h2⟩,h3⟩,h4⟩:=h
 have h5:=(pR h3).len
 exact⟨h3,h1,h2,by omega,fun d hd=>⟨defsOk_mem h4 h1 h2 d hd,hm d hd⟩⟩
theorem rF.sz (hm:rF w):SzW w:=fun d hd s hs=>(hm d hd s hs).1
def checkedO (w:aW) (gw:Nat) (o:iY) (S':aD):Prop:=
 (bK w≠0∧o=.ret (.tup [.nilp,.int .i64 (bK w)])∧S'=aK E gw (RW w))∨(bK w=0∧∃ q:uU,q.gw=gw∧q.Ok∧o=.ret (.tup [vp q,.int .i64 0])∧S'=VW w q)
theorem checked_spec (w:aW) (hm:rF w) (gw:Nat):Fn PP 63 [.ptr gw 0 0 0 7] (aK E gw (RW w)) (checkedO w gw):=by
 refine aJ aI Tryz.func63 rfl (by rfl) (by rfl) ?_
 have kw0:aK E gw (RW w) gw=some (.row 0 7 0 [eW w]):=aA _ _ _
 refine cJ (mH (j:=0) kw0 rfl) fun b0=>?_
 rw[List.length_map] at b0
 refine aF ?_;intros
 refine aV (read_spec w hm.sz gw) (aB _) ?_
 rintro o S' (⟨hb,rfl,rfl⟩ | ⟨hb,q,rfl,qo,rfl,rfl⟩) -
 ·unfold dR
  rw[cW]
  refine aF ?_;intros
  have e:bK w=90:=by unfold bK;rw[if_pos hb]
  exact⟨_,aB _,.inl ⟨by rw[e];decide,by rw[e],rfl⟩⟩
 ·unfold dR
  rw[cW]
  have rd:=rd_of hm hb
  have hV:=HasV.of (w:=w) qo
  have kw:=hV.kw
  have kv:=hV.kv
  generalize hVW:VW w q=V at *
  refine aF ?_;intros
  refine aU (aY (α:=Nat) (inv:=fun i=>i≤w.classes.length∧(w.classes.take i).all (fun c=>(dI w c).2)=true) (tm:=fun i=>gF 34 [(4,vp q),(20,.int .i64 w.classes.length),(21,.int .i64 i)]) (st:=fun _=>V) (μ:=fun i=>w.classes.length - i) 0 ⟨by omega,rfl⟩ ?_ (aB _) ?_)
  ·repeat' (first | exact trivial | exact rfl | refine And.intro ?_ ?_)
   simp
  rintro i ⟨hi,hpre⟩
  refine aF ?_;intros
  refine fC (fun hc=>?_) (fun hc=>?_)
  ·have hlt:i<w.classes.length:=by omega
   refine aF ?_;intros
   refine bN (rS rd.l rd.d rd.v rd.n i hlt V hV) (aB _) ?_
   refine aF ?_;intros
   refine And.intro (fun c1=>?_) (fun c1=>?_)
   ·have c1:(dI w w.classes[i]).2=false:=by simpa using c1
    refine aF ?_;intros
    have e:bK w=91:=by
     unfold bK
     rw[if_neg (by rw[hb];decide),if_neg]
     intro h
     have:=List.all_eq_true.1 h w.classes[i] (List.getElem_mem hlt)
     rw[c1] at this;cases this
    refine⟨_,?_,.inl ⟨by rw[e];decide,by rw[e],rfl⟩⟩
    exact fE hV.kw
   ·have c1:(dI w w.classes[i]).2=true:=by simpa using c1
    refine aF ?_;intros
    refine⟨i+1,⟨by omega,by rw[List.take_succ_eq_append_getElem hlt,List.all_append,hpre];simp[c1]⟩,by omega,?_,aB _⟩
    repeat' (first | exact trivial | exact rfl | refine And.intro ?_ ?_)
  ·have e:i=w.classes.length:=by omega
   subst e
   rw[List.take_length] at hpre
   refine aF ?_;intros
   have e:bK w=0:=by unfold bK;rw[if_neg (by rw[hb];decide),if_pos hpre]
   exact⟨_,aB _,.inr ⟨e,q,rfl,qo,rfl,hVW.symm⟩⟩
theorem mrg_self {S S1:aD} (h:bV S S1):jD S S1 S1=S:=by
 funext g
 simp only[jD]
 cases e:S1 g with
 | none=>simp
 | some x=>simp[h g x e]
theorem vE {gw:Nat} (hm:rF w) {S:aD} {kr kp:PV→aD→Prop} (hS:S gw=some (RW w)) (h1:bK w≠0→kr (.tup [.nilp,.int .i64 (bK w)]) S)
  (h2:bK w=0→∀ q:uU,q.gw=gw→q.Ok→∀ S',HasV w q S'→bV S' S→kr (.tup [vp q,.int .i64 0]) S'):kJ PP 63 [.ptr gw 0 0 0 7] S kr kp:=by
 refine aV (checked_spec w hm gw) (fE hS) ?_
 rintro o S' (⟨hb,rfl,rfl⟩ | ⟨hb,q,rfl,qo,rfl,rfl⟩) hdom
 ·unfold dR
  rw[mrg_self (fE hS)]
  exact h1 hb
 ·unfold dR
  have hV:=HasV.of (w:=w) qo
  refine h2 hb q rfl qo _ ⟨dN hV.kw,dN hV.km,dN hV.kv⟩ fun g x hx=>?_
  cases e:VW w q g with
  | some y=>
   rw[dN e]
   rcases hdom g (by rw[e];rfl) with h | h
   ·by_cases e2:g=q.gw
    ·subst e2;rw[hS] at hx;rw[hV.kw] at e;rw[← e];exact hx
    ·rw[aC e2] at h;cases h
   ·rw[h] at hx;cases hx
  | none=>
   have e2:g≠q.gw:=by rintro rfl;rw[hV.kw] at e;cases e
   rw[qS e (by rw[aC e2];rfl)]
   exact hx
theorem wB (w:aW) (hm:rF w):FnP PP 19 [WV w] (.int .i64 (bK w)):=by
 refine aJ aI Tryz.func19 rfl (by rfl) (by rfl) ?_
 refine aF ?_;intros
 refine aG fun b hb=>?_
 refine aF ?_;intros
 refine vE hm (aA _ _ _) (fun hc=>?_) (fun hc q e qo S' hV hs=>?_)
 ·refine aF ?_;intros
  exact⟨E,aM _,rfl,rfl⟩
 ·refine aF ?_;intros
  exact⟨E,aM _,by rw[hc],rfl⟩
end
section
attribute [local irreducible] T TL
set_option maxRecDepth 10000
set_option maxHeartbeats 4000000
variable {w:aW} {q:uU}
def foundO (w:aW) (n:ByteArray) (gw:Nat) (o:iY) (S':aD):Prop:=
 (cP w n≠0∧o=.ret (.tup [.nilp,.int .i64 0,.int .i64 (cP w n)])∧S'=aK E gw (RW w)) ∨
 (cP w n=0∧∃ (q:uU) (i:Nat),q.gw=gw∧q.Ok∧bK w=0∧mZ w.classes n=some i∧o=.ret (.tup [vp q,.int .i64 (i:Nat),.int .i64 0])∧S'=VW w q)
theorem found_spec (w:aW) (hm:rF w) (n:ByteArray) (gw:Nat):Fn PP 52 [.ptr gw 0 0 0 7,.str n] (aK E gw (RW w)) (foundO w n gw):=by
 refine aJ aI Tryz.func52 rfl (by rfl) (by rfl) ?_
 have kw0:aK E gw (RW w) gw=some (.row 0 7 0 [eW w]):=aA _ _ _
 refine aF ?_;intros
 refine vE hm (aA _ _ _) (fun hc=>?_) (fun hc q e qo S' hV hs=>?_)
 ·refine aF ?_;intros
  refine ifN (fun h=>?_) (fun h=>absurd h hc)
  refine aF ?_;intros
  have e:cP w n=90:=by unfold cP;rw[if_pos hc]
  exact⟨_,aB _,.inl ⟨by rw[e];decide,by rw[e],rfl⟩⟩
 ·have kw:=hV.kw
  have km:=hV.km
  have kv:=hV.kv
  have hc0:¬ (bK w≠0):=fun h=>h hc
  refine aF ?_;intros
  cases hat:mZ w.classes n with
  | none=>
   refine jN km (nC hat) ?_
   refine aF ?_;intros
   have e3:cP w n=3:=by unfold cP;rw[if_neg hc0,hat]
   exact⟨_,hs,.inl ⟨by rw[e3];decide,by rw[e3],rfl⟩⟩
  | some i=>
   refine fV km (nA hat) ?_
   refine aF ?_;intros
   have e3:cP w n=0:=by unfold cP;rw[if_neg hc0,hat]
   exact⟨_,hV.sle,.inr ⟨e3,q,i,e,qo,hc,hat,rfl,rfl⟩⟩
theorem pW {gw:Nat} {n:ByteArray} (hm:rF w) {S:aD} {kr kp:PV→aD→Prop} (hS:S gw=some (RW w)) (h1:cP w n≠0→kr (.tup [.nilp,.int .i64 0,.int .i64 (cP w n)]) S)
  (h2:cP w n=0→∀ (q:uU) (i:Nat),bK w=0→mZ w.classes n=some i→∀ S',HasV w q S'→bV S' S→kr (.tup [vp q,.int .i64 (i:Nat),.int .i64 0]) S'):kJ PP 52 [.ptr gw 0 0 0 7,.str n] S kr kp:=by
 refine aV (found_spec w hm n gw) (fE hS) ?_
 rintro o S' (⟨hb,rfl,rfl⟩ | ⟨hb,q,i,rfl,qo,hc,hat,rfl,rfl⟩) hdom
 ·unfold dR
  rw[mrg_self (fE hS)]
  exact h1 hb
 ·unfold dR
  have hV:=HasV.of (w:=w) qo
  refine h2 hb q i hc hat _ ⟨dN hV.kw,dN hV.km,dN hV.kv⟩ fun g x hx=>?_
  cases e:VW w q g with
  | some y=>
   rw[dN e]
   rcases hdom g (by rw[e];rfl) with h | h
   ·by_cases e2:g=q.gw
    ·subst e2;rw[hS] at hx;rw[hV.kw] at e;rw[← e];exact hx
    ·rw[aC e2] at h;cases h
   ·rw[h] at hx;cases hx
  | none=>
   have e2:g≠q.gw:=by rintro rfl;rw[hV.kw] at e;cases e
   rw[qS e (by rw[aC e2];rfl)]
   exact hx
theorem rD (hm:rF w) (h:bK w=0):Rd w:=by
 refine rd_of hm ?_
 cases e:lU w with
 | true=>rfl
 | false=>unfold bK at h;rw[if_pos e] at h;cases h
theorem findx_spec (s:OwnT) (n:ByteArray) (S:aD) (b:Nat) (hb:S b=some (.row 0 1 0 [[.str n]])):Fn PP 71 [.agg (eO s),.ptr b 0 0 0 1] S fun o S'=>o=.ret (.bool (decide (s.slot.name=n)))∧S'=S:=by
 refine aJ aI Tryz.func71 rfl (by rfl) (by rfl) ?_
 refine aF ?_;intros
 refine aG fun b2 h2=>?_
 have k:=aE (y:=.row 0 (eO s).length 0 [eO s]) hb h2
 refine aF ?_;intros
 exact⟨S,aR h2,rfl,rfl⟩
theorem sharedx_spec (s:OwnT) (n:ByteArray) (S:aD) (b:Nat) (hb:S b=some (.row 0 1 0 [[.str n]])):Fn PP 72 [.agg (eO s),.ptr b 0 0 0 1] S fun o S'=>o=.ret (.bool (decide (s.slot.name=n)))∧S'=S:=by
 refine aJ aI Tryz.func72 rfl (by rfl) (by rfl) ?_
 refine aF ?_;intros
 refine aG fun b2 h2=>?_
 have k:=aE (y:=.row 0 (eO s).length 0 [eO s]) hb h2
 refine aF ?_;intros
 exact⟨S,aR h2,rfl,rfl⟩
theorem uJ (out:List OwnT) (s:ByteArray):(dD out s=none∧cQ (fun o:OwnT=>decide (o.slot.name=s)) out=-1)∨∃ k,k<out.length∧dD out s=some k∧cQ (fun o:OwnT=>decide (o.slot.name=s)) out=(k:Nat):=by
 rcases fJ (fun o:OwnT=>decide (o.slot.name=s)) out with ⟨h1,h2⟩ | ⟨k,hk,h1,h2,h3⟩
 ·refine .inl ⟨?_,h1⟩
  unfold dD
  rw[List.findIdx?_eq_none_iff]
  intro o ho
  obtain⟨j,hj,rfl⟩:=List.getElem_of_mem ho
  exact h2 j hj
 ·refine .inr ⟨k,hk,?_,h1⟩
  unfold dD
  rw[List.findIdx?_eq_some_iff_getElem]
  exact⟨hk,h2,fun j hj=>by have:=h3 j hj (by omega);simpa using this⟩
def bR (w:aW) (n:ByteArray):List OwnT:=match sD w.classes n with
 | some c=>(dI w c).1
 | none=>[]
def findV (w:aW) (n s:ByteArray):Int × Int:=if cP w n≠0 then (0,cP w n) else match dD (bR w n) s with
 | some k=>((k:Nat),0)
 | none=>(0,3)
theorem Find_spec (w:aW) (hm:rF w) (n s:ByteArray):FnP PP 28 [WV w,.str n,.str s] (.tup [.int .i64 (findV w n s).1,.int .i64 (findV w n s).2]):=by
 refine aJ aI Tryz.func28 rfl (by rfl) (by rfl) ?_
 refine aF ?_;intros
 refine aG fun b hb=>?_
 refine aF ?_;intros
 refine aG fun b5 h5=>?_
 have kw0:aK (aK E b (.row 0 (eW w).length 0 [eW w])) b5 (.row 0 [PV.str s].length 0 [[PV.str s]]) b=some (RW w):=aE (aA _ _ _) h5
 have k5:aK (aK E b (.row 0 (eW w).length 0 [eW w])) b5 (.row 0 [PV.str s].length 0 [[PV.str s]]) b5=some (.row 0 1 0 [[.str s]]):=aA _ _ _
 refine aF ?_;intros
 refine pW hm kw0 (fun hc=>?_) (fun hc q i hck hat S' hV hs=>?_)
 ·refine aF ?_;intros
  refine ifN (fun h=>?_) (fun h=>absurd h hc)
  refine aF ?_;intros
  exact⟨E,aM _,by unfold findV;rw[if_pos hc],rfl⟩
 ·have rd:=rD hm hck
  obtain⟨hi,hn⟩:=mF hat
  have hsn:bR w n=(dI w w.classes[i]).1:=by unfold bR;rw[pO hat hi]
  have kv:=hV.kv
  have k5':=hs _ _ k5
  have hc0:¬ (cP w n≠0):=fun h=>h hc
  refine aF ?_;intros
  refine bN (rS rd.l rd.d rd.v rd.n i hi S' hV) (aB _) ?_
  refine aF ?_;intros
  have hix:Fn PP 56 [OS (dI w w.classes[i]).1,.fn (.func 71) [] [.ptr b5 0 0 0 1]] S' fun o S2=>o=.ret (.int .i64 (cQ (fun o:OwnT=>decide (o.slot.name=s)) (dI w w.classes[i]).1))∧S2=S':=
   fO (indexO (St:=Unit) (st:=fun _=>S') (dI w w.classes[i]).1 71 [] [.ptr b5 0 0 0 1] (fun o=>decide (o.slot.name=s)) (fun x _ _=>fO (findx_spec x s S' b5 k5') fun o S2 h=>⟨(),h⟩) ()) fun o S2 ⟨_,h⟩=>h
  refine bN hix (aB _) ?_
  have hfv:findV w n s=match dD (dI w w.classes[i]).1 s with | some k=>(((k:Nat):Int),0) | none=>(0,3):=by unfold findV;rw[if_neg hc0,hsn]
  rcases uJ (dI w w.classes[i]).1 s with ⟨e1,e2⟩ | ⟨k,hk,e1,e2⟩
  ·rw[e2]
   rw[e1] at hfv
   refine aF ?_;intros
   exact⟨E,aM _,by rw[hfv],rfl⟩
  ·rw[e2]
   rw[e1] at hfv
   refine aF ?_;intros
   exact⟨E,aM _,by rw[hfv],rfl⟩
def oB (w:aW) (n s:ByteArray):ByteArray × Int:=if cP w n≠0 then (qZ,cP w n) else match dD (bR w n) s with
 | some k=>(match (bR w n)[k]? with
  | some o=>if o.slot.alloc=2 then (o.owner,0) else if o.slot.alloc=3 then (n,0) else (qZ,0)
  | none=>(qZ,0))
 | none=>(qZ,3)
theorem tI (w:aW) (hm:rF w) (n s:ByteArray):FnP PP 30 [WV w,.str n,.str s] (.tup [.str (oB w n s).1,.int .i64 (oB w n s).2]):=by
 refine aJ aI Tryz.func30 rfl (by rfl) (by rfl) ?_
 refine aF ?_;intros
 refine aG fun b hb=>?_
 refine aF ?_;intros
 refine aG fun b5 h5=>?_
 have kw0:aK (aK E b (.row 0 (eW w).length 0 [eW w])) b5 (.row 0 [PV.str s].length 0 [[PV.str s]]) b=some (RW w):=aE (aA _ _ _) h5
 have k5:aK (aK E b (.row 0 (eW w).length 0 [eW w])) b5 (.row 0 [PV.str s].length 0 [[PV.str s]]) b5=some (.row 0 1 0 [[.str s]]):=aA _ _ _
 refine aF ?_;intros
 refine pW hm kw0 (fun hc=>?_) (fun hc q i hck hat S' hV hs=>?_)
 ·refine aF ?_;intros
  refine ifN (fun h=>?_) (fun h=>absurd h hc)
  refine aF ?_;intros
  exact⟨E,aM _,by unfold oB;rw[if_pos hc],rfl⟩
 ·have rd:=rD hm hck
  obtain⟨hi,hn⟩:=mF hat
  have hsn:bR w n=(dI w w.classes[i]).1:=by unfold bR;rw[pO hat hi]
  have kv:=hV.kv
  have k5':=hs _ _ k5
  have hc0:¬ (cP w n≠0):=fun h=>h hc
  refine aF ?_;intros
  refine bN (rS rd.l rd.d rd.v rd.n i hi S' hV) (aB _) ?_
  refine aF ?_;intros
  have hix:Fn PP 56 [OS (dI w w.classes[i]).1,.fn (.func 72) [] [.ptr b5 0 0 0 1]] S' fun o S2=>o=.ret (.int .i64 (cQ (fun o:OwnT=>decide (o.slot.name=s)) (dI w w.classes[i]).1))∧S2=S':=
   fO (indexO (St:=Unit) (st:=fun _=>S') (dI w w.classes[i]).1 72 [] [.ptr b5 0 0 0 1] (fun o=>decide (o.slot.name=s)) (fun x _ _=>fO (sharedx_spec x s S' b5 k5') fun o S2 h=>⟨(),h⟩) ()) fun o S2 ⟨_,h⟩=>h
  refine bN hix (aB _) ?_
  rcases uJ (dI w w.classes[i]).1 s with ⟨e1,e2⟩ | ⟨k,hk,e1,e2⟩
  ·have hfv:oB w n s=(qZ,3):=by unfold oB;rw[if_neg hc0,hsn,e1]
   rw[e2]
   refine aF ?_;intros
   exact⟨E,aM _,by rw[hfv],rfl⟩
  ·have hfv:oB w n s=if (dI w w.classes[i]).1[k].slot.alloc=2 then ((dI w w.classes[i]).1[k].owner,0) else if (dI w w.classes[i]).1[k].slot.alloc=3 then (n,0) else (qZ,0):=by
    unfold oB;rw[if_neg hc0,hsn,e1]
    dsimp only
    rw[List.getElem?_eq_getElem hk]
   rw[e2]
   generalize (dI w w.classes[i]).1=L at *
   refine aF ?_;intros
   refine fC (fun c1=>?_) (fun c1=>?_)
   ·rw[if_pos c1] at hfv
    refine aF ?_;intros
    exact⟨E,aM _,by rw[hfv],rfl⟩
   rw[if_neg c1] at hfv
   refine aF ?_;intros
   refine fC (fun c2=>?_) (fun c2=>?_)
   ·rw[if_pos c2] at hfv
    refine aF ?_;intros
    exact⟨E,aM _,by rw[hfv],rfl⟩
   rw[if_neg c2] at hfv
   refine aF ?_;intros
   exact⟨E,aM _,by rw[hfv],rfl⟩
end
section
attribute [local irreducible] T TL
set_option maxRecDepth 10000
set_option maxHeartbeats 4000000
variable {w:aW} {q:uU}
theorem wD (hb:lU w=true) (hck:bK w=0) {i:Nat} (hi:i<w.classes.length):∃ out,pI w [] w.classes[i].cpl.reverse=some out∧dJ [] out=true∧out.length≤64∧dI w w.classes[i]=(out,true):=by
 unfold bK at hck
 rw[if_neg (by rw[hb];decide)] at hck
 have hall:(w.classes.all fun c=>(dI w c).2)=true:=by
  cases e:w.classes.all fun c=>(dI w c).2 with
  | true=>rfl
  | false=>rw[if_neg (by rw[e];decide)] at hck;cases hck
 have h1:=List.all_eq_true.1 hall w.classes[i] (List.getElem_mem hi)
 cases hg:pI w [] w.classes[i].cpl.reverse with
 | none=>unfold dI at h1;rw[hg] at h1;cases h1
 | some out=>
  have e:dI w w.classes[i]=if dJ [] out then (out,decide (out.length≤64)) else ([],false):=by unfold dI;rw[hg]
  cases hk:dJ [] out with
  | false=>rw[e,hk] at h1;cases h1
  | true=>
   rw[hk] at e
   rw[e] at h1
   have h2:out.length≤64:=by simpa using h1
   exact⟨out,rfl,hk,h2,by rw[e];simp[h2]⟩
theorem dW (h:bK w=0):lU w=true:=by
 cases e:lU w with
 | true=>rfl
 | false=>unfold bK at h;rw[if_pos e] at h;cases h
theorem mA (w:aW) (hm:rF w) (n:ByteArray):FnP PP 21 [WV w,.str n] (.tup [OS (if cP w n≠0 then [] else bR w n),.int .i64 (cP w n)]):=by
 refine cL (aJ aI Tryz.func21 rfl (by rfl) (by rfl) ?_)
 refine aF ?_;intros
 refine aG fun b hb=>?_
 refine aF ?_;intros
 refine pW hm (aA _ _ _) (fun hc=>?_) (fun hc q i hck hat S' hV hs=>?_)
 ·refine aF ?_;intros
  refine ifN (fun h=>?_) (fun h=>absurd h hc)
  refine aF ?_;intros
  rw[if_pos hc]
  exact⟨E,aM _,aO.nilv (nilT (qs:=[OS [],.int .i64 (cP w n)]) ⟨.nils 144,.same _,trivial⟩) (aO.same ⟨rfl,rfl⟩)⟩
 ·have rd:=rD hm hck
  obtain⟨hi,hn⟩:=mF hat
  obtain⟨out,hg,hko,hlen,hsv⟩:=wD (dW hck) hck hi
  have hsn:bR w n=out:=by unfold bR;rw[pO hat hi];dsimp only;rw[hsv]
  have hc0:¬ (cP w n≠0):=fun h=>h hc
  rw[if_neg hc0,hsn,hc]
  have kv:=hV.kv
  refine aF ?_;intros
  refine aV (slots_row rd.l rd.d rd.v rd.n i hi S' hV) (aB _) ?_
  rintro o S2 h -
  unfold wF at h
  rw[hg] at h
  obtain⟨gq,hgq,⟨_,rfl,rfl⟩ | ⟨hk,_⟩⟩:=h
  rotate_left
  ·rw[hko] at hk;cases hk
  unfold dR
  rw[cW]
  generalize hY:aK S' gq (RO out)=Y
  have kq:Y gq=some (RO out):=by rw[← hY];exact aA _ _ _
  refine aF ?_;intros
  refine aU (aY (α:=Nat) (inv:=fun k=>k≤out.length) (tm:=fun k=>gF 44 [(9,.row gq out.length 0 out.length 10),(28,.int .i64 out.length),(29,.int .i64 k)]) (st:=fun _=>Y) (μ:=fun k=>out.length - k) 0 (by omega) ?_ (aB _) ?_)
  ·repeat' (first | exact trivial | exact rfl | refine And.intro ?_ ?_)
  intro k hk
  refine aF ?_;intros
  refine fC (fun hc=>?_) (fun hc=>?_)
  ·have hlt:k<out.length:=by omega
   refine aF ?_;intros
   refine tG (i:=0+k) [] (wN out[k].slot) [.str out[k].owner] kq (by rw[Nat.zero_add,List.getElem?_map,List.getElem?_eq_getElem hlt];rfl) ?_
   refine aF ?_;intros
   refine⟨k+1,by omega,by omega,?_,aB _⟩
   repeat' (first | exact trivial | exact rfl | refine And.intro ?_ ?_)
  ·have e:k=out.length:=by omega
   refine aF ?_;intros
   exact⟨Y,aB _,aO.freeze kq (fzT (qs:=[OS out,.int .i64 0]) ⟨eQ (List.length_map _).symm,.same _,trivial⟩) (aO.weak (aM _) (aO.same ⟨rfl,rfl⟩))⟩
theorem makes_spec (d:DefT) (c:ClassI) (v:Int):FnP PP 54 [.agg (eK d c v)] (.bool (zH d)):=by
 refine aJ aI Tryz.func54 rfl (by rfl) (by rfl) ?_
 refine aF ?_;intros
 refine aG fun b hb=>?_
 refine aF ?_;intros
 have hcs:FnP PP 80 [LS [aP,cS,dX,iK,kS],.str d.name] (.bool (([aP,cS,dX,iK,kS]:List ByteArray).any (nL d.name))):=mT _ _
 refine And.intro (fun a1=>?_) (fun a1=>?_)
 ·have a1:d.abs=false:=by simpa using a1
  refine aF ?_;intros
  refine Or.inl ?_
  refine aF ?_;intros
  refine bE hcs ?_
  refine aF ?_;intros
  refine⟨E,aM _,?_,rfl⟩
  unfold zH
  rw[a1]
  have e:∀ l:List ByteArray,l.any (nL d.name)=l.any fun n=>decide (n=d.name):=fun l=>by
   rw[Bool.eq_iff_iff,jE]
   simp
  rw[e];rfl
 ·have a1:d.abs=true:=by simpa using a1
  refine aF ?_;intros
  exact⟨E,aM _,by unfold zH;rw[a1];rfl,rfl⟩
instance (d:DefT) (c:ClassI) (v:Int):cH 54 [.agg (eK d c v)] (.bool (zH d)):=⟨makes_spec d c v⟩
end
section
attribute [local irreducible] T TL
set_option maxRecDepth 10000
set_option maxHeartbeats 4000000
variable {w:aW} {q:uU}
def xD (L:List OwnT) (k:ByteArray):Bool:=decide (k=qZ) || !(L.any fun o=>decide (o.slot.key=k))
def keyF (keys:List ByteArray) (s:SlotT):Int:=if s.key=qZ then -1 else cQ (nL s.key) keys
def kY (keys:List ByteArray) (o:OwnT):yZ:=⟨o,keyF keys o.slot,decide (keyF keys o.slot<0) && decide (0<o.slot.init.length)⟩
def iD (w:aW) (n:ByteArray) (keys:List ByteArray):List yZ × Int:=
 if cP w n≠0 then ([],cP w n) else if 16<keys.length then ([],2) else if zH (gN w n)=false then ([],92) else
 if keys.any (xD (bR w n)) then ([],93) else ((bR w n).map (kY keys),0)
abbrev FS (l:List yZ):PV:=.list 160 (l.map eF)
theorem planx_spec (s:OwnT) (n:ByteArray) (S:aD) (b:Nat) (hb:S b=some (.row 0 1 0 [[.str n]])):Fn PP 57 [.agg (eO s),.ptr b 0 0 0 1] S fun o S'=>o=.ret (.bool (decide (s.slot.key=n)))∧S'=S:=by
 refine aJ aI Tryz.func57 rfl (by rfl) (by rfl) ?_
 refine aF ?_;intros
 refine aG fun b2 h2=>?_
 have k:=aE (y:=.row 0 (eO s).length 0 [eO s]) hb h2
 refine aF ?_;intros
 exact⟨S,aR h2,rfl,rfl⟩
abbrev t16 (keys:List ByteArray) (L:List OwnT) (gq n i:Nat) (l:List (Nat × PV)):List PV:=gF 100 ([(2,LS keys),(15,.row gq n 0 n 12),(60,OS L),(61,.int .i64 L.length),(62,.int .i64 i)]++l)
theorem app16 {keys:List ByteArray} {L:List OwnT} {k gq b18:Nat} {Z:aD} {X:List (List PV)} {x:yZ} (hXl:X.length=k) (hk:k<100000)
  (zq:Z gq=some (.row k 12 160 X)) (z18:Z b18=some (.row 0 12 0 [eF x])) (hne:b18≠gq) {Q:bQ}
  (hJ:∀ t S',yH t (t16 keys L gq (k+1) k [])→bV S' (aK Z gq (.row (k+1) 12 160 (X++[eF x])))→Q .normal t S' []) :
  T PP none (rgn Tryz.f16 23) Q (t16 keys L gq k k [(18,.ptr b18 0 0 0 12)]) Z []:=by
 refine aF ?_;intros
 refine And.intro (fun c hc=>?_) ?_
 ·rw[List.mem_singleton] at hc
  subst hc
  exact⟨rfl,trivial,trivial,trivial,trivial,trivial,trivial,trivial,trivial,trivial,trivial,trivial,trivial,trivial⟩
 refine And.intro rfl (bX zq ?_)
 refine And.intro hXl (And.intro rfl (And.intro (show (k+1)*160≤140737488355328 by omega) ?_))
 refine aF ?_;intros
 exact hJ _ _ (by repeat' (first | exact trivial | exact rfl | refine And.intro ?_ ?_)) (aB _)
theorem tail16 {keys:List ByteArray} {L:List OwnT} {k gq b17 b18:Nat} {Q0 Z:aD} {X:List (List PV)} {o:OwnT} {kx:Int} (hXl:X.length=k) (hk:k<100000) (hkx:keyF keys o.slot=kx) (hil:o.slot.init.length*168≤140737488355328)
  (zq:Z gq=some (.row k 12 160 X)) (z17:Z b17=some (.row 0 10 0 [eO o])) (z18:Z b18=some (.row 0 12 0 [eF ⟨o,kx,false⟩])) (hne:b18≠gq) (n1817:b18≠b17) (hsZ:bV Z Q0) (q18:Q0 b18=none) {Q:bQ}
  (hJ:∀ t S',yH t (t16 keys L gq (k+1) k [])→bV S' (aK Q0 gq (.row (k+1) 12 160 (X++[eF (kY keys o)])))→Q .normal t S' []) :
  T PP none (.seq (rgn Tryz.f16 22) (rgn Tryz.f16 23)) Q (t16 keys L gq k k [(17,.ptr b17 0 0 0 10),(18,.ptr b18 0 0 0 12)]) Z []:=by
 have hfin:∀ (Z':aD) (t:List PV) (b:Bool),(decide (kx<0) && decide (0<o.slot.init.length))=b→Z'=aK Z b18 (.row 0 12 0 [eF ⟨o,kx,b⟩])→yH t (t16 keys L gq k k [(18,.ptr b18 0 0 0 12)])→T PP none (rgn Tryz.f16 23) Q t Z' []:=fun Z' t b hb h ht=>by
  subst h
  have hf:kY keys o=⟨o,kx,b⟩:=by unfold kY;rw[hkx,hb]
  rw[hf] at hJ
  exact (app16 hXl hk (by rw[aC (Ne.symm hne)];exact zq) (aA _ _ _) hne fun t' S' a b=>hJ t' S' a (b.trans fun g y hy=>by
   by_cases e:g=gq
   ·subst e;rw[aA] at hy ⊢;exact hy
   ·rw[aC e] at hy ⊢
    have e2:g≠b18:=by rintro rfl;rw[q18] at hy;cases hy
    rw[aC e2];exact hsZ _ _ hy)).weak ht (aB _)
 refine aF ?_;intros
 refine And.intro (fun a1=>?_) (fun a1=>?_)
 ·refine nO ?_;intros
  refine gG z18 (Nat.le_refl _) ?_
  refine nO ?_;intros
  refine hfin _ _ (decide (0<((o.slot.init.map eX).length:Int))) ?_ rfl ?_
  ·have a1:kx<0:=by simpa using a1
   simp[a1]
  ·repeat' (first | exact trivial | exact rfl | refine And.intro ?_ ?_)
 ·refine nO ?_;intros
  refine gG z18 (Nat.le_refl _) ?_
  refine nO ?_;intros
  refine hfin _ _ _ ?_ rfl ?_
  ·have a1:¬ kx<0:=by simpa using a1
   simp[a1]
  ·repeat' (first | exact trivial | exact rfl | refine And.intro ?_ ?_)
theorem round16 {keys:List ByteArray} {L:List OwnT} {k gq:Nat} {Q0:aD} {X:List (List PV)} (hlt:k<L.length) (hL:L.length<100000) (hkl:keys.length<100) (hXl:X.length=k)
  (hq0:Q0 gq=some (.row k 12 160 X)) {J:List PV→aD→List DA→Prop} {Q:bQ}
  (hJ:∀ t S',yH t (t16 keys L gq (k+1) (k+1) [])→bV S' (aK Q0 gq (.row (k+1) 12 160 (X++[eF (kY keys L[k])])))→J t S' []) :
  T PP none (nthL Tryz.f16 1) (uA J Q) (t16 keys L gq k k []) Q0 []:=by
 refine aF ?_;intros
 refine fC (fun _=>?_) (fun hc=>absurd (by omega) hc)
 refine aF ?_;intros
 refine aG fun b17 h17=>?_
 refine aF ?_;intros
 generalize hY:aK Q0 b17 _=Y
 have k17:Y b17=some (.row 0 10 0 [eO L[k]]):=by rw[← hY];exact aA _ _ _
 have kq:Y gq=some (.row k 12 160 X):=by rw[← hY];exact aE hq0 h17
 have hsY:bV Y Q0:=by rw[← hY];exact aR h17
 clear hY h17
 refine aU (cJ (mH (j:=8) k17 rfl) fun hil=>?_)
 rw[List.length_map] at hil
 refine T_drawR aI (by rfl) 8 [7] (by kernel_rfl) (by kernel_rfl) ?_
 refine aF ?_;intros
 refine⟨yI (aH GT 63).size (aH GT 63).zero,?_,fun _ _ _ h hs=>h.sle hs,?_⟩
 ·conv=>whnf
  exact⟨by decide,rfl⟩
 refine aF ?_
 rintro p S3 ⟨b18,h18,rfl,rfl⟩
 have n1817:b18≠b17:=aL k17 h18
 have n18q:b18≠gq:=aL kq h18
 have q18:Q0 b18=none:=by
  cases e:Q0 b18 with
  | none=>rfl
  | some y=>rw[hsY _ _ e] at h18;cases h18
 refine aF ?_;intros
 generalize hZ0:aK _ b18 _=Z0
 have z18:Z0 b18=some (.row 0 12 0 [eF ⟨L[k],-1,false⟩]):=by rw[← hZ0];exact aA _ _ _
 have z17:Z0 b17=some (.row 0 10 0 [eO L[k]]):=by rw[← hZ0];first | exact aE k17 h18 | (rw[aN];exact aE k17 h18)
 have zq:Z0 gq=some (.row k 12 160 X):=by rw[← hZ0];first | exact aE kq h18 | (rw[aN];exact aE kq h18)
 have hsZ:bV Z0 Q0:=by rw[← hZ0];first | exact (aR h18).trans hsY | (rw[aN];exact (aR h18).trans hsY)
 clear hZ0 h18 k17 kq hsY
 have hend:∀ t S',yH t (t16 keys L gq (k+1) k [])→bV S' (aK Q0 gq (.row (k+1) 12 160 (X++[eF (kY keys L[k])])))→T PP none (rgn Tryz.f16 24) (uA J Q) t S' []:=fun t S' h1 h2=>by
  refine T.weak ?_ h1 h2
  refine aF ?_;intros
  exact hJ _ _ (by repeat' (first | exact trivial | exact rfl | refine And.intro ?_ ?_)) (aB _)
 refine And.intro (fun a1=>?_) (fun a1=>?_)
 ·have a1:¬ L[k].slot.key=qZ:=by simpa using a1
  have hf:keyF keys L[k].slot=cQ (nL L[k].slot.key) keys:=by unfold keyF;rw[if_neg a1]
  refine nO ?_;intros
  refine T_mid (t16 keys L gq k k [(17,.ptr b17 0 0 0 10),(18,.ptr b18 0 0 0 12)]) (aK Z0 b18 (.row 0 12 0 [eF ⟨L[k],cQ (nL L[k].slot.key) keys,false⟩])) ?_ ?_
  ·exact tail16 hXl (by omega) hf hil (by rw[aC (Ne.symm n18q)];exact zq) (by rw[aC (Ne.symm n1817)];exact z17) (aA _ _ _) n18q n1817 (fun g y hy=>by
    have e2:g≠b18:=by rintro rfl;rw[q18] at hy;cases hy
    rw[aC e2];exact hsZ _ _ hy) q18 hend
  ·refine aF ?_;intros
   refine⟨?_,aB _⟩
   repeat' (first | exact trivial | exact rfl | refine And.intro ?_ ?_)
 ·have a1:L[k].slot.key=qZ:=by simpa using a1
  have hf:keyF keys L[k].slot=-1:=by unfold keyF;rw[if_pos a1]
  refine nO ?_;intros
  refine T_skip ?_
  refine T.weak (tail16 (keys:=keys) (L:=L) hXl (by omega) hf hil zq z17 z18 n18q n1817 hsZ q18 hend) ?_ (aB _)
  repeat' (first | exact trivial | exact rfl | refine And.intro ?_ ?_)
end
section
attribute [local irreducible] T TL
set_option maxRecDepth 10000
set_option maxHeartbeats 4000000
variable {w:aW} {q:uU}
theorem yD (w:aW) (hm:rF w) (n:ByteArray) (keys:List ByteArray):FnP PP 16 [WV w,.str n,LS keys] (.tup [FS (iD w n keys).1,.int .i64 (iD w n keys).2]):=by
 refine cL (aJ aI Tryz.func16 rfl (by rfl) (by rfl) ?_)
 refine cJ (bW (d:=2) rfl) fun hkl=>?_
 rw[List.length_map] at hkl
 have fin:∀ (S:aD) (e:Int),iD w n keys=([],e)→∃ S',bV S S'∧aO (.ret (.tup [.nils,.int .i64 e])) S' fun o S'=>o=.ret (.tup [FS (iD w n keys).1,.int .i64 (iD w n keys).2])∧S'=E:=fun S e h=>by
  rw[h]
  exact⟨E,aM _,aO.nilv (nilT (qs:=[FS [],.int .i64 e]) ⟨.nils 160,.same _,trivial⟩) (aO.same ⟨rfl,rfl⟩)⟩
 refine aF ?_;intros
 refine aG fun b hb=>?_
 refine aF ?_;intros
 refine pW hm (aA _ _ _) (fun hc=>?_) (fun hc q i hck hat S' hV hs=>?_)
 ·refine aF ?_;intros
  refine ifN (fun h=>?_) (fun h=>absurd h hc)
  refine aF ?_;intros
  exact fin _ _ (by unfold iD;rw[if_pos hc])
 ·have rd:=rD hm hck
  obtain⟨hi,hn⟩:=mF hat
  have hd:=rd.d
  have hv:=rd.v
  obtain⟨L,hg,hko,hlen,hsv⟩:=wD (dW hck) hck hi
  have hsn:bR w n=L:=by unfold bR;rw[pO hat hi];dsimp only;rw[hsv]
  have hc0:¬ (cP w n≠0):=fun h=>h hc
  have hdf:gN w n=w.defs[i]'(by omega):=by unfold gN;rw[hat,List.getD_eq_getElem?_getD];simp[List.getElem?_eq_getElem (by omega:i<w.defs.length)]
  have hp:iD w n keys=if 16<keys.length then ([],2) else if zH (w.defs[i]'(by omega))=false then ([],92) else if keys.any (xD L) then ([],93) else (L.map (kY keys),0):=by
   unfold iD;rw[if_neg hc0,hdf,hsn]
  have kv:=hV.kv
  have hss:=rS rd.l rd.d rd.v rd.n i hi S' hV
  rw[hsv] at hss
  have hcl:=tK i hi (by omega) (by omega) S' hV
  clear hs
  refine aF ?_;intros
  refine fC (fun c1=>?_) (fun c1=>?_)
  ·refine aF ?_;intros
   exact fin _ _ (by rw[hp,if_pos (by simp at c1;omega)])
  rw[if_neg (by simp at c1;omega)] at hp
  refine aF ?_;intros
  refine bN hcl (aB _) ?_
  refine aF ?_;intros
  refine And.intro (fun c2=>?_) (fun c2=>?_)
  ·have c2:zH (w.defs[i]'(by omega))=false:=by simpa using c2
   refine aF ?_;intros
   exact fin _ _ (by rw[hp,if_pos c2])
  have c2:¬ zH (w.defs[i]'(by omega))=false:=by simp at c2;simp[c2]
  rw[if_neg c2] at hp
  refine aF ?_;intros
  refine bN hss (aB _) ?_
  refine aF ?_;intros
  refine aU (aY (α:=Nat) (inv:=fun k=>k≤keys.length∧(keys.take k).any (xD L)=false) (tm:=fun k=>gF 100 [(2,LS keys),(11,OS L),(45,LS keys),(46,.int .i64 keys.length),(47,.int .i64 k)]) (st:=fun _=>S') (μ:=fun k=>keys.length - k) 0 ⟨by omega,rfl⟩ ?_ (aB _) ?_)
  ·repeat' (first | exact trivial | exact rfl | refine And.intro ?_ ?_)
   simp
  rintro k ⟨hk,hpre⟩
  refine aF ?_;intros
  refine fC (fun hc=>?_) (fun hc=>?_)
  ·have hlt:k<keys.length:=by omega
   refine aF ?_;intros
   refine aG fun b14 h14=>?_
   refine aF ?_;intros
   generalize hY:aK S' b14 _=Y
   have k14:Y b14=some (.row 0 1 0 [[.str keys[k]]]):=by rw[← hY];exact aA _ _ _
   have hsY:bV Y S':=by rw[← hY];exact aR h14
   clear hY h14
   have hbad:xD L keys[k]=true→iD w n keys=([],93):=fun h=>by
    rw[hp,if_pos]
    exact List.any_eq_true.2 ⟨keys[k],List.getElem_mem hlt,h⟩
   have hstep:(keys.take (k+1)).any (xD L)=xD L keys[k]:=by rw[List.take_succ_eq_append_getElem hlt,List.any_append,hpre];simp
   have hix:Fn PP 56 [OS L,.fn (.func 57) [] [.ptr b14 0 0 0 1]] Y fun o S2=>o=.ret (.int .i64 (cQ (fun o:OwnT=>decide (o.slot.key=keys[k])) L))∧S2=Y:=
    fO (indexO (St:=Unit) (st:=fun _=>Y) L 57 [] [.ptr b14 0 0 0 1] (fun o=>decide (o.slot.key=keys[k])) (fun x _ _=>fO (planx_spec x keys[k] Y b14 k14) fun o S2 h=>⟨(),h⟩) ()) fun o S2 ⟨_,h⟩=>h
   have hany:=nI (fun o:OwnT=>decide (o.slot.key=keys[k])) L
   refine aF ?_;intros
   refine And.intro (fun a1=>?_) (fun a1=>?_)
   ·have a1:¬ keys[k]=qZ:=by simpa using a1
    refine aF ?_;intros
    refine bN hix (aB _) ?_
    refine aF ?_;intros
    refine And.intro (fun a2=>?_) (fun a2=>?_)
    ·refine aF ?_;intros
     refine fin _ _ (hbad ?_)
     have:(L.any fun o=>decide (o.slot.key=keys[k]))=false:=by rw[← hany];simp at a2;simp;omega
     unfold xD;rw[this];simp
    ·refine aF ?_;intros
     have:(L.any fun o=>decide (o.slot.key=keys[k]))=true:=by rw[← hany];simp at a2;simp;omega
     refine⟨k+1,⟨by omega,by rw[hstep];unfold xD;rw[this];simp[a1]⟩,by omega,?_,hsY⟩
     repeat' (first | exact trivial | exact rfl | refine And.intro ?_ ?_)
   ·have a1:keys[k]=qZ:=by simpa using a1
    refine aF ?_;intros
    exact fin _ _ (hbad (by unfold xD;simp[a1]))
  ·have e:k=keys.length:=by omega
   subst e
   rw[List.take_length] at hpre
   rw[if_neg (by rw[hpre];decide)] at hp
   refine aF ?_;intros
   refine aU (gJ 15 12 160 rfl fun gq hgq=>?_)
   let F:Nat→List yZ:=fun k=>(L.take k).map (kY keys)
   have hFl:∀ k,k≤L.length→(F k).length=k:=fun k hk=>by simp only[F,List.length_map,List.length_take];omega
   have hF1:∀ k (h:k<L.length),F (k+1)=F k++[kY keys L[k]]:=fun k h=>by simp only[F];rw[List.take_succ_eq_append_getElem h,List.map_append];rfl
   refine aY (α:=Nat) (inv:=fun k=>k≤L.length) (tm:=fun k=>gF 100 [(2,LS keys),(15,.row gq k 0 k 12),(60,OS L),(61,.int .i64 L.length),(62,.int .i64 k)]) (st:=fun k=>aK S' gq (.row k 12 160 ((F k).map eF))) (μ:=fun k=>L.length - k) 0 (by omega) ?_ (aB _) ?_
   ·repeat' (first | exact trivial | exact rfl | refine And.intro ?_ ?_)
    simp
   intro k hk
   by_cases hlt:k<L.length
   ·refine round16 (J:=fun t' S2 D'=>D'=[]∧∃ x',x'≤L.length∧L.length - x'<L.length - k∧yH t' (gF 100 [(2,LS keys),(15,.row gq x' 0 x' 12),(60,OS L),(61,.int .i64 L.length),(62,.int .i64 x')])∧bV S2 (aK S' gq (.row x' 12 160 ((F x').map eF)))) hlt (by omega) (by simp at c1;omega) (by rw[List.length_map,hFl k hk]) (aA _ _ _) fun t S2 h1 h2=>⟨rfl,k+1,by omega,by omega,h1,?_⟩
    rw[aN] at h2
    rw[hF1 k hlt,List.map_append]
    exact h2
   ·have e:k=L.length:=by omega
    subst e
    have hall:F L.length=L.map (kY keys):=by simp only[F];rw[List.take_length]
    rw[hall]
    have hq0:aK S' gq (.row L.length 12 160 ((L.map (kY keys)).map eF)) gq=some (.row L.length 12 160 ((L.map (kY keys)).map eF)):=aA _ _ _
    generalize aK S' gq (.row L.length 12 160 ((L.map (kY keys)).map eF))=Q0 at *
    refine aF ?_;intros
    refine fC (fun hc=>?_) (fun hc=>?_)
    ·omega
    refine aF ?_;intros
    rw[hp]
    refine⟨Q0,aB _,aO.freeze hq0 (fzT (qs:=[FS (L.map (kY keys)),.int .i64 0]) ⟨eQ (by simp),.same _,trivial⟩) (aO.weak (aM _) (aO.same ⟨rfl,rfl⟩))⟩
end
end Go.Proofs.YtbojdflgjpjbiaaGreat.L
