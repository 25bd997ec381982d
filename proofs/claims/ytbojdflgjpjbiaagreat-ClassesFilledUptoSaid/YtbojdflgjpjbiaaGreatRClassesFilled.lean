/- ClassesFilled: for every input the law returns true, and its arguments read behind the call as they read before. -/
import Derived.Test.YtbojdflgjpjbiaaGreatRows
import Derived.Test.YtbojdflgjpjbiaaGreatJ28
import Derived.Test.YtbojdflgjpjbiaaGreatJ29
import Derived.JoinedCond
import Derived.Deep.CondSized
namespace Go.Proofs.YtbojdflgjpjbiaaGreat.classesFilled
open Go Go.ChangeShapes Go.WideShapes Go.ChangeAt Go.RowKit Go.Proofs.YtbojdflgjpjbiaaGreat.L
set_option linter.unusedVariables false
theorem own:ownKnob Tryz.prog.godebug=none:=by kernel_rfl
theorem laidOut:laidOutB Tryz.prog=true:=by kernel_rfl
set_option maxRecDepth 100000 in
theorem lifted (os:Os) (started:os.Started) (H:Type) (enc:TypeId × Value→H) (F:Stop.Interp) :
    ReturnsInHanded {} Tryz.checked os 6 .any ((Rows.OpenSpec.upto Rows.classesFilledSpec).pre6 enc Tryz.prog Tryz.f6 Rows.classesFilledUptoRow.domain false) (((Rows.OpenSpec.upto Rows.classesFilledSpec).at F).post enc Tryz.prog Tryz.f6 false true false false):=by
  refine returnsInHanded_of_cond_sized (C:=Tryz.checked) (s:=Rows.OpenSpec.upto Rows.classesFilledSpec) (k:=Rows.uptoSmall) rfl own started (by kernel_rfl) Tryz.func6
    (OpenSpec.witness (enc:=enc) (C:=Tryz.checked) (s:=Rows.OpenSpec.upto Rows.classesFilledSpec) (k:=Rows.uptoSmall) rfl false ⟨#[],#[.agg #[.slice none 0 0,.slice none 0 0,.slice none 0 0,.slice none 0 0,.slice none 0 0,.slice none 0 0,.int .i64 0],.string ByteArray.empty,.slice none 0 0],[]⟩ 8 (by kernel_rfl) (by kernel_rfl) (by kernel_rfl)
      (x:=([.agg [.nil,.nil,.nil,.nil,.nil,.nil,.lit (.int .i64 0)],.lit (.string []),.nil],[],[])) (by kernel_rfl) rfl (by kernel_rfl)) ?_
  intro W base args ds gs before hval0 hW hcnd hk0 hsz0 _
  have hsz:(DataW.weightsEach Tryz.prog (Tryz.f6.params.toList++Rows.classesFilledSpec.plain.varTypes Tryz.prog) (ds++gs)).all (·≤reachBytes)=true:=hsz0
  have hval:∀ (j:Nat) t v,Tryz.f6.params[j]?=some t→args[j]?=some v→Value.okWide Tryz.prog W .any base t v:=hval0
  have hW':=hW
  obtain⟨p,q,hA0,hV,rfl,hfz,hnd⟩:=hW
  have hA:DataW.TrodAll enc Tryz.prog W 0 (fun _=>true) true Tryz.f6.params.toList args.toList ds p:=hA0
  rw[Tryz.params6] at hA hval hsz
  obtain⟨v0,vs0,d0,ds0,p0,q0,hargs,rfl,rfl,h0,r0⟩:=trodAll_cons hA
  obtain⟨v1,vs1,d1,ds1,p1,q1,rfl,rfl,rfl,h1,r1⟩:=trodAll_cons r0
  obtain⟨v2,vs2,d2,ds2,p2,q2,rfl,rfl,rfl,h2,r2⟩:=trodAll_cons r1
  obtain⟨rfl,rfl,rfl⟩:=trodAll_nil r2
  obtain rfl:args=#[v0,v1,v2]:=by cases args;simp_all
  obtain⟨rfl,rfl⟩:=trodVars_none hV
  obtain⟨x0,n0,R0,S0,B0⟩:=vR aI GL_ok (t:=28) rfl (hval 0 28 v0 rfl rfl) h0 fun k hk=>by simpa using List.all_eq_true.1 hsz _ (DataW.weights_mem_each (j:=0) (t:=28) (d:=d0) rfl rfl k hk)
  obtain⟨w,rfl,hw⟩:=sv28 S0
  obtain⟨x1,n1,R1,S1,B1⟩:=vR aI GL_ok (t:=9) rfl (hval 1 9 v1 rfl rfl) h1 fun k hk=>by simpa using List.all_eq_true.1 hsz _ (DataW.weights_mem_each (j:=1) (t:=9) (d:=d1) rfl rfl k hk)
  obtain⟨s1,rfl⟩:=sv9 S1
  obtain⟨x2,n2,R2,S2,B2⟩:=vR aI GL_ok (t:=26) rfl (hval 2 26 v2 rfl rfl) h2 fun k hk=>by simpa using List.all_eq_true.1 hsz _ (DataW.weights_mem_each (j:=2) (t:=26) (d:=d2) rfl rfl k hk)
  obtain⟨l,rfl⟩:=sv26 S2
  have hb:Rows.uptoBulkAll ([d0,d1,d2]++[])≤1048576:=of_decide_eq_true hk0
  simp only[List.append_nil,Rows.uptoBulkAll] at hb
  have hm:=mac_of hw (Nat.le_trans B0 (by omega))
  clear hA0 hval0 hsz0 hsz
  refine ((Filled_spec w hm s1 l).2 W (frW W) noN #[v0,v1,v2] (relS0 W) ⟨rfl,fun i h1 h2=>by
    match i,h1 with
    | 0,_=>exact R0
    | 1,_=>exact R1
    | 2,_=>exact R2⟩).mono fun e W' ⟨o,S',fr',m',⟨ho,hS⟩,hO,_,st⟩=>?_
  subst ho;subst hS
  obtain⟨v,rfl,hv⟩:=hO.ret
  cases hv
  exact⟨_,rfl,_,_,_,[],_,[],hW',trodAll_mk1 (shut_bool Tryz.underlying4 _),(trodAll_cons_mk (nE laidOut (by kernel_rfl) (of_decide_eq_true (by kernel_rfl)) st h0) (trodAll_cons_mk (nE laidOut (by kernel_rfl) (of_decide_eq_true (by kernel_rfl)) st h1) (trodAll_cons_mk (nE laidOut (by kernel_rfl) (of_decide_eq_true (by kernel_rfl)) st h2) trodAll_mk0))),rfl,vX st _,fun h=>by cases h⟩
set_option maxRecDepth 100000 in
set_option maxHeartbeats 4000000 in
theorem closed:joinedFacts Tryz.pinned.checked.prog 6 Tryz.f6 ((Rows.OpenSpec.upto Rows.classesFilledSpec).bare) Rows.classesFilledUptoRow=true:=by
  unfold joinedFacts
  simp only[Bool.and_eq_true]
  (repeat' apply And.intro) <;> decide +kernel
theorem over:Rows.classesFilledUptoRow.holds Tryz.pinned (Rows.OpenSpec.upto Rows.classesFilledSpec):=
  OpenClaim.holds_of_cond 6 Tryz.f6 rfl rfl rfl rfl rfl rfl rfl ⟨rfl,rfl,rfl,rfl,rfl⟩ rfl rfl rfl rfl rfl (by kernel_rfl) Tryz.func6 closed
    (of_decide_eq_true (by kernel_rfl)) (by unfold Func.isWrapper;first | (rw[if_pos (by decide +kernel)];kernel_rfl) | (rw[if_neg (by decide +kernel)];exact⟨rfl,rfl⟩))
    (fun os started H enc _ F=>lifted os started H enc F)
theorem proved:Rows.ClassesFilledUptoSaid:=over
end Go.Proofs.YtbojdflgjpjbiaaGreat.classesFilled
namespace Go.Proofs.YtbojdflgjpjbiaaGreat
theorem classesFilled_holds:Rows.ClassesFilledUptoSaid:=classesFilled.proved
#print axioms classesFilled_holds
end Go.Proofs.YtbojdflgjpjbiaaGreat
