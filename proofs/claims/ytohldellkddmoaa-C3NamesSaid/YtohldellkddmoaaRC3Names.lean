/- C3Names: for every input the law returns true, and its arguments read behind the call as they read before. -/
import Derived.Test.YtohldellkddmoaaRows
import Derived.Test.YtohldellkddmoaaB1
import Derived.Test.YtohldellkddmoaaX1
namespace Go.Proofs.Ytohldellkddmoaa.c3Names
open Go Go.ChangeShapes Go.WideShapes Go.ChangeAt Go.RowKit Go.Proofs.Ytohldellkddmoaa.L
set_option linter.unusedVariables false
theorem own : ownKnob Try.prog.godebug = none := by kernel_rfl
theorem laidOut : laidOutB Try.prog = true := by kernel_rfl
set_option maxRecDepth 100000 in
theorem lifted (os : Os) (started : os.Started) (H : Type) (enc : TypeId × Value → H) :
    ReturnsInHanded {} Try.checked os 7 .any (Rows.c3NamesSpec.pre6 enc Try.prog Try.f7 Rows.c3NamesRow.domain false) (Rows.c3NamesSpec.post enc Try.prog Try.f7 false true false false) := by
  refine returnsInHanded_of_change_sized (C := Try.checked) own started (by kernel_rfl) Try.func7
    (ChangeSpec.witness6 (enc := enc) (C := Try.checked) false ⟨#[], #[.slice none 0 0, .string ByteArray.empty, .string ByteArray.empty], []⟩ 8 (by kernel_rfl) (by kernel_rfl) (by kernel_rfl) (by kernel_rfl)) ?_
  intro W base args ds gs before hval0 hW hcnd hsz0 _
  have hsz : (DataW.weightsEach Try.prog (Try.f7.params.toList ++ Rows.c3NamesSpec.plain.varTypes Try.prog) (ds ++ gs)).all (· ≤ reachBytes) = true := hsz0
  have hval : ∀ (j : Nat) t v, Try.f7.params[j]? = some t → args[j]? = some v → Value.okWide Try.prog W .any base t v := hval0
  have hW' := hW
  obtain ⟨p, q, hA0, hV, rfl, hfz, hnd⟩ := hW
  have hA : DataW.TrodAll enc Try.prog W 0 (fun _ => true) true Try.f7.params.toList args.toList ds p := hA0
  rw [Try.params7] at hA hval hsz
  obtain ⟨v0, vs0, d0, ds0, p0, q0, hargs, rfl, rfl, h0, r0⟩ := trodAll_cons hA
  obtain ⟨v1, vs1, d1, ds1, p1, q1, rfl, rfl, rfl, h1, r1⟩ := trodAll_cons r0
  obtain ⟨v2, vs2, d2, ds2, p2, q2, rfl, rfl, rfl, h2, r2⟩ := trodAll_cons r1
  obtain ⟨rfl, rfl, rfl⟩ := trodAll_nil r2
  obtain rfl : args = #[v0, v1, v2] := by cases args; simp_all
  obtain ⟨rfl, rfl⟩ := trodVars_none hV
  obtain ⟨x0, n0, R0, S0⟩ := arg_ok GT_ok GL_ok (t := 29) rfl (hval 0 29 v0 rfl rfl) h0 fun k hk => by simpa using List.all_eq_true.1 hsz _ (DataW.weights_mem_each (j := 0) (t := 29) (d := d0) rfl rfl k hk)
  obtain ⟨g, rfl, hgb, hgs⟩ := sv29 S0
  obtain ⟨x1, n1, R1, S1⟩ := arg_ok GT_ok GL_ok (t := 9) rfl (hval 1 9 v1 rfl rfl) h1 fun k hk => by simpa using List.all_eq_true.1 hsz _ (DataW.weights_mem_each (j := 1) (t := 9) (d := d1) rfl rfl k hk)
  obtain ⟨s1, rfl, hs1⟩ := sv9s S1
  obtain ⟨x2, n2, R2, S2⟩ := arg_ok GT_ok GL_ok (t := 9) rfl (hval 2 9 v2 rfl rfl) h2 fun k hk => by simpa using List.all_eq_true.1 hsz _ (DataW.weights_mem_each (j := 2) (t := 9) (d := d2) rfl rfl k hk)
  obtain ⟨s2, rfl⟩ := sv9 S2
  clear hA0 hval0 hsz0 hsz
  refine ((names_law g s1 s2 hgb hgs hs1).2 W (frW W) noN #[v0, v1, v2] (relS0 W) ⟨rfl, fun i h1 h2 => by
    match i, h1 with
    | 0, _ => exact R0
    | 1, _ => exact R1
    | 2, _ => exact R2⟩).mono fun e W' ⟨o, S', fr', m', ⟨ho, hS⟩, hO, _, st⟩ => ?_
  subst ho; subst hS
  obtain ⟨v, rfl, hv⟩ := hO.ret
  cases hv
  exact ⟨_, rfl, _, _, _, [], _, [], hW', trodAll_mk1 (shut_bool Try.underlying4 _), (trodAll_cons_mk (arg_back laidOut (by kernel_rfl) (of_decide_eq_true (by kernel_rfl)) st h0) (trodAll_cons_mk (arg_back laidOut (by kernel_rfl) (of_decide_eq_true (by kernel_rfl)) st h1) (trodAll_cons_mk (arg_back laidOut (by kernel_rfl) (of_decide_eq_true (by kernel_rfl)) st h2) trodAll_mk0))), rfl, step_frame st _, fun h => by cases h⟩
theorem over : Rows.c3NamesRow.holds Try.pinned (OpenSpec.ofChange Rows.c3NamesSpec) :=
  OpenClaim.holds_of_wide 7 Try.f7 rfl rfl rfl rfl rfl rfl rfl ⟨rfl, rfl, rfl, rfl, rfl⟩ rfl rfl rfl rfl rfl (by kernel_rfl) Try.func7 (by kernel_rfl)
    (of_decide_eq_true (by kernel_rfl)) (by unfold Func.isWrapper; first | (rw [if_pos (by decide +kernel)]; kernel_rfl) | (rw [if_neg (by decide +kernel)]; exact ⟨rfl, rfl⟩))
    (fun os started H enc _ => lifted os started H enc)
theorem proved : Rows.C3NamesSaid := over
end Go.Proofs.Ytohldellkddmoaa.c3Names
namespace Go.Proofs.Ytohldellkddmoaa
theorem c3Names_holds : Rows.C3NamesSaid := c3Names.proved
#print axioms c3Names_holds
end Go.Proofs.Ytohldellkddmoaa
