/- C3Merging: for every input the law returns true, and its arguments read behind the call as they read before. -/
import Derived.Test.YtohldellkddmoaaRows
import Derived.Test.YtohldellkddmoaaB1
import Derived.Test.YtohldellkddmoaaX1
namespace Go.Proofs.Ytohldellkddmoaa.c3Merging
open Go Go.ChangeShapes Go.WideShapes Go.ChangeAt Go.RowKit Go.Proofs.Ytohldellkddmoaa.L
set_option linter.unusedVariables false
theorem own : ownKnob Try.prog.godebug = none := by kernel_rfl
theorem laidOut : laidOutB Try.prog = true := by kernel_rfl
set_option maxRecDepth 100000 in
theorem lifted (os : Os) (started : os.Started) (H : Type) (enc : TypeId × Value → H) :
    ReturnsInHanded {} Try.checked os 9 .any (Rows.c3MergingSpec.pre6 enc Try.prog Try.f9 Rows.c3MergingRow.domain false) (Rows.c3MergingSpec.post enc Try.prog Try.f9 false true false false) := by
  refine returnsInHanded_of_change_sized (C := Try.checked) own started (by kernel_rfl) Try.func9
    (ChangeSpec.witness6 (enc := enc) (C := Try.checked) false ⟨#[], #[.slice none 0 0, .slice none 0 0], []⟩ 8 (by kernel_rfl) (by kernel_rfl) (by kernel_rfl) (by kernel_rfl)) ?_
  intro W base args ds gs before hval0 hW hcnd hsz0 _
  have hsz : (DataW.weightsEach Try.prog (Try.f9.params.toList ++ Rows.c3MergingSpec.plain.varTypes Try.prog) (ds ++ gs)).all (· ≤ reachBytes) = true := hsz0
  have hval : ∀ (j : Nat) t v, Try.f9.params[j]? = some t → args[j]? = some v → Value.okWide Try.prog W .any base t v := hval0
  have hW' := hW
  obtain ⟨p, q, hA0, hV, rfl, hfz, hnd⟩ := hW
  have hA : DataW.TrodAll enc Try.prog W 0 (fun _ => true) true Try.f9.params.toList args.toList ds p := hA0
  rw [Try.params9] at hA hval hsz
  obtain ⟨v0, vs0, d0, ds0, p0, q0, hargs, rfl, rfl, h0, r0⟩ := trodAll_cons hA
  obtain ⟨v1, vs1, d1, ds1, p1, q1, rfl, rfl, rfl, h1, r1⟩ := trodAll_cons r0
  obtain ⟨rfl, rfl, rfl⟩ := trodAll_nil r1
  obtain rfl : args = #[v0, v1] := by cases args; simp_all
  obtain ⟨rfl, rfl⟩ := trodVars_none hV
  obtain ⟨x0, n0, R0, S0⟩ := arg_ok GT_ok GL_ok (t := 22) rfl (hval 0 22 v0 rfl rfl) h0 fun k hk => by simpa using List.all_eq_true.1 hsz _ (DataW.weights_mem_each (j := 0) (t := 22) (d := d0) rfl rfl k hk)
  obtain ⟨l, rfl⟩ := sh22 S0
  obtain ⟨x1, n1, R1, S1⟩ := arg_ok GT_ok GL_ok (t := 51) rfl (hval 1 51 v1 rfl rfl) h1 fun k hk => by simpa using List.all_eq_true.1 hsz _ (DataW.weights_mem_each (j := 1) (t := 51) (d := d1) rfl rfl k hk)
  obtain ⟨q, rfl, hq⟩ := sv51 S1
  clear hA0 hval0 hsz0 hsz
  refine ((merging_law l q hq).2 W (frW W) noN #[v0, v1] (relS0 W) ⟨rfl, fun i h1 h2 => by
    match i, h1 with
    | 0, _ => exact R0
    | 1, _ => exact R1⟩).mono fun e W' ⟨o, S', fr', m', ⟨ho, hS⟩, hO, _, st⟩ => ?_
  subst ho; subst hS
  obtain ⟨v, rfl, hv⟩ := hO.ret
  cases hv
  exact ⟨_, rfl, _, _, _, [], _, [], hW', trodAll_mk1 (shut_bool Try.underlying4 _), (trodAll_cons_mk (arg_back laidOut (by kernel_rfl) (of_decide_eq_true (by kernel_rfl)) st h0) (trodAll_cons_mk (arg_back laidOut (by kernel_rfl) (of_decide_eq_true (by kernel_rfl)) st h1) trodAll_mk0)), rfl, step_frame st _, fun h => by cases h⟩
theorem over : Rows.c3MergingRow.holds Try.pinned (OpenSpec.ofChange Rows.c3MergingSpec) :=
  OpenClaim.holds_of_wide 9 Try.f9 rfl rfl rfl rfl rfl rfl rfl ⟨rfl, rfl, rfl, rfl, rfl⟩ rfl rfl rfl rfl rfl (by kernel_rfl) Try.func9 (by kernel_rfl)
    (of_decide_eq_true (by kernel_rfl)) (by unfold Func.isWrapper; first | (rw [if_pos (by decide +kernel)]; kernel_rfl) | (rw [if_neg (by decide +kernel)]; exact ⟨rfl, rfl⟩))
    (fun os started H enc _ => lifted os started H enc)
theorem proved : Rows.C3MergingSaid := over
end Go.Proofs.Ytohldellkddmoaa.c3Merging
namespace Go.Proofs.Ytohldellkddmoaa
theorem c3Merging_holds : Rows.C3MergingSaid := c3Merging.proved
#print axioms c3Merging_holds
end Go.Proofs.Ytohldellkddmoaa
