/- C3Extends: for every input the law returns true, and its arguments read behind the call as they read before. -/
import Derived.Test.YtohldellkddmoaaRows
import Derived.Test.YtohldellkddmoaaB1
import Derived.Test.YtohldellkddmoaaX1
import Derived.JoinedCond
import Derived.Deep.CondSized
namespace Go.Proofs.Ytohldellkddmoaa.c3Extends
open Go Go.ChangeShapes Go.WideShapes Go.ChangeAt Go.RowKit Go.Proofs.Ytohldellkddmoaa.L
set_option linter.unusedVariables false
theorem own : ownKnob Try.prog.godebug = none := by kernel_rfl
theorem laidOut : laidOutB Try.prog = true := by kernel_rfl
theorem bulk_one {H : Type} (d : DataW H) : 1 ≤ Rows.uptoBulk d := by
  cases d with
  | lit l => cases l <;> simp [Rows.uptoBulk]
  | _ => simp [Rows.uptoBulk]
theorem bulk_all {H : Type} : ∀ (l : List (DataW H)), l.length ≤ Rows.uptoBulkAll l
  | [] => by simp [Rows.uptoBulkAll]
  | x :: r => by have := bulk_one x; have := bulk_all r; simp only [Rows.uptoBulkAll, List.length_cons]; omega
theorem bulk_len {H : Type} {enc : TypeId × Value → H} {W : World} {base : Nat} {spare : Nat → Bool} {held : Bool} {t e : TypeId} {v : Value} {d : DataW H} {ps : List MemPlace} (hu : Try.prog.underlying t = some (.slice e)) (h : DataW.Trod enc Try.prog W base spare held t v d ps)
    {fr : Nat → Prop} {m : Names} {b : Nat} {xs : List (List PV)} (hr : Rep W fr m v (.list b xs)) : xs.length ≤ Rows.uptoBulk d := by
  obtain ⟨n, hn⟩ := h
  cases hr with
  | list0 => simp
  | list =>
    rcases DataW.trod_slice hu hn with ⟨h1, _⟩ | ⟨a, len, cap', elems, rest, m', _, h1, h2, _, _, _, hel, _⟩
    · simp [Value.cells] at h1
    · simp only [Value.cells, List.cons.injEq, Value.slice.injEq, and_true] at h1
      obtain ⟨_, h3, _⟩ := h1
      injection h2 with h2 _
      subst h2
      have := bulk_all (elems.map (·.1))
      simp only [Rows.uptoBulk, List.length_map] at this ⊢
      omega
set_option maxRecDepth 100000 in
theorem lifted (os : Os) (started : os.Started) (H : Type) (enc : TypeId × Value → H) (F : Stop.Interp) :
    ReturnsInHanded {} Try.checked os 6 .any ((Rows.OpenSpec.upto Rows.c3ExtendsSpec).pre6 enc Try.prog Try.f6 Rows.c3ExtendsUptoRow.domain false) (((Rows.OpenSpec.upto Rows.c3ExtendsSpec).at F).post enc Try.prog Try.f6 false true false false) := by
  refine returnsInHanded_of_cond_sized (C := Try.checked) (s := Rows.OpenSpec.upto Rows.c3ExtendsSpec) (k := Rows.uptoSmall) rfl own started (by kernel_rfl) Try.func6
    (OpenSpec.witness (enc := enc) (C := Try.checked) (s := Rows.OpenSpec.upto Rows.c3ExtendsSpec) (k := Rows.uptoSmall) rfl false ⟨#[], #[.slice none 0 0, .slice none 0 0, .string ByteArray.empty], []⟩ 8 (by kernel_rfl) (by kernel_rfl) (by kernel_rfl)
      (x := ([.nil, .nil, .lit (.string [])], [], [])) (by kernel_rfl) rfl (by kernel_rfl)) ?_
  intro W base args ds gs before hval0 hW hcnd hk0 hsz0 _
  have hsz : (DataW.weightsEach Try.prog (Try.f6.params.toList ++ Rows.c3ExtendsSpec.plain.varTypes Try.prog) (ds ++ gs)).all (· ≤ reachBytes) = true := hsz0
  have hval : ∀ (j : Nat) t v, Try.f6.params[j]? = some t → args[j]? = some v → Value.okWide Try.prog W .any base t v := hval0
  have hW' := hW
  obtain ⟨p, q, hA0, hV, rfl, hfz, hnd⟩ := hW
  have hA : DataW.TrodAll enc Try.prog W 0 (fun _ => true) true Try.f6.params.toList args.toList ds p := hA0
  rw [Try.params6] at hA hval hsz
  obtain ⟨v0, vs0, d0, ds0, p0, q0, hargs, rfl, rfl, h0, r0⟩ := trodAll_cons hA
  obtain ⟨v1, vs1, d1, ds1, p1, q1, rfl, rfl, rfl, h1, r1⟩ := trodAll_cons r0
  obtain ⟨v2, vs2, d2, ds2, p2, q2, rfl, rfl, rfl, h2, r2⟩ := trodAll_cons r1
  obtain ⟨rfl, rfl, rfl⟩ := trodAll_nil r2
  obtain rfl : args = #[v0, v1, v2] := by cases args; simp_all
  obtain ⟨rfl, rfl⟩ := trodVars_none hV
  obtain ⟨x0, n0, R0, S0⟩ := arg_ok GT_ok GL_ok (t := 29) rfl (hval 0 29 v0 rfl rfl) h0 fun k hk => by simpa using List.all_eq_true.1 hsz _ (DataW.weights_mem_each (j := 0) (t := 29) (d := d0) rfl rfl k hk)
  obtain ⟨g, rfl, hgb, hgs⟩ := sv29 S0
  obtain ⟨x1, n1, R1, S1⟩ := arg_ok GT_ok GL_ok (t := 29) rfl (hval 1 29 v1 rfl rfl) h1 fun k hk => by simpa using List.all_eq_true.1 hsz _ (DataW.weights_mem_each (j := 1) (t := 29) (d := d1) rfl rfl k hk)
  obtain ⟨g2, rfl, hgb2, hgs2⟩ := sv29 S1
  obtain ⟨x2, n2, R2, S2⟩ := arg_ok GT_ok GL_ok (t := 9) rfl (hval 2 9 v2 rfl rfl) h2 fun k hk => by simpa using List.all_eq_true.1 hsz _ (DataW.weights_mem_each (j := 2) (t := 9) (d := d2) rfl rfl k hk)
  obtain ⟨s1, rfl⟩ := sv9 S2
  have hb : Rows.uptoBulkAll ([d0, d1, d2] ++ []) ≤ 1048576 := of_decide_eq_true hk0
  simp only [List.append_nil, Rows.uptoBulkAll] at hb
  have b0 := bulk_len (by kernel_rfl : Try.prog.underlying 29 = some (.slice 46)) h0 R0
  have b1 := bulk_len (by kernel_rfl : Try.prog.underlying 29 = some (.slice 46)) h1 R1
  rw [List.length_map] at b0 b1
  clear hA0 hval0 hsz0 hsz
  refine ((extends_law g g2 s1 (by omega)).2 W (frW W) noN #[v0, v1, v2] (relS0 W) ⟨rfl, fun i h1 h2 => by
    match i, h1 with
    | 0, _ => exact R0
    | 1, _ => exact R1
    | 2, _ => exact R2⟩).mono fun e W' ⟨o, S', fr', m', ⟨ho, hS⟩, hO, _, st⟩ => ?_
  subst ho; subst hS
  obtain ⟨v, rfl, hv⟩ := hO.ret
  cases hv
  exact ⟨_, rfl, _, _, _, [], _, [], hW', trodAll_mk1 (shut_bool Try.underlying4 _), (trodAll_cons_mk (arg_back laidOut (by kernel_rfl) (of_decide_eq_true (by kernel_rfl)) st h0) (trodAll_cons_mk (arg_back laidOut (by kernel_rfl) (of_decide_eq_true (by kernel_rfl)) st h1) (trodAll_cons_mk (arg_back laidOut (by kernel_rfl) (of_decide_eq_true (by kernel_rfl)) st h2) trodAll_mk0))), rfl, step_frame st _, fun h => by cases h⟩
theorem over : Rows.c3ExtendsUptoRow.holds Try.pinned (Rows.OpenSpec.upto Rows.c3ExtendsSpec) :=
  OpenClaim.holds_of_cond 6 Try.f6 rfl rfl rfl rfl rfl rfl rfl ⟨rfl, rfl, rfl, rfl, rfl⟩ rfl rfl rfl rfl rfl (by kernel_rfl) Try.func6 (by kernel_rfl)
    (of_decide_eq_true (by kernel_rfl)) (by unfold Func.isWrapper; first | (rw [if_pos (by decide +kernel)]; kernel_rfl) | (rw [if_neg (by decide +kernel)]; exact ⟨rfl, rfl⟩))
    (fun os started H enc _ F => lifted os started H enc F)
theorem proved : Rows.C3ExtendsUptoSaid := over
end Go.Proofs.Ytohldellkddmoaa.c3Extends
namespace Go.Proofs.Ytohldellkddmoaa
theorem c3Extends_holds : Rows.C3ExtendsUptoSaid := c3Extends.proved
#print axioms c3Extends_holds
end Go.Proofs.Ytohldellkddmoaa
