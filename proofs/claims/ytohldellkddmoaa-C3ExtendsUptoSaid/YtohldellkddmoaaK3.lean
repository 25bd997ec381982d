/- A logic over the machine, and what the functions of the seat come to: part 3. No claim stands here; the theorems are used by the row. -/
import Derived.Test.YtohldellkddmoaaK2
namespace Go.Proofs.Ytohldellkddmoaa.L
open Go
set_option linter.unusedSimpArgs false
set_option linter.unnecessarySimpa false
set_option linter.unusedVariables false
attribute [local irreducible] T TL
set_option maxRecDepth 10000

theorem goodL_upd {g : List HeirT} {L : MK → Option PV} (h : goodL g L) {b : ByteArray} {k : Nat} {l : List ByteArray} (h1 : atI g b = some k) (h2 : lin g k = some l) : goodL g (updF L (.s b) (LS l)) := by
  intro b' p hp
  by_cases e : b' = b
  · subst e
    simp [updF] at hp
    exact ⟨k, l, h1, h2, hp.symm⟩
  · have : ¬ (MK.s b' = MK.s b) := by simpa using e
    simp only [updF, this, if_false] at hp
    exact h b' p hp

theorem line_spec (g : List HeirT) (hg : Heirs g) (gA gL gt : Nat) (d : Dis gA gL gt) : ∀ (i : Nat), i < g.length → ∀ (L : MK → Option PV), goodL g L →
    Fn PP 53 [.ptr gt 0 0 0 3, .int .i64 i] (TL' g gA gL gt L) (LineR g gA gL gt ((lin g i).map LS)) := by
  intro i
  induction i using Nat.strongRecOn with
  | _ i ih =>
  intro hi L hL
  have hat := hg.at hi
  refine Fn_of_T GT_ok Go.Proofs.Try.func53 rfl (by rfl) (by rfl) ?_
  have c1 : TL' g gA gL gt L gt = some (.row 0 3 0 [[HS g, .map gA, .map gL]]) := TR_t d
  refine go0 ?_; intros
  refine idxW_map hi ?_
  refine go0 ?_; intros
  refine lkW_intro (TR_L d) (optW_intro (fun p hp => ?_) (fun hp => ?_))
  · obtain ⟨k, l, h1, h2, rfl⟩ := hL _ _ hp
    rw [hat] at h1; cases h1
    refine go0 ?_; intros
    refine ⟨_, sle_refl _, L, hL, rfl, ?_⟩
    rw [h2]; rfl
  · conv => whnf
    refine go0 ?_; intros
    refine callW_intro (lists_spec g gA gL gt L d i) (sle_refl _) ?_
    rintro o S' ⟨b1, b2, hb, hd, rfl, rfl⟩ -
    unfold ansW
    rw [mrg_all]
    refine go0 ?_; intros
    refine callW_intro (collect_spec g hg gA gL gt b1 b2 d hb i hi L hL hd fun k hk L hL => ih k hk (by omega) L hL) (sle_refl _) ?_
    rintro o S' ⟨L1, hL1, rfl, ho⟩ -
    unfold ansW
    rw [mrg_all]
    cases hls : listsX g i with
    | none =>
      rw [hls] at ho
      obtain ⟨k, rfl⟩ := ho
      conv => whnf
      refine ⟨rfl, TL' g gA gL gt L1, uni_sle_l, L1, hL1, rfl, ?_⟩
      have : lin g i = none := by
        rw [lin_eq hg hi]
        unfold listsX at hls
        rw [List.getElem?_eq_getElem hi] at hls
        dsimp only at hls
        cases e : supsN (lin g) g g[i].2 with
        | none => rfl
        | some ls => rw [e] at hls; cases hls
      rw [this]; exact ⟨k, rfl⟩
    | some ls =>
      rw [hls] at ho
      subst ho
      have hlin : lin g i = (mergeX ls).map (g[i].1 :: ·) ∧ total ls ≤ 1000000 := by
        unfold listsX at hls
        rw [List.getElem?_eq_getElem hi] at hls
        dsimp only at hls
        cases e : supsN (lin g) g g[i].2 with
        | none => rw [e] at hls; cases hls
        | some ls' =>
          rw [e] at hls
          simp only [Option.map_some, Option.some.injEq] at hls
          subst hls
          refine ⟨?_, lists_total hg hi e⟩
          rw [lin_eq hg hi, e]
      obtain ⟨hlin, htot⟩ := hlin
      have hm := merged_spec ls htot
      unfold mergedV at hm
      refine go0 ?_; intros
      cases hmx : mergeX ls with
      | none =>
        rw [hmx] at hm hlin
        dsimp only at hm
        refine callW_pure hm ?_
        refine go0 ?_; intros
        refine ⟨TL' g gA gL gt L1, uni_sle_l, L1, hL1, rfl, ?_⟩
        rw [hlin]; exact ⟨_, rfl⟩
      | some out =>
        rw [hmx] at hm hlin
        simp only [Option.map_some] at hlin
        dsimp only at hm
        have hlen := lin_len hg hi hlin
        simp only [List.length_cons] at hlen
        refine callW_pure hm ?_
        refine go0 ?_; intros
        refine .inr (newW_intro fun gr hgr => ?_)
        refine go0 ?_; intros
        refine srcW_list (And.intro (solids_map fun x => ⟨rfl, trivial, trivial⟩) ?_)
        refine go0 ?_; intros
        refine rowW_intro (upd_same _ _ _) ?_
        refine And.intro rfl (And.intro rfl (And.intro (show (1 + (out.map eS).length) * 16 ≤ 140737488355328 by simp; omega) ?_))
        rw [upd_upd]
        conv => whnf
        have hsl : ∀ x, sle (del (upd (uni (TL' g gA gL gt L1) (BX b1 b2 gt i)) gr x) gr) (TL' g gA gL gt L1) := fun x h y hy => by
          have e : h ≠ gr := by
            rintro rfl
            rw [uni_l hy] at hgr; cases hgr
          unfold del
          rw [if_neg e, upd_ne e]; exact uni_l hy
        refine TL_view (View.trans (View_slot (d := 46) (upd_same _ _ _) (fz_row (by simp; omega))) (View.weak (tle_refl _) (hsl _))) ?_
        have c2 : TL' g gA gL gt L1 gt = some (.row 0 3 0 [[HS g, .map gA, .map gL]]) := TR_t d
        refine go0 ?_; intros
        refine mapW_intro (TR_L d) ?_
        refine go0 ?_; intros
        refine ⟨_, sle_refl _, updF L1 (.s g[i].1) (LS (g[i].1 :: out)), goodL_upd hL1 hat hlin, ?_, ?_⟩
        · show upd (TL' g gA gL gt L1) gL (.map true _) = _
          rw [TR_updL d]; rfl
        · rw [hlin]; rfl

end Go.Proofs.Ytohldellkddmoaa.L

namespace Go.Proofs.Ytohldellkddmoaa.L
open Go
set_option linter.unusedSimpArgs false
set_option linter.unnecessarySimpa false
set_option linter.unusedVariables false
attribute [local irreducible] T TL
set_option maxRecDepth 10000

abbrev EC (gE : Nat) (e : Int) : Store := upd E gE (.row 0 1 0 [[.int .i64 e]])

theorem callDW_intro {P : Program} {f : Nat} {args : List PV} {u : AM} {S S1 : Store} {R : Out → AM → Store → Prop} {k : Out → AM → Store → Prop} (h : FnD P f args u S1 R) (hs : sle S S1)
    (hk : ∀ o u' S', R o u' S' → (∀ g, (S' g).isSome = true → (S1 g).isSome = true ∨ S g = none) → k o u' (mrg S S1 S')) : callDW P f args u S k := by
  unfold callDW; exact ⟨S1, R, h, hs, hk⟩

theorem callDW_r {P : Program} {f : Nat} {args : List PV} {u u' : AM} {A B B' : Store} {o : Out} {k : Out → AM → Store → Prop} (h : FnD P f args u B fun o1 u1 S' => u1 = u' ∧ o1 = o ∧ S' = B') (d : Dj A B) (d' : Dj A B') (hk : k o u' (uni A B')) : callDW P f args u (uni A B) k := by
  refine callDW_intro h (uni_sle_r d) ?_
  rintro o u' S' ⟨rfl, rfl, rfl⟩ -
  rw [mrg_r d d']; exact hk

theorem caught_ret (gE : Nat) (e : Int) : FnD PP 51 [.ptr gE 0 0 0 1] .ret (EC gE e) fun o u' S' => u' = .ret ∧ o = .ret (.tup []) ∧ S' = EC gE e := by
  refine FnD_rec (u := .ret) (R := fun o S' => o = .ret (.tup []) ∧ S' = EC gE e) GT_ok Go.Proofs.Try.func51 rfl (by rfl) (by rfl) rfl rfl (by simp) ?_
  refine go0 ?_; intros
  refine Exists.intro _ (And.intro (sle_refl _) ?_)
  exact ⟨rfl, rfl⟩

theorem caught_pan (gE : Nat) (e k : Int) : FnD PP 51 [.ptr gE 0 0 0 1] (.pan (stuckV k)) (EC gE e) fun o u' S' => u' = .done ∧ o = .ret (.tup []) ∧ S' = EC gE 71 := by
  refine FnD_rec (u := .pan (stuckV k)) (R := fun o S' => o = .ret (.tup []) ∧ S' = EC gE 71) GT_ok Go.Proofs.Try.func51 rfl (by rfl) (by rfl) rfl rfl (by simp) ?_
  unfold stuckV
  refine go0 ?_; intros
  refine newW_intro fun g hg => ?_
  have hne : gE ≠ g := Ne.symm (ne_name (upd_same _ _ _) hg)
  refine go0 ?_; intros
  refine stW_intro (upd_same _ _ _) rfl (Nat.le_of_ble_eq_true rfl) ?_
  rintro new rfl
  rw [upd_upd]
  have hE : ∀ x, (upd (EC gE e) g x) gE = some (.row 0 1 0 [[.int .i64 e]]) := fun x => by rw [upd_ne hne]; exact upd_same _ _ _
  have hE1 := hE (.row 0 1 0 [[.int .i64 k]])
  refine go0 ?_; intros
  refine stW_intro hE1 rfl (Nat.le_of_ble_eq_true rfl) ?_
  rintro new rfl
  refine go0 ?_; intros
  refine ⟨EC gE 71, ?_, rfl, rfl⟩
  intro h x hx
  unfold EC at hx
  by_cases e1 : h = gE
  · subst e1; rw [upd_same] at hx ⊢; exact hx
  · rw [upd_ne e1] at hx; cases hx

/-- what a linearization is handed out as -/
def linP (o : Option (List ByteArray)) : PV := match o with
  | some l => .tup [LS l, .int .i64 0]
  | none => .tup [LS [], .int .i64 71]

theorem Dj_one {S : Store} {g : Nat} {x : AO} (h : S g = none) : Dj S (upd E g x) := Dj_upd Dj_E h

theorem tried_spec (g : List HeirT) (hg : Heirs g) (gA gL gt : Nat) (d : Dis gA gL gt) (i : Nat) (hi : i < g.length) (L : MK → Option PV) (hL : goodL g L) :
    Fn PP 56 [.ptr gt 0 0 0 3, .int .i64 i] (TL' g gA gL gt L) fun o S' => ∃ L', goodL g L' ∧ S' = TL' g gA gL gt L' ∧ o = .ret (linP (lin g i)) := by
  refine Fn_end (Fn_of_TD GT_ok Go.Proofs.Try.func56 rfl (by rfl) (by rfl) ?_)
  refine go0 ?_; intros
  refine newW_intro fun gE hgE => ?_
  refine go0 ?_; intros
  refine callW_intro (line_spec g hg gA gL gt d i hi L hL) (sle_upd hgE) ?_
  rintro o S' ⟨L', hL', rfl, ho⟩ -
  unfold ansW
  rw [upd_new hgE, mrg_l (Dj_one hgE)]
  have hgE' : TL' g gA gL gt L' gE = none := TR_upd hgE
  have hd : Dj (TL' g gA gL gt L') (upd E gE (.row 0 1 0 [[.int .i64 0]])) := Dj_one hgE'
  have cE : ∀ x, uni (TL' g gA gL gt L') (upd E gE x) gE = some x := fun x => by rw [uni_r hgE', upd_same]
  cases hlin : lin g i with
  | some l =>
    rw [hlin] at ho
    simp only [Option.map_some] at ho
    subst ho
    have cE1 := cE (.row 0 1 0 [[.int .i64 0]])
    refine go0 ?_; intros
    refine stW_intro cE1 rfl (Nat.le_of_ble_eq_true rfl) ?_
    rintro new rfl
    rw [upd_uni_r hgE', upd_upd]
    refine go0 ?_; intros
    refine callDW_r (caught_ret gE 0) hd hd ?_
    refine go0 ?_; intros
    exact ⟨TL' g gA gL gt L', uni_sle_l, OView.same ⟨L', hL', rfl, rfl⟩⟩
  | none =>
    rw [hlin] at ho
    obtain ⟨k, rfl⟩ := ho
    have cE2 := cE (.row 0 1 0 [[.int .i64 71]])
    refine go0 ?_; intros
    refine callDW_r (caught_pan gE 0 k) hd (Dj_one hgE') ?_
    refine go0 ?_; intros
    exact ⟨TL' g gA gL gt L', uni_sle_l, OView.nilv nil_tup2 (OView.same ⟨L', hL', rfl, rfl⟩)⟩

end Go.Proofs.Ytohldellkddmoaa.L

namespace Go.Proofs.Ytohldellkddmoaa.L
open Go
set_option linter.unusedSimpArgs false
set_option linter.unnecessarySimpa false
set_option linter.unusedVariables false
attribute [local irreducible] T TL
set_option maxRecDepth 10000

theorem mrg_E_l {S S' : Store} : mrg S E S' = uni S' S := by
  funext h
  simp only [mrg, uni, E]
  cases S' h <;> simp

theorem dom_Dj {S S' : Store} (h : ∀ g, (S' g).isSome = true → (E g).isSome = true ∨ S g = none) : Dj S' S := fun g x hx => by
  rcases h g (by rw [hx]; rfl) with h1 | h1
  · cases h1
  · exact h1

def linzV (g : List HeirT) (name : ByteArray) : PV :=
  if checkV g ≠ 0 then .tup [LS [], .int .i64 (checkV g)] else match atI g name with
    | none => .tup [LS [], .int .i64 3]
    | some i => linP (lin g i)

theorem linearize_spec (g : List HeirT) (name : ByteArray) : FnP PP 17 [HS g, .str name] (linzV g name) := by
  refine Fn_end (Fn_of_TD GT_ok Go.Proofs.Try.func17 rfl (by rfl) (by rfl) ?_)
  refine go0 ?_; intros
  refine newW_intro fun gE hgE => ?_
  refine go0 ?_; intros
  refine callW_intro (open_spec g name) (sle_E _) ?_
  rintro o S' hR hdom
  have hdj := dom_Dj hdom
  unfold ansW
  rw [mrg_E_l]
  rcases hR with ⟨hn, rfl, rfl⟩ | ⟨hn, gA, gL, gt, d, rfl, rfl⟩
  · have cE : ∀ x, uni E (upd E gE x) gE = some x := fun x => by rw [uni_r rfl, upd_same]
    have cE1 := cE (.row 0 1 0 [[.int .i64 0]])
    have cE2 := cE (.row 0 1 0 [[.int .i64 (checkV g)]])
    refine go0 ?_; intros
    refine stW_intro cE1 rfl (Nat.le_of_ble_eq_true rfl) ?_
    rintro new rfl
    rw [upd_uni_r rfl, upd_upd]
    refine go0 ?_; intros
    refine And.intro (fun hc => ?_) (fun hc => ?_)
    · conv => whnf
      refine go0 ?_; intros
      refine stop (T_drawW GT_ok (by rfl) 2 (by decide) ?_)
      conv => whnf
      refine exA ?_
      refine go0 ?_; intros
      refine exA ?_
      refine go0 ?_; intros
      refine go0 ?_; intros
      refine stW_intro cE2 rfl (Nat.le_of_ble_eq_true rfl) ?_
      rintro new rfl
      rw [upd_uni_r rfl, upd_upd]
      refine go0 ?_; intros
      refine ⟨E, sle_E _, OView.nilv nil_tup2 (OView.same ⟨?_, rfl⟩)⟩
      unfold linzV; rw [if_pos hn]
    · simp [hn] at hc
  · cases hat : atI g name with
    | none =>
      have hgE' : TL' g gA gL gt (fun _ => none) gE = none := hdj.symm gE _ (upd_same _ _ _)
      have cE : ∀ x, uni (TL' g gA gL gt (fun _ => none)) (upd E gE x) gE = some x := fun x => by rw [uni_r hgE', upd_same]
      have cE1 := cE (.row 0 1 0 [[.int .i64 0]])
      have cE2 := cE (.row 0 1 0 [[.int .i64 3]])
      simp only [Option.getD_none, Option.isSome_none, Bool.false_eq_true, if_false]
      refine go0 ?_; intros
      refine stW_intro cE1 rfl (Nat.le_of_ble_eq_true rfl) ?_
      rintro new rfl
      rw [upd_uni_r hgE', upd_upd]
      refine go0 ?_; intros
      refine stop (T_drawW GT_ok (by rfl) 2 (by decide) ?_)
      conv => whnf
      refine exA ?_
      refine go0 ?_; intros
      refine exA ?_
      refine go0 ?_; intros
      refine go0 ?_; intros
      refine stW_intro cE2 rfl (Nat.le_of_ble_eq_true rfl) ?_
      rintro new rfl
      rw [upd_uni_r hgE', upd_upd]
      refine go0 ?_; intros
      refine ⟨E, sle_E _, OView.nilv nil_tup2 (OView.same ⟨?_, rfl⟩)⟩
      unfold linzV; rw [if_neg (by simp [hn]), hat]
    | some i =>
      have hg := heirs_of hn
      obtain ⟨hi, hnm⟩ := atI_lt hat
      have hgE' : ∀ L, TL' g gA gL gt L gE = none := fun L => TR_upd (hdj.symm gE _ (upd_same _ _ _))
      have hd : ∀ L x, Dj (TL' g gA gL gt L) (upd E gE x) := fun L x => Dj_one (hgE' L)
      have cE : ∀ L x, uni (TL' g gA gL gt L) (upd E gE x) gE = some x := fun L x => by rw [uni_r (hgE' L), upd_same]
      have cE1 := cE (fun _ => none) (.row 0 1 0 [[.int .i64 0]])
      simp only [Option.getD_some, Option.isSome_some, if_true]
      refine go0 ?_; intros
      refine stW_intro cE1 rfl (Nat.le_of_ble_eq_true rfl) ?_
      rintro new rfl
      rw [upd_uni_r (hgE' _), upd_upd]
      refine go0 ?_; intros
      refine callW_intro (line_spec g hg gA gL gt d i hi (fun _ => none) (fun b p hp => by cases hp)) uni_sle_l ?_
      rintro o S' ⟨L', hL', rfl, ho⟩ -
      unfold ansW
      rw [mrg_l (hd _ _)]
      have cE3 := cE L' (.row 0 1 0 [[.int .i64 0]])
      have cE4 := cE L' (.row 0 1 0 [[.int .i64 71]])
      cases hlin : lin g i with
      | some l =>
        rw [hlin] at ho
        simp only [Option.map_some] at ho
        subst ho
        refine go0 ?_; intros
        refine callW_pure (cloneS_spec l) ?_
        refine go0 ?_; intros
        refine stW_intro cE3 rfl (Nat.le_of_ble_eq_true rfl) ?_
        rintro new rfl
        rw [upd_uni_r (hgE' _), upd_upd]
        refine go0 ?_; intros
        refine callDW_r (caught_ret gE 0) (hd _ _) (hd _ _) ?_
        refine go0 ?_; intros
        refine ⟨E, sle_E _, OView.same ⟨?_, rfl⟩⟩
        unfold linzV; rw [if_neg (by simp [hn]), hat]; dsimp only; rw [hlin]; rfl
      | none =>
        rw [hlin] at ho
        obtain ⟨k, rfl⟩ := ho
        refine go0 ?_; intros
        refine callDW_r (caught_pan gE 0 k) (hd _ _) (hd _ _) ?_
        refine go0 ?_; intros
        refine ⟨E, sle_E _, OView.nilv nil_tup2 (OView.same ⟨?_, rfl⟩)⟩
        unfold linzV; rw [if_neg (by simp [hn]), hat]; dsimp only; rw [hlin]; rfl

end Go.Proofs.Ytohldellkddmoaa.L

namespace Go.Proofs.Ytohldellkddmoaa.L
open Go
set_option linter.unusedSimpArgs false
set_option linter.unnecessarySimpa false
set_option linter.unusedVariables false
attribute [local irreducible] T TL
set_option maxRecDepth 10000

def allV (g : List HeirT) : PV :=
  if checkV g ≠ 0 then .tup [LLS [], .int .i64 0, .int .i64 (checkV g)] else
  match (List.range g.length).find? (fun i => (lin g i).isNone) with
  | some i => .tup [LLS [], .int .i64 (i : Nat), .int .i64 71]
  | none => .tup [LLS ((List.range g.length).filterMap (lin g)), .int .i64 0, .int .i64 0]

theorem nil_tup3 {p q : PV} : NilV (.tup [.nils, p, q]) (.tup [LLS [], p, q]) := .tup _ _ rfl fun i h1 h2 => by
  match i, h1 with
  | 0, _ => exact .nils 24
  | 1, _ => exact .same _
  | 2, _ => exact .same _
theorem fz_tup3 {g ver sz e n : Nat} {xs : List (List PV)} {p q : PV} (hn : n = xs.length) : FzV g ver sz e xs (.tup [.row g ver 0 n sz, p, q]) (.tup [.list e xs, p, q]) := .tup _ _ rfl fun i h1 h2 => by
  match i, h1 with
  | 0, _ => exact fz_row hn
  | 1, _ => exact .same _
  | 2, _ => exact .same _

theorem all_spec (g : List HeirT) : FnP PP 19 [HS g] (allV g) := by
  refine Fn_end (Fn_of_T GT_ok Go.Proofs.Try.func19 rfl (by rfl) (by rfl) ?_)
  refine go0 ?_; intros
  refine callW_intro (open_spec g ⟨#[]⟩) (sle_E _) ?_
  rintro o S' hR -
  rcases hR with ⟨hn, rfl, rfl⟩ | ⟨hn, gA, gL, gt, d, rfl, rfl⟩
  · unfold ansW
    rw [mrg_E]
    have h3 : checkV g ≠ 3 := by unfold checkV; split <;> (try split) <;> simp
    refine go0 ?_; intros
    refine And.intro (fun hc => ?_) (fun hc => ?_)
    · conv => whnf
      refine go0 ?_; intros
      refine And.intro (fun hc => ?_) (fun hc => ?_)
      · conv => whnf
        refine go0 ?_; intros
        refine ⟨E, sle_E _, OView.nilv nil_tup3 (OView.same ⟨?_, rfl⟩)⟩
        unfold allV; rw [if_pos hn]
      · simp [h3] at hc
    · simp [hn] at hc
  · unfold ansW
    rw [mrg_E]
    have hg := heirs_of hn
    have hat : atI g ⟨#[]⟩ = none := by
      cases e : atI g ⟨#[]⟩ with
      | none => rfl
      | some k => obtain ⟨hk, e2⟩ := atI_lt e; exact absurd e2 (hg.name k hk)
    rw [hat]
    simp only [Option.getD_none, Option.isSome_none, Bool.false_eq_true, if_false]
    refine go0 ?_; intros
    refine stop (T_nilrow 8 1 24 rfl fun go hgo => ?_)
    have hgo' : ∀ L, TL' g gA gL gt L go = none := fun L => TR_upd hgo
    have hd : ∀ L x, Dj (TL' g gA gL gt L) (upd E go x) := fun L x => Dj_one (hgo' L)
    have cO : ∀ L x, uni (TL' g gA gL gt L) (upd E go x) go = some x := fun L x => by rw [uni_r (hgo' L), upd_same]
    let outs : Nat → List (List ByteArray) := fun i => (List.range i).filterMap (lin g)
    refine T_loop (α := (MK → Option PV) × Nat) (inv := fun x => x.2 ≤ g.length ∧ goodL g x.1 ∧ (∀ j, j < x.2 → (lin g j).isSome = true) ∧ (outs x.2).length = x.2)
      (tm := fun x => mkT 47 [(5, .ptr gt 0 0 0 3), (8, .row go x.2 0 x.2 1), (26, .int .i64 g.length), (27, .int .i64 x.2)])
      (st := fun x => uni (TL' g gA gL gt x.1) (upd E go (.row x.2 1 24 ((outs x.2).map eL)))) (μ := fun x => g.length - x.2) (fun _ => none, 0) ⟨Nat.zero_le _, fun b p hp => (by cases hp), fun j hj => absurd hj (Nat.not_lt_zero j), rfl⟩ ?_ ?_ ?_
    · repeat' (first | exact trivial | exact rfl | refine And.intro ?_ ?_)
      simp
    · rw [upd_new hgo]; exact sle_refl _
    rintro ⟨L, i⟩ ⟨hi, hL, hsome, hlen2⟩
    dsimp only at hi hL hsome hlen2 ⊢
    have h120 := hg.len
    refine go0 ?_; intros
    refine And.intro (fun hc => ?_) (fun hc => ?_)
    · have hlt : i < g.length := by simpa using hc
      refine go0 ?_; intros
      refine callW_intro (tried_spec g hg gA gL gt d i hlt L hL) uni_sle_l ?_
      rintro o S' ⟨L', hL', rfl, rfl⟩ -
      unfold ansW
      rw [mrg_l (hd _ _)]
      cases hlin : lin g i with
      | none =>
        unfold linP
        refine go0 ?_; intros
        refine ⟨E, sle_E _, OView.nilv nil_tup3 (OView.same ⟨?_, rfl⟩)⟩
        have : (List.range g.length).find? (fun i => (lin g i).isNone) = some i := by
          have := find_at (p := fun i => (lin g i).isNone) (l := List.range g.length) (i := i) (by simpa using hlt) (by simp [hlin]) (fun j hj h' => by
            have := hsome j hj
            simp only [List.getElem_range]
            cases e : lin g j with
            | none => rw [e] at this; cases this
            | some y => rfl)
          simpa using this
        unfold allV; rw [if_neg (by simp [hn]), this]
      | some l =>
        unfold linP
        have hout : outs (i + 1) = outs i ++ [l] := by
          simp only [outs]
          rw [List.range_succ, List.filterMap_append]
          simp [hlin]
        refine go0 ?_; intros
        refine callW_pure (cloneS_spec l) ?_
        refine go0 ?_; intros
        refine .inl ?_
        refine go0 ?_; intros
        refine srcW_list (And.intro (by simp [solidsW, solidW]; rfl) ?_)
        refine go0 ?_; intros
        refine rowW_intro (cO _ _) ?_
        refine And.intro (by simp [hlen2]) (And.intro rfl (And.intro (show (i + 1) * 24 ≤ 140737488355328 by omega) ?_))
        rw [upd_uni_r (hgo' _), upd_upd]
        refine go0 ?_; intros
        refine ⟨(L', i + 1), ⟨by dsimp only; omega, hL', fun j hj => ?_, by dsimp only; rw [hout]; simp [hlen2]⟩, by dsimp only; omega, ?_, ?_⟩
        · by_cases e : j = i
          · subst e; rw [hlin]; rfl
          · exact hsome j (by dsimp only at hj; omega)
        · repeat' (first | exact trivial | exact rfl | refine And.intro ?_ ?_)
        · dsimp only
          rw [hout, List.map_append]; exact sle_refl _
    · have hge : ¬ i < g.length := by simpa using hc
      have hi2 : i = g.length := by omega
      subst hi2
      refine go0 ?_; intros
      refine ⟨_, sle_refl _, OView.freeze (cO _ _) (fz_tup3 (by simp [hlen2])) (OView.weak (sle_E _) (OView.same ⟨?_, rfl⟩))⟩
      have : (List.range g.length).find? (fun i => (lin g i).isNone) = none := by
        rw [List.find?_eq_none]
        intro j hj
        have := hsome j (by simpa using hj)
        cases e : lin g j with
        | none => rw [e] at this; cases this
        | some y => simp
      unfold allV; rw [if_neg (by simp [hn]), this]

end Go.Proofs.Ytohldellkddmoaa.L

namespace Go.Proofs.Ytohldellkddmoaa.L
open Go
set_option linter.unusedSimpArgs false
set_option linter.unnecessarySimpa false
set_option linter.unusedVariables false
attribute [local irreducible] T TL
set_option maxRecDepth 10000

def linzP (g : List HeirT) (name : ByteArray) : List ByteArray × Int :=
  if checkV g ≠ 0 then ([], checkV g) else match atI g name with
    | none => ([], 3)
    | some i => match lin g i with
      | some l => (l, 0)
      | none => ([], 71)

theorem linzV_eq (g : List HeirT) (name : ByteArray) : linzV g name = .tup [LS (linzP g name).1, .int .i64 (linzP g name).2] := by
  unfold linzV linzP
  split
  · rfl
  · cases atI g name with
    | none => rfl
    | some i =>
      dsimp only
      cases lin g i <;> rfl

def precV (g : List HeirT) (name a b : ByteArray) : PV :=
  if (linzP g name).2 ≠ 0 then .tup [.bool false, .int .i64 (linzP g name).2] else
  if idxF (eqB a) (linzP g name).1 < 0 ∨ idxF (eqB b) (linzP g name).1 < 0 then .tup [.bool false, .int .i64 1] else
  .tup [.bool (decide (idxF (eqB a) (linzP g name).1 < idxF (eqB b) (linzP g name).1)), .int .i64 0]

theorem precedes_spec (g : List HeirT) (name a b : ByteArray) : FnP PP 37 [HS g, .str name, .str a, .str b] (precV g name a b) := by
  refine Fn_of_T GT_ok Go.Proofs.Try.func37 rfl (by rfl) (by rfl) ?_
  have hl := linearize_spec g name
  rw [linzV_eq] at hl
  refine go0 ?_; intros
  refine callW_pure hl ?_
  refine go0 ?_; intros
  refine And.intro (fun hc => ?_) (fun hc => ?_)
  · have hn : (linzP g name).2 ≠ 0 := by simpa using hc
    refine go0 ?_; intros
    refine ⟨E, sle_E _, ?_, rfl⟩
    unfold precV; rw [if_pos hn]
  · have hn : ¬ (linzP g name).2 ≠ 0 := by simpa using hc
    have hz : (linzP g name).2 = 0 := by simpa using hc
    refine go0 ?_; intros
    refine callW_pure (index_spec _ _) ?_
    refine go0 ?_; intros
    refine callW_pure (index_spec _ _) ?_
    refine go0 ?_; intros
    refine And.intro (fun hc => ?_) (fun hc => ?_)
    · have h1 : ¬ idxF (eqB a) (linzP g name).1 < 0 := by simpa using hc
      refine go0 ?_; intros
      refine And.intro (fun hc => ?_) (fun hc => ?_)
      · have h2 : idxF (eqB b) (linzP g name).1 < 0 := by simpa using hc
        refine go0 ?_; intros
        refine ⟨E, sle_E _, ?_, rfl⟩
        unfold precV; rw [if_neg hn, if_pos (.inr h2)]
      · have h2 : ¬ idxF (eqB b) (linzP g name).1 < 0 := by simpa using hc
        refine go0 ?_; intros
        refine ⟨E, sle_E _, ?_, rfl⟩
        unfold precV; rw [if_neg hn, if_neg (by rintro (h | h) <;> contradiction)]
    · have h1 : idxF (eqB a) (linzP g name).1 < 0 := by simpa using hc
      refine go0 ?_; intros
      refine ⟨E, sle_E _, ?_, rfl⟩
      unfold precV; rw [if_neg hn, if_pos (.inl h1)]

theorem eq_of_get {a b : List ByteArray} (hl : a.length = b.length) (h : ∀ j (h1 : j < a.length) (h2 : j < b.length), a[j] = b[j]) : a = b := List.ext_getElem hl h

theorem equal_spec (a b : List ByteArray) : FnP PP 72 [LS a, LS b] (.bool (decide (a = b))) := by
  refine Fn_of_T GT_ok Go.Proofs.Try.func72 rfl (by rfl) (by rfl) ?_
  refine go0 ?_; intros
  refine And.intro (fun hc => ?_) (fun hc => ?_)
  · have hl : ¬ a.length = b.length := by simp at hc; omega
    refine go0 ?_; intros
    refine ⟨E, sle_E _, ?_, rfl⟩
    have : ¬ a = b := fun e => hl (by rw [e])
    simp [this]
  · have hl : a.length = b.length := by simp at hc; omega
    refine go0 ?_; intros
    refine stop (T_loop (α := Nat) (inv := fun i => i ≤ a.length ∧ ∀ j (_ : j < i) (h1 : j < a.length) (h2 : j < b.length), a[j] = b[j])
      (tm := fun i => mkT 26 [(0, LS a), (1, LS b), (12, .int .i64 a.length), (13, .int .i64 i)]) (st := fun _ => E) (μ := fun i => a.length - i) 0 ⟨by omega, fun j hj => by omega⟩ ?_ (sle_refl _) ?_)
    · repeat' (first | exact trivial | exact rfl | refine And.intro ?_ ?_)
      simp
    rintro i ⟨hi, hpre⟩
    refine go0 ?_; intros
    refine And.intro (fun hc => ?_) (fun hc => ?_)
    · have hlt : i < a.length := by simpa using hc
      have hlt2 : i < b.length := by omega
      refine go0 ?_; intros
      refine stop (T_drawW GT_ok (by rfl) 9 (by decide) ?_)
      conv => whnf
      refine exA ?_
      refine go0 ?_; intros
      refine exA ?_
      refine go0 ?_; intros
      apply Exists.intro; apply And.intro
      · conv => whnf
        refine idxW_map hlt ?_
        exact goE
      conv => whnf
      refine exA ?_
      refine go0 ?_; intros
      refine exA ?_
      refine go0 ?_; intros
      refine exA ?_
      refine go0 ?_; intros
      apply Exists.intro; apply And.intro
      · conv => whnf
        refine idxW_map hlt2 ?_
        exact goE
      conv => whnf
      refine exA ?_
      refine go0 ?_; intros
      refine exA ?_
      refine go0 ?_; intros
      refine go0 ?_; intros
      refine And.intro (fun hc => ?_) (fun hc => ?_)
      · have hne : ¬ a[i] = b[i] := by simpa using hc
        refine go0 ?_; intros
        refine ⟨E, sle_E _, ?_, rfl⟩
        have : ¬ a = b := fun e => hne (by subst e; rfl)
        simp [this]
      · have heq : a[i] = b[i] := by simpa using hc
        refine go0 ?_; intros
        refine ⟨i + 1, ⟨by omega, fun j hj h1 h2 => ?_⟩, by omega, ?_, sle_refl _⟩
        · by_cases e : j = i
          · subst e; exact heq
          · exact hpre j (by omega) h1 h2
        · repeat' (first | exact trivial | exact rfl | refine And.intro ?_ ?_)
    · have hge : ¬ i < a.length := by simpa using hc
      refine go0 ?_; intros
      refine ⟨E, sle_E _, ?_, rfl⟩
      have : a = b := eq_of_get hl fun j h1 h2 => hpre j (by omega) h1 h2
      simp [this]

def verV (g : List HeirT) (name : ByteArray) (l : List ByteArray) : Int := if (linzP g name).2 = 0 ∧ (linzP g name).1 ≠ l then 72 else (linzP g name).2

theorem verify_spec (g : List HeirT) (name : ByteArray) (l : List ByteArray) : FnP PP 41 [HS g, .str name, LS l] (.int .i64 (verV g name l)) := by
  refine Fn_of_T GT_ok Go.Proofs.Try.func41 rfl (by rfl) (by rfl) ?_
  have hl := linearize_spec g name
  rw [linzV_eq] at hl
  refine go0 ?_; intros
  refine callW_pure hl ?_
  refine go0 ?_; intros
  refine And.intro (fun hc => ?_) (fun hc => ?_)
  · have hz : (linzP g name).2 = 0 := by simpa using hc
    refine go0 ?_; intros
    refine callW_pure (equal_spec _ _) ?_
    refine go0 ?_; intros
    refine And.intro (fun hc => ?_) (fun hc => ?_)
    · have hne : ¬ (linzP g name).1 = l := by simpa using hc
      refine go0 ?_; intros
      refine ⟨E, sle_E _, ?_, rfl⟩
      unfold verV; rw [if_pos ⟨hz, hne⟩]
    · have heq : (linzP g name).1 = l := by simpa using hc
      refine go0 ?_; intros
      refine ⟨E, sle_E _, ?_, rfl⟩
      unfold verV; rw [if_neg (fun h => h.2 heq)]
  · have hz : ¬ (linzP g name).2 = 0 := by simpa using hc
    refine go0 ?_; intros
    refine ⟨E, sle_E _, ?_, rfl⟩
    unfold verV; rw [if_neg (fun h => hz h.1)]

theorem same_spec (a b : List ByteArray) : FnP PP 16 [LS a, LS b] (.bool (decide (a = b))) := by
  refine Fn_of_T GT_ok Go.Proofs.Try.func16 rfl (by rfl) (by rfl) ?_
  refine go0 ?_; intros
  refine And.intro (fun hc => ?_) (fun hc => ?_)
  · have hl : ¬ a.length = b.length := by simp at hc; omega
    refine go0 ?_; intros
    refine ⟨E, sle_E _, ?_, rfl⟩
    have : ¬ a = b := fun e => hl (by rw [e])
    simp [this]
  · have hl : a.length = b.length := by simp at hc; omega
    refine go0 ?_; intros
    refine stop (T_loop (α := Nat) (inv := fun i => i ≤ a.length ∧ ∀ j (_ : j < i) (h1 : j < a.length) (h2 : j < b.length), a[j] = b[j])
      (tm := fun i => mkT 26 [(0, LS a), (1, LS b), (5, .int .i64 i)]) (st := fun _ => E) (μ := fun i => a.length - i) 0 ⟨by omega, fun j hj => by omega⟩ ?_ (sle_refl _) ?_)
    · repeat' (first | exact trivial | exact rfl | refine And.intro ?_ ?_)
    rintro i ⟨hi, hpre⟩
    refine go0 ?_; intros
    refine And.intro (fun hc => ?_) (fun hc => ?_)
    · have hlt : i < a.length := by simpa using hc
      have hlt2 : i < b.length := by omega
      refine go0 ?_; intros
      refine stop (T_drawW GT_ok (by rfl) 9 (by decide) ?_)
      conv => whnf
      refine exA ?_
      refine go0 ?_; intros
      refine exA ?_
      refine go0 ?_; intros
      apply Exists.intro; apply And.intro
      · conv => whnf
        refine idxW_map hlt ?_
        exact goE
      conv => whnf
      refine exA ?_
      refine go0 ?_; intros
      refine exA ?_
      refine go0 ?_; intros
      refine exA ?_
      refine go0 ?_; intros
      apply Exists.intro; apply And.intro
      · conv => whnf
        refine idxW_map hlt2 ?_
        exact goE
      conv => whnf
      refine exA ?_
      refine go0 ?_; intros
      refine exA ?_
      refine go0 ?_; intros
      refine go0 ?_; intros
      refine And.intro (fun hc => ?_) (fun hc => ?_)
      · have hne : ¬ a[i] = b[i] := by simpa using hc
        refine go0 ?_; intros
        refine ⟨E, sle_E _, ?_, rfl⟩
        have : ¬ a = b := fun e => hne (by subst e; rfl)
        simp [this]
      · have heq : a[i] = b[i] := by simpa using hc
        refine go0 ?_; intros
        refine ⟨i + 1, ⟨by omega, fun j hj h1 h2 => ?_⟩, by omega, ?_, sle_refl _⟩
        · by_cases e : j = i
          · subst e; exact heq
          · exact hpre j (by omega) h1 h2
        · repeat' (first | exact trivial | exact rfl | refine And.intro ?_ ?_)
    · have hge : ¬ i < a.length := by simpa using hc
      refine go0 ?_; intros
      refine ⟨E, sle_E _, ?_, rfl⟩
      have : a = b := eq_of_get hl fun j h1 h2 => hpre j (by omega) h1 h2
      simp [this]

end Go.Proofs.Ytohldellkddmoaa.L

namespace Go.Proofs.Ytohldellkddmoaa.L
open Go
set_option linter.unusedSimpArgs false
set_option linter.unnecessarySimpa false
set_option linter.unusedVariables false
attribute [local irreducible] T TL
set_option maxRecDepth 10000

def listsP (g : List HeirT) (name : ByteArray) : List (List ByteArray) × Int :=
  if checkV g ≠ 0 then ([], checkV g) else match atI g name with
    | none => ([], 3)
    | some i => match listsX g i with
      | some l => (l, 0)
      | none => ([], 71)
def listsV (g : List HeirT) (name : ByteArray) : PV := .tup [LLS (listsP g name).1, .int .i64 (listsP g name).2]

theorem nil_tup2L {p : PV} : NilV (.tup [.nils, p]) (.tup [LLS [], p]) := .tup _ _ rfl fun i h1 h2 => by
  match i, h1 with
  | 0, _ => exact .nils 24
  | 1, _ => exact .same _

theorem upd_uni_l {A B : Store} {g : Nat} {x : AO} : upd (uni A B) g x = uni (upd A g x) B := by
  funext h
  simp only [upd, uni]
  split <;> rfl

theorem set_self {ls : List (List ByteArray)} {k : Nat} (hk : k < ls.length) : (ls.map eL).set k (eL ls[k]) = ls.map eL := by
  apply List.ext_getElem?
  intro j
  rw [List.getElem?_set]
  split
  · rename_i e; subst e; simp [hk]
  · rfl

theorem listsC_spec (g : List HeirT) (name : ByteArray) : FnP PP 23 [HS g, .str name] (listsV g name) := by
  refine Fn_end (Fn_of_TD GT_ok Go.Proofs.Try.func23 rfl (by rfl) (by rfl) ?_)
  refine go0 ?_; intros
  refine newW_intro fun gE hgE => ?_
  refine go0 ?_; intros
  refine callW_intro (open_spec g name) (sle_E _) ?_
  rintro o S' hR hdom
  have hdj := dom_Dj hdom
  unfold ansW
  rw [mrg_E_l]
  rcases hR with ⟨hn, rfl, rfl⟩ | ⟨hn, gA, gL, gt, d, rfl, rfl⟩
  · have cE : ∀ x, uni E (upd E gE x) gE = some x := fun x => by rw [uni_r rfl, upd_same]
    have cE1 := cE (.row 0 1 0 [[.int .i64 0]])
    have cE2 := cE (.row 0 1 0 [[.int .i64 (checkV g)]])
    refine go0 ?_; intros
    refine stW_intro cE1 rfl (Nat.le_of_ble_eq_true rfl) ?_
    rintro new rfl
    rw [upd_uni_r rfl, upd_upd]
    refine go0 ?_; intros
    refine And.intro (fun hc => ?_) (fun hc => ?_)
    · conv => whnf
      refine go0 ?_; intros
      refine stop (T_drawW GT_ok (by rfl) 2 (by decide) ?_)
      conv => whnf
      refine exA ?_
      refine go0 ?_; intros
      refine exA ?_
      refine go0 ?_; intros
      refine go0 ?_; intros
      refine stW_intro cE2 rfl (Nat.le_of_ble_eq_true rfl) ?_
      rintro new rfl
      rw [upd_uni_r rfl, upd_upd]
      refine go0 ?_; intros
      refine ⟨E, sle_E _, OView.nilv nil_tup2L (OView.same ⟨?_, rfl⟩)⟩
      unfold listsV listsP; rw [if_pos hn]
    · simp [hn] at hc
  · cases hat : atI g name with
    | none =>
      have hgE' : TL' g gA gL gt (fun _ => none) gE = none := hdj.symm gE _ (upd_same _ _ _)
      have cE : ∀ x, uni (TL' g gA gL gt (fun _ => none)) (upd E gE x) gE = some x := fun x => by rw [uni_r hgE', upd_same]
      have cE1 := cE (.row 0 1 0 [[.int .i64 0]])
      have cE2 := cE (.row 0 1 0 [[.int .i64 3]])
      simp only [Option.getD_none, Option.isSome_none, Bool.false_eq_true, if_false]
      refine go0 ?_; intros
      refine stW_intro cE1 rfl (Nat.le_of_ble_eq_true rfl) ?_
      rintro new rfl
      rw [upd_uni_r hgE', upd_upd]
      refine go0 ?_; intros
      refine stop (T_drawW GT_ok (by rfl) 2 (by decide) ?_)
      conv => whnf
      refine exA ?_
      refine go0 ?_; intros
      refine exA ?_
      refine go0 ?_; intros
      refine go0 ?_; intros
      refine stW_intro cE2 rfl (Nat.le_of_ble_eq_true rfl) ?_
      rintro new rfl
      rw [upd_uni_r hgE', upd_upd]
      refine go0 ?_; intros
      refine ⟨E, sle_E _, OView.nilv nil_tup2L (OView.same ⟨?_, rfl⟩)⟩
      unfold listsV listsP; rw [if_neg (by simp [hn]), hat]
    | some i =>
      have hg := heirs_of hn
      obtain ⟨hi, hnm⟩ := atI_lt hat
      have hgE' : ∀ L, TL' g gA gL gt L gE = none := fun L => TR_upd (hdj.symm gE _ (upd_same _ _ _))
      have hd : ∀ L x, Dj (TL' g gA gL gt L) (upd E gE x) := fun L x => Dj_one (hgE' L)
      have cE : ∀ L x, uni (TL' g gA gL gt L) (upd E gE x) gE = some x := fun L x => by rw [uni_r (hgE' L), upd_same]
      have cE1 := cE (fun _ => none) (.row 0 1 0 [[.int .i64 0]])
      simp only [Option.getD_some, Option.isSome_some, if_true]
      refine go0 ?_; intros
      refine stW_intro cE1 rfl (Nat.le_of_ble_eq_true rfl) ?_
      rintro new rfl
      rw [upd_uni_r (hgE' _), upd_upd]
      refine go0 ?_; intros
      refine callW_intro (lists_spec g gA gL gt (fun _ => none) d i) uni_sle_l ?_
      rintro o S' ⟨b1, b2, hb, hd2, rfl, rfl⟩ hdom2
      have hdj2 := Dj.left (hd _ _) hdom2
      have hE2 : BX b1 b2 gt i gE = none := (uni_none.1 (hdj2.symm gE _ (upd_same _ _ _))).2
      unfold ansW
      rw [mrg_l (hd _ _)]
      have hg3 : ∀ L, uni (TL' g gA gL gt L) (BX b1 b2 gt i) gE = none := fun L => uni_none.2 ⟨hgE' L, hE2⟩
      refine go0 ?_; intros
      refine callW_intro (collect_row g hg gA gL gt b1 b2 d hb i hi (fun _ => none) (fun b p hp => by cases hp) hd2 fun k hk L hL => line_spec g hg gA gL gt d k (by omega) L hL) uni_sle_l ?_
      rintro o S' ⟨L', hL', ho⟩ hdom3
      have hdj3 := Dj.left (Dj_one (hg3 _)) hdom3
      unfold ansW
      rw [mrg_l (Dj_one (hg3 _))]
      cases hls : listsX g i with
      | none =>
        rw [hls] at ho
        obtain ⟨rfl, k, rfl⟩ := ho
        have cE4 : uni (uni (TL' g gA gL gt L') (BX b1 b2 gt i)) (upd E gE (.row 0 1 0 [[.int .i64 71]])) gE = some (.row 0 1 0 [[.int .i64 71]]) := by rw [uni_r (hg3 _), upd_same]
        refine go0 ?_; intros
        refine callDW_r (caught_pan gE 0 k) (Dj_one (hg3 _)) (Dj_one (hg3 _)) ?_
        refine go0 ?_; intros
        refine ⟨E, sle_E _, OView.nilv nil_tup2L (OView.same ⟨?_, rfl⟩)⟩
        unfold listsV listsP; rw [if_neg (by simp [hn]), hat]; dsimp only; rw [hls]
      | some ls =>
        rw [hls] at ho
        obtain ⟨gR, hgR, rfl, rfl⟩ := ho
        refine go0 ?_; intros
        have hlen : ls.length ≤ 9 := by
          have hf := hg.few i hi
          unfold listsX at hls
          rw [List.getElem?_eq_getElem hi] at hls
          dsimp only at hls
          cases e : supsN (lin g) g g[i].2 with
          | none => rw [e] at hls; cases hls
          | some ls' =>
            rw [e] at hls
            simp only [Option.map_some, Option.some.injEq] at hls
            subst hls
            have := (supsN_mem e).1
            simp; omega
        have hgEr : uni (uni (TL' g gA gL gt L') (BX b1 b2 gt i)) (upd E gR (.row ls.length 1 24 (ls.map eL))) gE = none := hdj3.symm gE _ (upd_same _ _ _)
        have cR : ∀ x, uni (uni (uni (TL' g gA gL gt L') (BX b1 b2 gt i)) (upd E gR (.row ls.length 1 24 (ls.map eL)))) (upd E gE x) gR = some (.row ls.length 1 24 (ls.map eL)) := fun x => uni_l (by rw [uni_r hgR, upd_same])
        have cR0 := cR (.row 0 1 0 [[.int .i64 0]])
        have cE5 : uni (uni (uni (TL' g gA gL gt L') (BX b1 b2 gt i)) (upd E gR (.row ls.length 1 24 (ls.map eL)))) (upd E gE (.row 0 1 0 [[.int .i64 0]])) gE = some (.row 0 1 0 [[.int .i64 0]]) := by rw [uni_r hgEr, upd_same]
        refine And.intro (liveW_row cR0) (And.intro (by omega) ?_)
        refine go0 ?_; intros
        refine stop (T_loop (α := Nat) (inv := fun k => k ≤ ls.length) (tm := fun k => mkT 39 [(5, .ptr gE 0 0 0 1), (8, .row gR ls.length 0 ls.length 1), (25, .row gR ls.length 0 ls.length 1), (26, .int .i64 ls.length), (27, .int .i64 k)])
          (st := fun k => uni (uni (uni (TL' g gA gL gt L') (BX b1 b2 gt i)) (upd E gR (.row ls.length 1 24 (ls.map eL)))) (upd E gE (.row 0 1 0 [[.int .i64 0]]))) (μ := fun k => ls.length - k) 0 (by omega) ?_ (sle_refl _) ?_)
        · repeat' (first | exact trivial | exact rfl | refine And.intro ?_ ?_)
        rintro k hk
        refine go0 ?_; intros
        refine And.intro (fun hc => ?_) (fun hc => ?_)
        · have hlt : k < ls.length := by simpa using hc
          have hget : (ls.map eL)[k]? = some (eL ls[k]) := by rw [List.getElem?_map, List.getElem?_eq_getElem hlt]; rfl
          refine go0 ?_; intros
          refine ⟨k, rfl, by omega, ?_⟩
          refine go0 ?_; intros
          refine ldW_intro cR0 (by rw [Nat.zero_add]; exact hget) ?_
          refine go0 ?_; intros
          refine callW_pure (cloneS_spec _) ?_
          refine go0 ?_; intros
          refine ⟨k, rfl, by omega, ?_⟩
          refine go0 ?_; intros
          refine stW_intro (i := 0 + k) cR0 (by rw [Nat.zero_add]; exact hget) ?_ ?_
          · exact Nat.le_refl 1
          rintro new rfl
          rw [upd_uni_l, upd_uni_r hgR, upd_upd, Nat.zero_add]
          have hset := set_self hlt
          refine go0 ?_; intros
          refine ⟨k + 1, by omega, by omega, ?_, ?_⟩
          · repeat' (first | exact trivial | exact rfl | refine And.intro ?_ ?_)
          · have hset' : (ls.map eL).set k [LS ls[k]] = ls.map eL := hset
            rw [hset']; exact sle_refl _
        · conv => whnf
          refine go0 ?_; intros
          refine stW_intro cE5 rfl (Nat.le_of_ble_eq_true rfl) ?_
          rintro new rfl
          rw [upd_uni_r hgEr, upd_upd]
          refine go0 ?_; intros
          refine callDW_r (caught_ret gE 0) (Dj_one hgEr) (Dj_one hgEr) ?_
          refine go0 ?_; intros
          refine ⟨_, sle_refl _, OView.freeze (uni_l (by rw [uni_r hgR, upd_same])) (fz_tup2 (by simp)) (OView.weak (sle_E _) (OView.same ⟨?_, rfl⟩))⟩
          unfold listsV listsP; rw [if_neg (by simp [hn]), hat]; dsimp only; rw [hls]

end Go.Proofs.Ytohldellkddmoaa.L

namespace Go.Proofs.Ytohldellkddmoaa.L
open Go
set_option linter.unusedSimpArgs false
set_option linter.unnecessarySimpa false
set_option linter.unusedVariables false
attribute [local irreducible] T TL
set_option maxRecDepth 10000

theorem empty_spec (l : List ByteArray) : FnP PP 65 [LS l] (.bool (decide (l.length = 0))) := by
  refine Fn_of_T GT_ok Go.Proofs.Try.func65 rfl (by rfl) (by rfl) ?_
  refine go0 ?_; intros
  refine Exists.intro _ (And.intro (sle_refl _) ?_)
  exact ⟨by simp, rfl⟩

theorem behind_spec (l : List ByteArray) (s : ByteArray) (hl : 0 < l.length) : FnP PP 67 [LS l, .fptr [.str s] 0] (.bool (l.tail.any (eqB s))) := by
  refine Fn_of_T GT_ok Go.Proofs.Try.func67 rfl (by rfl) (by rfl) ?_
  refine go0 ?_; intros
  refine stop (T_drawW GT_ok (by rfl) 4 (by decide) ?_)
  conv => whnf
  refine exA ?_
  refine go0 ?_; intros
  refine ⟨LS l.tail, ?_, ?_⟩
  · conv => whnf
    refine go0 ?_; intros
    refine subW_lo (l := 1) rfl (by omega) ?_
    rw [List.drop_one]
  conv => whnf
  refine exA ?_
  refine go0 ?_; intros
  apply Exists.intro; apply And.intro
  · conv => whnf
    exact ⟨E, sle_E _, contains_spec _ _⟩
  refine go0 ?_; intros
  refine Exists.intro _ (And.intro (sle_refl _) ?_)
  exact ⟨rfl, rfl⟩

/-- one name stands ahead of another in a list, by the first places of both -/
def aheadB (a b : ByteArray) (x : List ByteArray) : Bool := decide (idxF (eqB a) x ≥ 0) && decide (idxF (eqB a) x < idxF (eqB b) x)

theorem ahead_spec (x : List ByteArray) (a b : ByteArray) : FnP PP 70 [LS x, .fptr [.str a] 0, .fptr [.str b] 0] (.bool (aheadB a b x)) := by
  refine Fn_of_T GT_ok Go.Proofs.Try.func70 rfl (by rfl) (by rfl) ?_
  refine go0 ?_; intros
  refine stop (T_drawW GT_ok (by rfl) 6 (by decide) ?_)
  conv => whnf
  refine exA ?_
  refine go0 ?_; intros
  refine exA ?_
  refine go0 ?_; intros
  apply Exists.intro; apply And.intro
  · conv => whnf
    exact ⟨E, sle_E _, index_spec _ _⟩
  conv => whnf
  refine exA ?_
  refine go0 ?_; intros
  refine exA ?_
  refine go0 ?_; intros
  apply Exists.intro; apply And.intro
  · conv => whnf
    exact ⟨E, sle_E _, index_spec _ _⟩
  refine go0 ?_; intros
  refine And.intro (fun hc => ?_) (fun hc => ?_)
  · conv => whnf
    refine go0 ?_; intros
    refine Exists.intro _ (And.intro (sle_refl _) ?_)
    refine ⟨?_, rfl⟩
    unfold aheadB
    have : decide (idxF (eqB a) x ≥ 0) = true := hc
    rw [this]; rfl
  · conv => whnf
    refine go0 ?_; intros
    refine Exists.intro _ (And.intro (sle_refl _) ?_)
    refine ⟨?_, rfl⟩
    unfold aheadB
    have : decide (idxF (eqB a) x ≥ 0) = false := hc
    rw [this]; rfl

end Go.Proofs.Ytohldellkddmoaa.L

namespace Go.Proofs.Ytohldellkddmoaa.L
open Go
set_option linter.unusedSimpArgs false
set_option linter.unnecessarySimpa false
set_option linter.unusedVariables false
attribute [local irreducible] T TL
set_option maxRecDepth 10000

def stepOk (ls : List (List ByteArray)) (l : List ByteArray) (i : Nat) : Bool := match l[i]?, l[(i + 1) % l.length]? with
  | some a, some b => ls.any (aheadB a b)
  | _, _ => false
def vcV (g : List HeirT) (name : ByteArray) (l : List ByteArray) : Int :=
  if (listsP g name).2 ≠ 0 then (listsP g name).2 else
  if l.length < 2 ∨ ¬ l.Nodup then 73 else
  if (List.range l.length).all (stepOk (listsP g name).1 l) then 0 else 73

theorem verifyCycle_spec (g : List HeirT) (name : ByteArray) (l : List ByteArray) : FnP PP 36 [HS g, .str name, LS l] (.int .i64 (vcV g name l)) := by
  refine Fn_of_T GT_ok Go.Proofs.Try.func36 rfl (by rfl) (by rfl) ?_
  have hl := listsC_spec g name
  unfold listsV at hl
  refine go0 ?_; intros
  refine callW_pure hl ?_
  refine go0 ?_; intros
  refine And.intro (fun hc => ?_) (fun hc => ?_)
  · have hn : (listsP g name).2 ≠ 0 := by simpa using hc
    refine go0 ?_; intros
    refine ⟨E, sle_E _, ?_, rfl⟩
    unfold vcV; rw [if_pos hn]
  · have hn : ¬ (listsP g name).2 ≠ 0 := by simpa using hc
    refine go0 ?_; intros
    refine And.intro (fun hc => ?_) (fun hc => ?_)
    · have h2 : ¬ l.length < 2 := by simp at hc; omega
      refine go0 ?_; intros
      refine callW_pure (twice_spec l) ?_
      refine go0 ?_; intros
      refine And.intro (fun hc => ?_) (fun hc => ?_)
      · have hd : ¬ l.Nodup := by simpa using hc
        refine go0 ?_; intros
        refine ⟨E, sle_E _, ?_, rfl⟩
        unfold vcV; rw [if_neg hn, if_pos (.inr hd)]
      · have hd : l.Nodup := by simpa using hc
        refine go0 ?_; intros
        refine stop (T_loop (α := Nat) (inv := fun i => i ≤ l.length ∧ ∀ j, j < i → stepOk (listsP g name).1 l j = true)
          (tm := fun i => mkT 48 [(2, LS l), (7, LLS (listsP g name).1), (28, LS l), (29, .int .i64 l.length), (30, .int .i64 i)]) (st := fun _ => E) (μ := fun i => l.length - i) 0 ⟨by omega, fun j hj => by omega⟩ ?_ (sle_refl _) ?_)
        · repeat' (first | exact trivial | exact rfl | refine And.intro ?_ ?_)
          simp
        rintro i ⟨hi, hpre⟩
        refine go0 ?_; intros
        refine And.intro (fun hc => ?_) (fun hc => ?_)
        · have hlt : i < l.length := by simpa using hc
          refine go0 ?_; intros
          refine idxW_map hlt ?_
          refine go0 ?_; intros
          refine newW_intro fun g1 hg1 => ?_
          refine go0 ?_; intros
          refine stW_intro (upd_same _ _ _) rfl (Nat.le_of_ble_eq_true rfl) ?_
          rintro new rfl
          rw [upd_upd]
          refine go0 ?_; intros
          have hk : (i + 1) % l.length < l.length := Nat.mod_lt _ (by omega)
          have hm : ((i : Int) + 1).tmod ((l.map eS).length : Nat) = (((i + 1) % l.length : Nat) : Int) := by rw [List.length_map]; exact (Int.ofNat_tmod (i + 1) l.length).symm
          rw [hm]
          refine And.intro (by rw [List.length_map]; omega) (And.intro (fit64 (by first | omega | (rw [hm]; omega))) ?_)
          refine go0 ?_; intros
          refine idxW_map hk ?_
          refine go0 ?_; intros
          refine newW_intro fun g2 hg2 => ?_
          have hne : g1 ≠ g2 := Ne.symm (ne_name (upd_same _ _ _) hg2)
          refine go0 ?_; intros
          refine stW_intro (upd_same _ _ _) rfl (Nat.le_of_ble_eq_true rfl) ?_
          rintro new rfl
          rw [upd_upd]
          refine go0 ?_; intros
          refine callW_borrow (containsFunc_spec (listsP g name).1 70 [] [.fptr [.str l[i]] 0, .fptr [.str l[(i + 1) % l.length]] 0] (aheadB l[i] l[(i + 1) % l.length]) fun x _ => ahead_spec x _ _)
            ⟨.same _, .fn _ _ _ _ _ rfl rfl (fun j h1 h2 => absurd h1 (Nat.not_lt_zero j)) (fun j h1 h2 => ?_), trivial⟩ (.bool _) ?_
          · match j, h1 with
            | 0, _ => exact .ptr g1 0 0 0 1 0 _ _ (by rw [upd_ne hne, upd_same]; rfl) rfl
            | 1, _ => exact .ptr g2 0 0 0 1 0 _ _ (by rw [upd_same]; rfl) rfl
          have hst : stepOk (listsP g name).1 l i = (listsP g name).1.any (aheadB l[i] l[(i + 1) % l.length]) := by
            unfold stepOk
            rw [List.getElem?_eq_getElem hlt, List.getElem?_eq_getElem hk]
          refine go0 ?_; intros
          refine And.intro (fun hc => ?_) (fun hc => ?_)
          · have hno : (listsP g name).1.any (aheadB l[i] l[(i + 1) % l.length]) = false := by simpa using hc
            refine go0 ?_; intros
            refine ⟨E, sle_E _, ?_, rfl⟩
            have : ¬ (List.range l.length).all (stepOk (listsP g name).1 l) = true := fun h => by
              have := List.all_eq_true.1 h i (List.mem_range.2 hlt)
              rw [hst, hno] at this; cases this
            unfold vcV; rw [if_neg hn, if_neg (by rintro (h | h) <;> contradiction), if_neg this]
          · have hyes : (listsP g name).1.any (aheadB l[i] l[(i + 1) % l.length]) = true := by simpa using hc
            refine go0 ?_; intros
            refine ⟨i + 1, ⟨by omega, fun j hj => ?_⟩, by omega, ?_, sle_E _⟩
            · by_cases e : j = i
              · subst e; rw [hst, hyes]
              · exact hpre j (by omega)
            · repeat' (first | exact trivial | exact rfl | refine And.intro ?_ ?_)
        · have hge : ¬ i < l.length := by simpa using hc
          refine go0 ?_; intros
          refine ⟨E, sle_E _, ?_, rfl⟩
          have : (List.range l.length).all (stepOk (listsP g name).1 l) = true := by
            rw [List.all_eq_true]
            intro j hj
            exact hpre j (by have := List.mem_range.1 hj; omega)
          unfold vcV; rw [if_neg hn, if_neg (by rintro (h | h) <;> contradiction), if_pos this]
    · have h2 : l.length < 2 := by simp at hc; omega
      refine go0 ?_; intros
      refine ⟨E, sle_E _, ?_, rfl⟩
      unfold vcV; rw [if_neg hn, if_pos (.inl h2)]

end Go.Proofs.Ytohldellkddmoaa.L

namespace Go.Proofs.Ytohldellkddmoaa.L
open Go
set_option linter.unusedSimpArgs false
set_option linter.unnecessarySimpa false
set_option linter.unusedVariables false
attribute [local irreducible] T TL
set_option maxRecDepth 10000

theorem refIndex_spec (l : List ByteArray) (s : ByteArray) : FnP PP 26 [LS l, .str s] (.int .i64 (idxF (eqB s) l)) := by
  refine Fn_of_T GT_ok Go.Proofs.Try.func26 rfl (by rfl) (by rfl) ?_
  refine T_fact (list_bound (d := 0) rfl) fun hlen => ?_
  rw [List.length_map] at hlen
  refine go0 ?_; intros
  refine stop (T_loop (α := Nat) (inv := fun i => i ≤ l.length ∧ ∀ j (_ : j < i) (h' : j < l.length), eqB s l[j] = false) (tm := fun i => padT [LS l, .str s, .any, .any, .any, .int .i64 i] (Go.Proofs.Try.f26).ntmps) (st := fun _ => E) (μ := fun i => l.length - i) 0 ⟨by omega, by simp⟩ ?_ (sle_refl _) ?_)
  · repeat' (first | exact trivial | exact rfl | refine And.intro ?_ ?_)
  rintro i ⟨hi, hpre⟩
  refine go0 ?_; intros
  refine And.intro (fun hc => ?_) (fun hc => ?_)
  · have hlt : i < l.length := by simpa using hc
    refine go0 ?_; intros
    refine idxW_map hlt ?_
    refine go0 ?_; intros
    refine And.intro (fun hc => ?_) (fun hc => ?_)
    · have he : eqB s l[i] = true := by
        have : l[i] = s := by simpa using hc
        simp [eqB, this]
      refine go0 ?_; intros
      refine Exists.intro _ (And.intro (sle_refl _) ?_)
      exact ⟨by rw [idxF_lt hlt he hpre], rfl⟩
    · have he : eqB s l[i] = false := by
        have : ¬ l[i] = s := by simpa using hc
        simp [eqB, Ne.symm this]
      refine go0 ?_; intros
      refine ⟨i + 1, ⟨by omega, fun j hj h' => ?_⟩, by omega, ?_, sle_refl _⟩
      · by_cases e : j = i
        · subst e; exact he
        · exact hpre j (by omega) h'
      · repeat' (first | exact trivial | exact rfl | refine And.intro ?_ ?_)
  · have hge : ¬ i < l.length := by simpa using hc
    refine go0 ?_; intros
    refine Exists.intro _ (And.intro (sle_refl _) ?_)
    exact ⟨by rw [idxF_none fun j h' => hpre j (by omega) h'], rfl⟩

theorem distinct_spec (l : List ByteArray) : FnP PP 24 [LS l] (.bool (decide l.Nodup)) := by
  refine Fn_of_T GT_ok Go.Proofs.Try.func24 rfl (by rfl) (by rfl) ?_
  refine T_fact (list_bound (d := 0) rfl) fun hlen => ?_
  rw [List.length_map] at hlen
  refine go0 ?_; intros
  refine stop (T_loop (α := Nat) (inv := fun i => i ≤ l.length ∧ (l.take i).Nodup) (tm := fun i => padT [LS l, .any, .any, .int .i64 i] (Go.Proofs.Try.f24).ntmps) (st := fun _ => E) (μ := fun i => l.length - i) 0 ⟨by omega, by simp⟩ ?_ (sle_refl _) ?_)
  · repeat' (first | exact trivial | exact rfl | refine And.intro ?_ ?_)
  rintro i ⟨hi, hpre⟩
  refine go0 ?_; intros
  refine And.intro (fun hc => ?_) (fun hc => ?_)
  · have hlt : i < l.length := by simpa using hc
    refine go0 ?_; intros
    refine stop (T_drawW GT_ok (by rfl) 9 (by decide) ?_)
    conv => whnf
    refine exA ?_
    refine go0 ?_; intros
    refine exA ?_
    refine go0 ?_; intros
    refine ⟨LS (l.take i), ?_, ?_⟩
    · conv => whnf
      refine go0 ?_; intros
      refine subW_hi (h := i) rfl (by omega) ?_
      rfl
    conv => whnf
    refine exA ?_
    refine go0 ?_; intros
    refine exA ?_
    refine go0 ?_; intros
    apply Exists.intro; apply And.intro
    · conv => whnf
      refine idxW_map hlt ?_
      exact goE
    conv => whnf
    refine exA ?_
    refine go0 ?_; intros
    apply Exists.intro; apply And.intro
    · conv => whnf
      exact ⟨E, sle_E _, refIndex_spec _ _⟩
    conv => whnf
    refine exA ?_
    refine go0 ?_; intros
    refine go0 ?_; intros
    have hd : decide (idxF (eqB l[i]) (l.take i) ≥ 0) = (l.take i).any (eqB l[i]) := idxF_any _ _
    refine And.intro (fun hc => ?_) (fun hc => ?_)
    · have hm : l[i] ∈ l.take i := any_eqB.1 (by rw [← hd]; exact hc)
      refine go0 ?_; intros
      refine ⟨E, sle_E _, ?_, rfl⟩
      have := not_nodup hlt hm
      simp [this]
    · have hm : l[i] ∉ l.take i := fun h => by
        have h2 := any_eqB.2 h
        rw [← hd] at h2
        have h3 : decide (idxF (eqB l[i]) (l.take i) ≥ 0) = false := hc
        rw [h3] at h2; cases h2
      refine go0 ?_; intros
      refine ⟨i + 1, ⟨by omega, nodup_take hpre hlt hm⟩, by omega, ?_, sle_refl _⟩
      · repeat' (first | exact trivial | exact rfl | refine And.intro ?_ ?_)
  · have hge : ¬ i < l.length := by simpa using hc
    refine go0 ?_; intros
    refine ⟨E, sle_E _, ?_, rfl⟩
    have : l.Nodup := by rw [List.take_of_length_le (by omega)] at hpre; exact hpre
    simp [this]

def isH (s : ByteArray) (h : HeirT) : Bool := decide (h.1 = s)

theorem heir_spec (g : List HeirT) (s : ByteArray) : FnP PP 29 [HS g, .str s] (.int .i64 (idxF (isH s) g)) := by
  refine Fn_of_T GT_ok Go.Proofs.Try.func29 rfl (by rfl) (by rfl) ?_
  refine T_fact (list_bound (d := 0) rfl) fun hlen => ?_
  rw [List.length_map] at hlen
  refine go0 ?_; intros
  refine stop (T_loop (α := Nat) (inv := fun i => i ≤ g.length ∧ ∀ j (_ : j < i) (h' : j < g.length), isH s g[j] = false) (tm := fun i => padT [HS g, .str s, .any, .any, .any, .int .i64 i] (Go.Proofs.Try.f29).ntmps) (st := fun _ => E) (μ := fun i => g.length - i) 0 ⟨by omega, by simp⟩ ?_ (sle_refl _) ?_)
  · repeat' (first | exact trivial | exact rfl | refine And.intro ?_ ?_)
  rintro i ⟨hi, hpre⟩
  refine go0 ?_; intros
  refine And.intro (fun hc => ?_) (fun hc => ?_)
  · have hlt : i < g.length := by simpa using hc
    refine go0 ?_; intros
    refine idxW_map hlt ?_
    refine go0 ?_; intros
    refine And.intro (fun hc => ?_) (fun hc => ?_)
    · have he : isH s g[i] = true := by
        have : g[i].1 = s := by simpa using hc
        simp [isH, this]
      refine go0 ?_; intros
      refine Exists.intro _ (And.intro (sle_refl _) ?_)
      exact ⟨by rw [idxF_lt hlt he hpre], rfl⟩
    · have he : isH s g[i] = false := by
        have : ¬ g[i].1 = s := by simpa using hc
        simp [isH, this]
      refine go0 ?_; intros
      refine ⟨i + 1, ⟨by omega, fun j hj h' => ?_⟩, by omega, ?_, sle_refl _⟩
      · by_cases e : j = i
        · subst e; exact he
        · exact hpre j (by omega) h'
      · repeat' (first | exact trivial | exact rfl | refine And.intro ?_ ?_)
  · have hge : ¬ i < g.length := by simpa using hc
    refine go0 ?_; intros
    refine Exists.intro _ (And.intro (sle_refl _) ?_)
    exact ⟨by rw [idxF_none fun j h' => hpre j (by omega) h'], rfl⟩

end Go.Proofs.Ytohldellkddmoaa.L

namespace Go.Proofs.Ytohldellkddmoaa.L
open Go
set_option linter.unusedSimpArgs false
set_option linter.unnecessarySimpa false
set_option linter.unusedVariables false
attribute [local irreducible] T TL
set_option maxRecDepth 10000

theorem sameLists_spec (a b : List (List ByteArray)) : FnP PP 21 [LLS a, LLS b] (.bool (decide (a = b))) := by
  refine Fn_of_T GT_ok Go.Proofs.Try.func21 rfl (by rfl) (by rfl) ?_
  refine go0 ?_; intros
  refine And.intro (fun hc => ?_) (fun hc => ?_)
  · have hl : ¬ a.length = b.length := by simp at hc; omega
    refine go0 ?_; intros
    refine ⟨E, sle_E _, ?_, rfl⟩
    have : ¬ a = b := fun e => hl (by rw [e])
    simp [this]
  · have hl : a.length = b.length := by simp at hc; omega
    refine go0 ?_; intros
    refine stop (T_loop (α := Nat) (inv := fun i => i ≤ a.length ∧ ∀ j (_ : j < i) (h1 : j < a.length) (h2 : j < b.length), a[j] = b[j])
      (tm := fun i => padT [LLS a, LLS b, .any, .any, .any, .int .i64 i] (Go.Proofs.Try.f21).ntmps) (st := fun _ => E) (μ := fun i => a.length - i) 0 ⟨by omega, fun j hj => by omega⟩ ?_ (sle_refl _) ?_)
    · repeat' (first | exact trivial | exact rfl | refine And.intro ?_ ?_)
    rintro i ⟨hi, hpre⟩
    refine go0 ?_; intros
    refine And.intro (fun hc => ?_) (fun hc => ?_)
    · have hlt : i < a.length := by simpa using hc
      have hlt2 : i < b.length := by omega
      refine go0 ?_; intros
      refine stop (T_drawW GT_ok (by rfl) 10 (by decide) ?_)
      conv => whnf
      refine exA ?_
      refine go0 ?_; intros
      refine exA ?_
      refine go0 ?_; intros
      apply Exists.intro; apply And.intro
      · conv => whnf
        refine idxW_map hlt ?_
        exact goE
      conv => whnf
      refine exA ?_
      refine go0 ?_; intros
      refine exA ?_
      refine go0 ?_; intros
      refine exA ?_
      refine go0 ?_; intros
      apply Exists.intro; apply And.intro
      · conv => whnf
        refine idxW_map hlt2 ?_
        exact goE
      conv => whnf
      refine exA ?_
      refine go0 ?_; intros
      apply Exists.intro; apply And.intro
      · conv => whnf
        exact ⟨E, sle_E _, same_spec _ _⟩
      conv => whnf
      refine exA ?_
      refine go0 ?_; intros
      refine go0 ?_; intros
      refine And.intro (fun hc => ?_) (fun hc => ?_)
      · have hne : ¬ a[i] = b[i] := by simpa using hc
        refine go0 ?_; intros
        refine ⟨E, sle_E _, ?_, rfl⟩
        have : ¬ a = b := fun e => hne (by subst e; rfl)
        simp [this]
      · have heq : a[i] = b[i] := by simpa using hc
        refine go0 ?_; intros
        refine ⟨i + 1, ⟨by omega, fun j hj h1 h2 => ?_⟩, by omega, ?_, sle_refl _⟩
        · by_cases e : j = i
          · subst e; exact heq
          · exact hpre j (by omega) h1 h2
        · repeat' (first | exact trivial | exact rfl | refine And.intro ?_ ?_)
    · have hge : ¬ i < a.length := by simpa using hc
      refine go0 ?_; intros
      refine ⟨E, sle_E _, ?_, rfl⟩
      have : a = b := List.ext_getElem hl fun j h1 h2 => hpre j (by omega) h1 h2
      simp [this]

end Go.Proofs.Ytohldellkddmoaa.L

namespace Go.Proofs.Ytohldellkddmoaa.L
open Go
instance (l : List ByteArray) (s : ByteArray) : Spec 68 [LS l, .str s] (.int .i64 (idxF (eqB s) l)) := ⟨index_spec l s⟩
instance (l : List ByteArray) (s : ByteArray) : Spec 60 [LS l, .str s] (.bool (l.any (eqB s))) := ⟨contains_spec l s⟩
instance (l : List ByteArray) : Spec 47 [LS l] (.bool (!decide l.Nodup)) := ⟨twice_spec l⟩
instance (l : List ByteArray) : Spec 46 [LS l] (.bool (decide (l.length > 120) || !decide l.Nodup)) := ⟨mergeF_spec l⟩
instance (l : List ByteArray) : Spec 74 [LS l] (.bool (decide (l.length > 0))) := ⟨mergedF_spec l⟩
instance (l : List ByteArray) : Spec 52 [LS l] (LS l) := ⟨cloneS_spec l⟩
instance (g : List HeirT) : Spec 28 [HS g] (.int .i64 (checkV g)) := ⟨check_spec g⟩
instance (g : List HeirT) (name : ByteArray) : Spec 22 [HS g, .str name] (ancV g name) := ⟨ancestors_spec g name⟩
instance (g : List HeirT) (a b : ByteArray) : Spec 33 [HS g, .str a, .str b] (.bool (belowV g a b)) := ⟨below_spec g a b⟩
instance (g : List HeirT) (name : ByteArray) : Spec 17 [HS g, .str name] (.tup [LS (linzP g name).1, .int .i64 (linzP g name).2]) := ⟨linzV_eq g name ▸ linearize_spec g name⟩
instance (g : List HeirT) : Spec 19 [HS g] (allV g) := ⟨all_spec g⟩
instance (g : List HeirT) (name a b : ByteArray) : Spec 37 [HS g, .str name, .str a, .str b] (precV g name a b) := ⟨precedes_spec g name a b⟩
instance (a b : List ByteArray) : Spec 72 [LS a, LS b] (.bool (decide (a = b))) := ⟨equal_spec a b⟩
instance (g : List HeirT) (name : ByteArray) (l : List ByteArray) : Spec 41 [HS g, .str name, LS l] (.int .i64 (verV g name l)) := ⟨verify_spec g name l⟩
instance (a b : List ByteArray) : Spec 16 [LS a, LS b] (.bool (decide (a = b))) := ⟨same_spec a b⟩
instance (g : List HeirT) (name : ByteArray) : Spec 23 [HS g, .str name] (.tup [LLS (listsP g name).1, .int .i64 (listsP g name).2]) := ⟨listsC_spec g name⟩
instance (l : List ByteArray) : Spec 65 [LS l] (.bool (decide (l.length = 0))) := ⟨empty_spec l⟩
instance (x : List ByteArray) (a b : ByteArray) : Spec 70 [LS x, .fptr [.str a] 0, .fptr [.str b] 0] (.bool (aheadB a b x)) := ⟨ahead_spec x a b⟩
instance (g : List HeirT) (name : ByteArray) (l : List ByteArray) : Spec 36 [HS g, .str name, LS l] (.int .i64 (vcV g name l)) := ⟨verifyCycle_spec g name l⟩
instance (l : List ByteArray) (s : ByteArray) : Spec 26 [LS l, .str s] (.int .i64 (idxF (eqB s) l)) := ⟨refIndex_spec l s⟩
instance (l : List ByteArray) : Spec 24 [LS l] (.bool (decide l.Nodup)) := ⟨distinct_spec l⟩
instance (g : List HeirT) (s : ByteArray) : Spec 29 [HS g, .str s] (.int .i64 (idxF (isH s) g)) := ⟨heir_spec g s⟩
end Go.Proofs.Ytohldellkddmoaa.L

namespace Go.Proofs.Ytohldellkddmoaa.L
open Go
set_option linter.unusedSimpArgs false
set_option linter.unnecessarySimpa false
set_option linter.unusedVariables false
attribute [local irreducible] T TL
set_option maxRecDepth 10000

/-- one heir, as the reference looks at it -/
def okRef (g : List HeirT) (i : Nat) : Bool := match g[i]? with
  | none => false
  | some h => !decide (h.1 = ⟨#[]⟩) && decide (idxF (isH h.1) (g.take i) < 0) && decide (h.2.length ≤ 8) && decide h.2.Nodup && h.2.all fun s => decide (idxF (isH s) (g.take i) ≥ 0)
def refCheckV (g : List HeirT) : Int := if g.length > 120 then 2 else if (List.range g.length).all (okRef g) then 0 else 70

theorem okRef_at {g : List HeirT} {i : Nat} (hi : i < g.length) : okRef g i = (!decide (g[i].1 = ⟨#[]⟩) && decide (idxF (isH g[i].1) (g.take i) < 0) && decide (g[i].2.length ≤ 8) && decide g[i].2.Nodup && g[i].2.all fun s => decide (idxF (isH s) (g.take i) ≥ 0)) := by
  unfold okRef; rw [List.getElem?_eq_getElem hi]

theorem refCheck_spec (g : List HeirT) : FnP PP 32 [HS g] (.int .i64 (refCheckV g)) := by
  refine Fn_of_T GT_ok Go.Proofs.Try.func32 rfl (by rfl) (by rfl) ?_
  refine T_fact (list_bound (d := 0) rfl) fun hlen => ?_
  rw [List.length_map] at hlen
  refine go ?_; intros
  refine ifD (fun hn => ?_) (fun hn => ?_)
  · refine go ?_; intros
    refine ⟨E, sle_E _, ?_, rfl⟩
    unfold refCheckV; rw [if_pos (by simp at hn; omega)]
  · have hn : ¬ g.length > 120 := by simp at hn; omega
    refine go ?_; intros
    refine stop (T_loop (α := Nat) (inv := fun i => i ≤ g.length ∧ ∀ j, j < i → okRef g j = true) (tm := fun i => padT [HS g, .any, .any, .int .i64 i] (Go.Proofs.Try.f32).ntmps) (st := fun _ => E) (μ := fun i => g.length - i) 0 ⟨by omega, fun j hj => by omega⟩ ?_ (sle_refl _) ?_)
    · repeat' (first | exact trivial | exact rfl | refine And.intro ?_ ?_)
    rintro i ⟨hi, hpre⟩
    refine go ?_; intros
    refine ifD (fun hc => ?_) (fun hc => ?_)
    · have hlt : i < g.length := by simpa using hc
      have bad : okRef g i = false → (Out.ret (.int .i64 70)) = Out.ret (.int .i64 (refCheckV g)) := fun h => by
        have : ¬ (List.range g.length).all (okRef g) = true := fun h2 => by
          have := List.all_eq_true.1 h2 i (List.mem_range.2 hlt)
          rw [h] at this; cases this
        unfold refCheckV; rw [if_neg hn, if_neg this]
      refine go ?_; intros
      refine stop (T_drawW GT_ok (by rfl) 36 (by decide) ?_)
      refine go ?_; intros
      refine ifF (fun hc => ?_) (fun hc => ?_)
      · have hne := hc
        refine go ?_; intros
        refine ifF (fun hc => ?_) (fun hc => ?_)
        · refine go ?_; intros
          refine ifF (fun hc => ?_) (fun hc => ?_)
          · refine go ?_; intros
            refine ifN (fun hd => ?_) (fun hd => ?_)
            · refine go ?_; intros
              refine ⟨E, sle_E _, bad ?_, rfl⟩
              rw [okRef_at hlt]; simp [hd]
            · refine go ?_; intros
              refine stop (T_loop (α := Nat) (inv := fun k => k ≤ g[i].2.length ∧ ∀ s ∈ g[i].2.take k, idxF (isH s) (g.take i) ≥ 0) (tm := fun k => mkT 73 [(0, HS g), (3, .int .i64 i), (4, .int .i64 k)]) (st := fun _ => E) (μ := fun k => g[i].2.length - k) 0 ⟨by omega, by simp⟩ ?_ (sle_refl _) ?_)
              · repeat' (first | exact trivial | exact rfl | refine And.intro ?_ ?_)
              rintro k ⟨hk, hks⟩
              refine go ?_; intros
              refine ifD (fun hc => ?_) (fun hc => ?_)
              · have hkl : k < g[i].2.length := by simpa using hc
                refine go ?_; intros
                refine stop (T_drawW GT_ok (by rfl) 13 (by decide) ?_)
                refine go ?_; intros
                refine ifD (fun hc => ?_) (fun hc => ?_)
                · refine go ?_; intros
                  refine ⟨E, sle_E _, bad ?_, rfl⟩
                  rw [okRef_at hlt, Bool.and_eq_false_iff]
                  refine .inr (Bool.eq_false_iff.2 fun h => ?_)
                  have := List.all_eq_true.1 h _ (List.getElem_mem hkl)
                  simp at this; omega
                · refine go ?_; intros
                  refine ⟨k + 1, ⟨by omega, fun s hs => ?_⟩, by omega, ?_, sle_refl _⟩
                  · rw [List.take_succ_eq_append_getElem hkl, List.mem_append] at hs
                    rcases hs with hs | hs
                    · exact hks s hs
                    · rw [List.mem_singleton.1 hs]; omega
                  · repeat' (first | exact trivial | exact rfl | refine And.intro ?_ ?_)
              · have hkl : ¬ k < g[i].2.length := by simpa using hc
                refine go ?_; intros
                refine ⟨i + 1, ⟨by omega, fun j hj => ?_⟩, by omega, ?_, sle_refl _⟩
                · by_cases e : j = i
                  · subst e
                    rw [List.take_of_length_le (by omega)] at hks
                    rw [okRef_at hlt]
                    simp only [Bool.and_eq_true, Bool.not_eq_true', decide_eq_false_iff_not, decide_eq_true_eq, List.all_eq_true]
                    exact ⟨⟨⟨⟨hne, by omega⟩, by simp at *; omega⟩, hd⟩, hks⟩
                  · exact hpre j (by omega)
                · repeat' (first | exact trivial | exact rfl | refine And.intro ?_ ?_)
          · refine go ?_; intros
            refine ⟨E, sle_E _, bad ?_, rfl⟩
            rw [okRef_at hlt]; simp at hc; simp; omega
        · refine go ?_; intros
          refine ⟨E, sle_E _, bad ?_, rfl⟩
          rw [okRef_at hlt]; simp; omega
      · refine go ?_; intros
        refine ⟨E, sle_E _, bad ?_, rfl⟩
        rw [okRef_at hlt]; simp [hc]
    · have hge : ¬ i < g.length := by simpa using hc
      refine go ?_; intros
      refine ⟨E, sle_E _, ?_, rfl⟩
      have : (List.range g.length).all (okRef g) = true := by
        rw [List.all_eq_true]
        intro j hj
        exact hpre j (by have := List.mem_range.1 hj; omega)
      unfold refCheckV; rw [if_neg hn, if_pos this]

end Go.Proofs.Ytohldellkddmoaa.L

namespace Go.Proofs.Ytohldellkddmoaa.L
open Go
set_option linter.unusedSimpArgs false
set_option linter.unnecessarySimpa false
set_option linter.unusedVariables false

theorem idxH_neg {b : ByteArray} {g : List HeirT} : idxF (isH b) g < 0 ↔ b ∉ g.map (·.1) := by
  rcases idxF_cases (isH b) g with ⟨h, hn⟩ | ⟨i, hi, h, hp, _⟩
  · rw [h]
    refine ⟨fun _ hm => ?_, fun _ => by decide⟩
    obtain ⟨x, hx, e⟩ := List.mem_map.1 hm
    obtain ⟨j, hj, rfl⟩ := List.getElem_of_mem hx
    have := hn j hj
    simp [isH, e] at this
  · rw [h]
    refine ⟨fun h => by omega, fun hm => absurd (List.mem_map.2 ⟨g[i], List.getElem_mem hi, by simpa [isH] using hp⟩) hm⟩

theorem supOk_iff {seen : List ByteArray} : ∀ {l pre : List ByteArray}, supOk seen pre l = true ↔ (∀ s ∈ l, s ∈ seen) ∧ l.Nodup ∧ ∀ s ∈ l, s ∉ pre
  | [], pre => by simp [supOk]
  | x :: l, pre => by
    simp only [supOk, Bool.and_eq_true, Bool.not_eq_true', supOk_iff (l := l), any_eqB]
    have e : pre.any (eqB x) = false ↔ x ∉ pre := by rw [Bool.eq_false_iff, Ne, any_eqB]
    rw [e]
    constructor
    · rintro ⟨⟨h1, h2⟩, h3, h4, h5⟩
      refine ⟨fun s hs => ?_, List.nodup_cons.2 ⟨fun hx => h5 x hx (by simp), h4⟩, fun s hs => ?_⟩
      · rcases List.mem_cons.1 hs with rfl | hs
        · exact h1
        · exact h3 s hs
      · rcases List.mem_cons.1 hs with rfl | hs
        · exact h2
        · exact fun hp => h5 s hs (by simp [hp])
    · rintro ⟨h1, h2, h3⟩
      obtain ⟨h4, h5⟩ := List.nodup_cons.1 h2
      refine ⟨⟨h1 x (by simp), h3 x (by simp)⟩, fun s hs => h1 s (by simp [hs]), h5, fun s hs hp => ?_⟩
      rcases List.mem_append.1 hp with hp | hp
      · exact h3 s (by simp [hs]) hp
      · rw [List.mem_singleton.1 hp] at hs; exact h4 hs

theorem checkL_iff : ∀ {g : List HeirT} {seen : List ByteArray}, checkL seen g = true ↔ ∀ (i : Nat) (hi : i < g.length), okHeir (seen ++ (g.take i).map (·.1)) g[i] = true
  | [], seen => by simp [checkL]
  | h :: g, seen => by
    constructor
    · exact fun hc i hi => checkL_app hc hi
    · intro hi
      simp only [checkL, Bool.and_eq_true]
      refine ⟨by have := hi 0 (by simp); rw [List.take_zero, List.map_nil, List.append_nil] at this; exact this, checkL_iff.2 fun i h' => ?_⟩
      have := hi (i + 1) (by simpa using h')
      rw [List.take_succ_cons, List.map_cons] at this
      rw [List.append_assoc]; exact this

theorem okRef_eq {g : List HeirT} {i : Nat} (hi : i < g.length) : okRef g i = okHeir ((g.take i).map (·.1)) g[i] := by
  rw [okRef_at hi, Bool.eq_iff_iff]
  simp only [okHeir, Bool.and_eq_true, Bool.not_eq_true', decide_eq_false_iff_not, decide_eq_true_eq, List.all_eq_true, supOk_iff, idxH_neg]
  have e : ((g.take i).map (·.1)).any (eqB g[i].1) = false ↔ g[i].1 ∉ (g.take i).map (·.1) := by rw [Bool.eq_false_iff, Ne, any_eqB]
  have e2 : (∀ s ∈ g[i].2, idxF (isH s) (g.take i) ≥ 0) ↔ ∀ s ∈ g[i].2, s ∈ (g.take i).map (·.1) := by
    constructor
    · intro h s hs
      exact Classical.byContradiction fun hn => by have := h s hs; have := idxH_neg.2 hn; omega
    · intro h s hs
      exact Classical.byContradiction fun hn => idxH_neg.1 (by omega) (h s hs)
  rw [e, e2]
  constructor
  · rintro ⟨⟨⟨⟨h1, h2⟩, h3⟩, h4⟩, h5⟩
    exact ⟨⟨⟨h1, h2⟩, h3⟩, h5, h4, by simp⟩
  · rintro ⟨⟨⟨h1, h2⟩, h3⟩, h5, h4, _⟩
    exact ⟨⟨⟨⟨h1, h2⟩, h3⟩, h4⟩, h5⟩

theorem refCheckV_eq (g : List HeirT) : refCheckV g = checkV g := by
  unfold refCheckV checkV
  split
  · rfl
  · have : (List.range g.length).all (okRef g) = checkL [] g := by
      rw [Bool.eq_iff_iff, List.all_eq_true, checkL_iff]
      simp only [List.mem_range, List.nil_append]
      exact ⟨fun h i hi => okRef_eq hi ▸ h i hi, fun h i hi => (okRef_eq hi).trans (h i hi)⟩
    rw [this]

instance (g : List HeirT) : Spec 32 [HS g] (.int .i64 (checkV g)) := ⟨refCheckV_eq g ▸ refCheck_spec g⟩

theorem atI_none_iff {g : List HeirT} {b : ByteArray} : atI g b = none ↔ b ∉ g.map (·.1) := by
  induction g with
  | nil => simp [atI]
  | cons h t ih =>
    simp only [atI, List.map_cons, List.mem_cons, not_or]
    cases e : atI t b with
    | some k =>
      simp only [reduceCtorEq, false_iff, not_and]
      exact fun _ hn => by rw [ih.2 hn] at e; cases e
    | none => simp [ih.1 e]

theorem idxH_at {g : List HeirT} (hg : Heirs g) {b : ByteArray} : idxF (isH b) g = match atI g b with | some k => (k : Int) | none => -1 := by
  rcases idxF_cases (isH b) g with ⟨h, hn⟩ | ⟨i, hi, h, hp, _⟩
  · have : atI g b = none := atI_none_iff.2 (idxH_neg.1 (by rw [h]; decide))
    rw [h, this]
  · have e : g[i].1 = b := by simpa [isH] using hp
    have := hg.at hi
    rw [e] at this
    rw [h, this]

def haveV (g : List HeirT) (name : ByteArray) : Int := if checkV g ≠ 0 then checkV g else if atI g name = none then 3 else 0

end Go.Proofs.Ytohldellkddmoaa.L

namespace Go.Proofs.Ytohldellkddmoaa.L
open Go
set_option linter.unusedSimpArgs false
set_option linter.unnecessarySimpa false
set_option linter.unusedVariables false
attribute [local irreducible] T TL
set_option maxRecDepth 10000

theorem have_spec (g : List HeirT) (name : ByteArray) : FnP PP 54 [HS g, .str name] (.int .i64 (haveV g name)) := by
  refine Fn_of_T GT_ok Go.Proofs.Try.func54 rfl (by rfl) (by rfl) ?_
  refine go ?_; intros
  refine ifD (fun hc => ?_) (fun hc => ?_)
  · refine go ?_; intros
    have hg := heirs_of hc
    refine ifD (fun h2 => ?_) (fun h2 => ?_)
    · refine go ?_; intros
      refine ⟨E, sle_E _, ?_, rfl⟩
      have : atI g name = none := atI_none_iff.2 (idxH_neg.1 h2)
      simp [haveV, hc, this]
    · refine go ?_; intros
      refine ⟨E, sle_E _, ?_, rfl⟩
      have : ¬ atI g name = none := fun h => h2 (idxH_neg.2 (atI_none_iff.1 h))
      simp [haveV, hc, this]
  · refine go ?_; intros
    refine ⟨E, sle_E _, ?_, rfl⟩
    simp [haveV, hc]
instance (g : List HeirT) (name : ByteArray) : Spec 54 [HS g, .str name] (.int .i64 (haveV g name)) := ⟨have_spec g name⟩

end Go.Proofs.Ytohldellkddmoaa.L

namespace Go.Proofs.Ytohldellkddmoaa.L
open Go
set_option linter.unusedSimpArgs false
set_option linter.unnecessarySimpa false
set_option linter.unusedVariables false
attribute [local irreducible] T TL
set_option maxRecDepth 10000

abbrev eB (b : Bool) : List PV := [.bool b]
abbrev BS (l : List Bool) : PV := .list 1 (l.map eB)

/-- which heirs stand in a list of names -/
def marks (g : List HeirT) (out : List ByteArray) : List Bool := g.map fun h => out.any (eqB h.1)

theorem marks_len (g : List HeirT) (out : List ByteArray) : (marks g out).length = g.length := by simp [marks]
theorem marks_get {g : List HeirT} {out : List ByteArray} {i : Nat} (hi : i < g.length) (h' : i < (marks g out).length) : (marks g out)[i] = out.any (eqB g[i].1) := by simp [marks]
theorem marks_set {g : List HeirT} (hg : Heirs g) {out : List ByteArray} {i : Nat} (hi : i < g.length) : (marks g out).set i true = marks g (out ++ [g[i].1]) := by
  refine List.ext_getElem (by simp [marks]) fun j h1 h2 => ?_
  have hj : j < g.length := by simpa [marks] using h2
  rw [List.getElem_set, marks_get hj h2]
  split
  · rename_i e; subst e; simp [eqB]
  · rename_i e
    rw [marks_get hj, List.any_append]
    have : eqB g[j].1 g[i].1 = false := by
      simp only [eqB, decide_eq_false_iff_not]
      exact fun h => e (hg.uniq j i hj hi h).symm
    simp [this]
theorem marks_nil (g : List HeirT) : List.replicate g.length false = marks g [] := by
  refine List.ext_getElem (by simp [marks]) fun j h1 h2 => by simp [marks]

theorem marked_spec (g : List HeirT) (hg : Heirs g) (i : Nat) (hi : i < g.length) : FnP PP 61 [HS g, .int .i64 i] (BS (marks g (ancL g (i + 1) [g[i].1]))) := by
  refine Fn_end (Fn_of_T GT_ok Go.Proofs.Try.func61 rfl (by rfl) (by rfl) ?_)
  refine go ?_; intros
  have hlen := hg.len
  have hb : (getG GT 4).bytes = 1 := rfl
  have hs : (getG GT 4).size = 1 := rfl
  rw [List.length_map, hb, hs]
  refine And.intro (by omega) (And.intro (show _ ≤ 140737488355328 by omega) (And.intro (by omega) ?_))
  refine newW_intro fun gr hgr => ?_
  rw [show (List.replicate (g.length : Int).toNat (getG GT 4).zero) = (marks g []).map eB by rw [← marks_nil, List.map_replicate]; rfl, Int.toNat_natCast]
  have hS : ∀ out, (upd E gr (AO.row 0 1 1 ((marks g out).map eB))) gr = some (.row 0 1 1 ((marks g out).map eB)) := fun out => upd_same _ _ _
  have hml := marks_len g
  refine go ?_; intros
  refine stW_map0 true (hS _) (by rw [hml]; omega) rfl rfl rfl ?_
  rw [upd_upd, marks_set hg hi, List.nil_append]
  refine go ?_; intros
  refine stop (T_loop (α := List ByteArray × Nat) (inv := fun x => x.2 ≤ i + 1 ∧ ancL g x.2 x.1 = ancL g (i + 1) [g[i].1])
    (tm := fun x => mkT 48 [(0, HS g), (5, .row gr 0 0 g.length 1), (6, .int .i64 ((x.2 : Int) - 1))]) (st := fun x => upd E gr (.row 0 1 1 ((marks g x.1).map eB))) (μ := fun x => x.2) ([g[i].1], i + 1) ⟨by simp, rfl⟩ ?_ (sle_refl _) ?_)
  · repeat' (first | exact trivial | exact rfl | refine And.intro ?_ ?_)
    simp
  rintro ⟨out, n⟩ ⟨hn, hout⟩
  dsimp only at hn hout ⊢
  refine go ?_; intros
  refine ifD (fun hc => ?_) (fun hc => ?_)
  · obtain ⟨k, rfl⟩ : ∃ k, n = k + 1 := ⟨n - 1, by omega⟩
    have hk : k < g.length := by omega
    have ek : ((k + 1 : Nat) : Int) - 1 = (k : Int) := by omega
    rw [ek]
    have hS' := hS out
    have hk' : k < (marks g out).length := by rw [hml]; omega
    refine go ?_; intros
    refine stop (T_loop (α := Nat) (inv := fun j => j ≤ g[k].2.length ∧ (j = 0 ∨ out.any (eqB g[k].1) = true))
      (tm := fun j => mkT 48 [(0, HS g), (5, .row gr 0 0 g.length 1), (6, .int .i64 k), (7, .int .i64 j)]) (st := fun j => upd E gr (.row 0 1 1 ((marks g (out ++ g[k].2.take j)).map eB))) (μ := fun j => g[k].2.length - j) 0 ⟨by omega, .inl rfl⟩ ?_ ?_ ?_)
    · repeat' (first | exact trivial | exact rfl | refine And.intro ?_ ?_)
    · simp only [List.take_zero, List.append_nil]; exact sle_refl _
    rintro j ⟨hj, hj0⟩
    have hS' := hS (out ++ g[k].2.take j)
    have hk' : k < (marks g (out ++ g[k].2.take j)).length := by rw [hml]; omega
    have hmk : (marks g (out ++ g[k].2.take j))[k] = out.any (eqB g[k].1) := by
      rw [marks_get hk hk', List.any_append]
      rcases hj0 with rfl | h
      · simp
      · simp [h]
    have hnext : out.any (eqB g[k].1) = false ∨ j = g[k].2.length → ancL g k (out ++ g[k].2.take j) = ancL g (i + 1) [g[i].1] := fun h => by
      rw [← hout, ancL_at hk]
      rcases h with h | h
      · rcases hj0 with rfl | h2
        · simp [h]
        · rw [h] at h2; cases h2
      · subst h
        rw [List.take_length]
        rcases hj0 with h | h
        · have : g[k].2 = [] := List.length_eq_zero_iff.1 h
          simp [this]
        · simp [h]
    refine go ?_; intros
    refine ifD (fun hc => ?_) (fun hc => ?_)
    · have hjl : j < g[k].2.length := by simpa using hc
      refine go ?_; intros
      refine And.intro (fun hm => ?_) (fun hm => ?_)
      · rw [hmk] at hm
        obtain ⟨p, hp, hps⟩ := hg.sup k hk _ (List.getElem_mem hjl)
        have hpg : p < g.length := by omega
        have hix : idxF (isH g[k].2[j]) g = (p : Int) := by rw [idxH_at hg, ← hps, hg.at hpg]
        refine go ?_; intros
        rw [hix]
        refine rowI p rfl hpg ?_
        refine go ?_; intros
        refine ⟨j + 1, ⟨by omega, .inr hm⟩, by omega, ?_, ?_⟩
        · repeat' (first | exact trivial | exact rfl | refine And.intro ?_ ?_)
        · rw [upd_upd, marks_set hg hpg, List.take_succ_eq_append_getElem hjl, ← List.append_assoc, hps]; exact sle_refl _
      · rw [hmk] at hm
        refine go ?_; intros
        refine ⟨(_, k), ⟨by dsimp only; omega, hnext (.inl hm)⟩, by dsimp only; omega, ?_, sle_refl _⟩
        repeat' (first | exact trivial | exact rfl | refine And.intro ?_ ?_)
    · have hjl : j = g[k].2.length := by simp at hc; omega
      refine go ?_; intros
      refine ⟨(_, k), ⟨by dsimp only; omega, hnext (.inr hjl)⟩, by dsimp only; omega, ?_, sle_refl _⟩
      repeat' (first | exact trivial | exact rfl | refine And.intro ?_ ?_)
  · have h0 : n = 0 := by omega
    subst h0
    refine go ?_; intros
    refine ⟨_, sle_refl _, OView.freeze (hS out) (fz_row (by rw [List.length_map, hml])) (OView.weak (sle_E _) (OView.same ⟨?_, rfl⟩))⟩
    rw [← hout]; rfl

end Go.Proofs.Ytohldellkddmoaa.L

namespace Go.Proofs.Ytohldellkddmoaa.L
open Go
set_option linter.unusedSimpArgs false
set_option linter.unnecessarySimpa false
set_option linter.unusedVariables false
attribute [local irreducible] T TL
set_option maxRecDepth 10000

def ancP (g : List HeirT) (name : ByteArray) : List ByteArray × Int :=
  if checkV g ≠ 0 then ([], checkV g) else match atI g name with
    | none => ([], 3)
    | some i => (ancOf g i, 0)
theorem ancV_eq (g : List HeirT) (name : ByteArray) : ancV g name = .tup [LS (ancP g name).1, .int .i64 (ancP g name).2] := by
  unfold ancV ancP
  split
  · rfl
  · cases atI g name <;> rfl
instance (priority := 2000) ancSpec (g : List HeirT) (name : ByteArray) : Spec 22 [HS g, .str name] (.tup [LS (ancP g name).1, .int .i64 (ancP g name).2]) := ⟨ancV_eq g name ▸ ancestors_spec g name⟩

/-- what is gathered stands at or below the place where it began -/
theorem ancL_le {g : List HeirT} (hg : Heirs g) {i : Nat} : ∀ (n : Nat) (out : List ByteArray), n ≤ g.length → (∀ b ∈ out, ∃ k, k ≤ i ∧ ∃ hk : k < g.length, g[k].1 = b) → ∀ b ∈ ancL g n out, ∃ k, k ≤ i ∧ ∃ hk : k < g.length, g[k].1 = b
  | 0, out, _, h => h
  | n + 1, out, hn, h => by
    rw [ancL_at (by omega)]
    refine ancL_le hg n _ (by omega) ?_
    split
    · rename_i hm
      intro b hb
      rcases List.mem_append.1 hb with hb | hb
      · exact h b hb
      · obtain ⟨k, hk, e⟩ := hg.sup n (by omega) b hb
        obtain ⟨k', hk', hg', e'⟩ := h _ (any_eqB.1 hm)
        have := hg.uniq k' n hg' (by omega) e'
        exact ⟨k, by omega, by omega, e⟩
    · exact h

theorem filter_late {g : List HeirT} (hg : Heirs g) {i : Nat} (hi : i < g.length) : (g.filter fun x => (ancL g (i + 1) [g[i].1]).any (eqB x.1)).map (·.1) = ancOf g i := by
  unfold ancOf
  rw [List.getElem?_eq_getElem hi]
  dsimp only
  generalize hp : (fun x : HeirT => (ancL g (i + 1) [g[i].1]).any (eqB x.1)) = p
  have e : g.filter p = (g.take (i + 1)).filter p ++ (g.drop (i + 1)).filter p := by rw [← List.filter_append, List.take_append_drop]
  have : (g.drop (i + 1)).filter p = [] := by
    subst hp
    rw [List.filter_eq_nil_iff]
    intro x hx hm
    obtain ⟨j, hj, rfl⟩ := List.getElem_of_mem hx
    rw [List.length_drop] at hj
    obtain ⟨k, hk, hkg, e⟩ := ancL_le (i := i) hg (i + 1) [g[i].1] (by omega) (fun b hb => ⟨i, by omega, hi, (List.mem_singleton.1 hb).symm⟩) _ (any_eqB.1 hm)
    rw [List.getElem_drop] at e
    have := hg.uniq k (i + 1 + j) hkg (by omega) e
    omega
  rw [e, this, List.append_nil]

theorem refAnc_spec (g : List HeirT) (name : ByteArray) : FnP PP 31 [HS g, .str name] (.tup [LS (ancP g name).1, .int .i64 (ancP g name).2]) := by
  refine Fn_end (Fn_of_T GT_ok Go.Proofs.Try.func31 rfl (by rfl) (by rfl) ?_)
  refine go ?_; intros
  refine ifN (fun hc => ?_) (fun hc => ?_)
  · refine go ?_; intros
    refine ⟨E, sle_refl _, OView.nilv nil_tup2 (OView.same ⟨?_, rfl⟩)⟩
    unfold ancP
    by_cases hn : checkV g ≠ 0
    · simp [haveV, hn]
    · rw [if_neg hn]
      cases e : atI g name with
      | none => simp at hn; simp [haveV, hn, e]
      | some k => simp at hn; simp [haveV, hn, e] at hc
  · have hn : checkV g = 0 := Classical.byContradiction fun h => by simp [haveV, h] at hc
    have hg := heirs_of hn
    cases hat : atI g name with
    | none => simp [haveV, hn, hat] at hc
    | some i =>
    obtain ⟨hi, hnm⟩ := atI_lt hat
    have hix : idxF (isH name) g = (i : Int) := by rw [idxH_at hg, hat]
    have hmk := marked_spec g hg i hi
    have hml := marks_len g (ancL g (i + 1) [g[i].1])
    refine go ?_; intros
    rw [hix]
    refine callW_pure hmk ?_
    refine go ?_; intros
    refine stop (T_nilrow 8 1 16 rfl fun gq hgq => ?_)
    let p : HeirT → Bool := fun x => (ancL g (i + 1) [g[i].1]).any (eqB x.1)
    let outs : Nat → List ByteArray := fun j => ((g.take j).filter p).map (·.1)
    refine T_loop (α := Nat) (inv := fun j => j ≤ g.length)
      (tm := fun j => mkT 40 [(0, HS g), (7, BS (marks g (ancL g (i + 1) [g[i].1]))), (8, .row gq (outs j).length 0 (outs j).length 1), (9, .int .i64 j)])
      (st := fun j => upd E gq (.row (outs j).length 1 16 ((outs j).map eS))) (μ := fun j => g.length - j) 0 (by omega) ?_ (sle_refl _) ?_
    · repeat' (first | exact trivial | exact rfl | refine And.intro ?_ ?_)
    rintro j hj
    have hS := upd_same E gq (.row (outs j).length 1 16 ((outs j).map eS))
    have hob : (outs j).length ≤ j := by
      simp only [outs, List.length_map]
      exact Nat.le_trans (List.length_filter_le _ _) (by simp; omega)
    have hlen := hg.len
    refine go ?_; intros
    refine ifD (fun hc => ?_) (fun hc => ?_)
    · have hjg : j < g.length := by simpa using hc
      refine go ?_; intros
      rw [marks_get hjg]
      refine And.intro (fun hm => ?_) (fun hm => ?_)
      · have hout : outs (j + 1) = outs j ++ [g[j].1] := by
          simp only [outs]
          rw [List.take_succ_eq_append_getElem hjg, List.filter_append, List.map_append]
          simp only [List.filter_cons, List.filter_nil]
          rw [if_pos hm]; rfl
        refine go ?_; intros
        refine ⟨j + 1, by omega, by omega, ?_, ?_⟩
        · repeat' (first | exact trivial | exact rfl | refine And.intro ?_ ?_)
          rw [hout]; simp
        · rw [upd_upd, hout, List.map_append, List.length_append]
          exact sle_refl _
      · have hout : outs (j + 1) = outs j := by
          simp only [outs]
          rw [List.take_succ_eq_append_getElem hjg, List.filter_append, List.map_append]
          simp only [List.filter_cons, List.filter_nil]
          rw [if_neg (fun h => by have h' : p g[j] = false := hm; rw [h'] at h; cases h)]; simp
        refine go ?_; intros
        refine ⟨j + 1, by omega, by omega, ?_, ?_⟩
        · repeat' (first | exact trivial | exact rfl | refine And.intro ?_ ?_)
          rw [hout]
        · rw [hout]; exact sle_refl _
    · have hge : ¬ j < g.length := by simpa using hc
      refine go ?_; intros
      refine ⟨_, sle_refl _, OView.freeze hS (fz_tup2 (by simp)) (OView.weak (sle_E _) (OView.same ⟨?_, rfl⟩))⟩
      have e : outs j = ancOf g i := by
        rw [← filter_late hg hi]
        simp only [outs]
        rw [List.take_of_length_le (by omega)]
      unfold ancP; rw [if_neg (by simp [hn]), hat, e]
instance (priority := 2000) (g : List HeirT) (name : ByteArray) : Spec 31 [HS g, .str name] (.tup [LS (ancP g name).1, .int .i64 (ancP g name).2]) := ⟨refAnc_spec g name⟩

theorem belowP_eq (g : List HeirT) (a b : ByteArray) : belowV g a b = (decide ((ancP g a).2 = 0) && decide (0 ≤ idxF (eqB b) (ancP g a).1)) := by
  unfold belowV ancP
  by_cases hn : checkV g = 0
  · have hg := heirs_of hn
    rw [if_neg (by simp [hn])]
    cases hat : atI g a with
    | none => simp [hn]
    | some i =>
      obtain ⟨hi, hnm⟩ := atI_lt hat
      simp only [hn, List.getElem?_eq_getElem hi, decide_true, Bool.true_and]
      rw [show decide (0 ≤ idxF (eqB b) (ancOf g i)) = (ancOf g i).any (eqB b) from idxF_any _ _, ← filter_late hg hi, Bool.eq_iff_iff, Bool.and_eq_true, any_eqB, any_eqB]
      have e : (atI g b).isSome = true ↔ b ∈ g.map (·.1) := by
        cases h : atI g b with
        | none => simpa using atI_none_iff.1 h
        | some k =>
          refine ⟨fun _ => Classical.byContradiction fun hx => ?_, fun _ => rfl⟩
          rw [atI_none_iff.2 hx] at h; cases h
      rw [e]
      constructor
      · rintro ⟨h1, h2⟩
        obtain ⟨x, hx, rfl⟩ := List.mem_map.1 h1
        exact List.mem_map.2 ⟨x, List.mem_filter.2 ⟨hx, any_eqB.2 h2⟩, rfl⟩
      · intro h
        obtain ⟨x, hx, rfl⟩ := List.mem_map.1 h
        obtain ⟨hx, hp⟩ := List.mem_filter.1 hx
        exact ⟨List.mem_map.2 ⟨x, hx, rfl⟩, any_eqB.1 hp⟩
  · simp [hn]

theorem refBelow_spec (g : List HeirT) (a b : ByteArray) : FnP PP 34 [HS g, .str a, .str b] (.bool (belowV g a b)) := by
  refine Fn_of_T GT_ok Go.Proofs.Try.func34 rfl (by rfl) (by rfl) ?_
  rw [belowP_eq]
  refine go ?_; intros
  refine ifD (fun hc => ?_) (fun hc => ?_)
  · refine go ?_; intros
    refine ⟨E, sle_E _, ?_, rfl⟩
    simp [hc]
  · refine go ?_; intros
    refine ⟨E, sle_E _, ?_, rfl⟩
    simp [hc]
instance (g : List HeirT) (a b : ByteArray) : Spec 34 [HS g, .str a, .str b] (.bool (belowV g a b)) := ⟨refBelow_spec g a b⟩

end Go.Proofs.Ytohldellkddmoaa.L

namespace Go.Proofs.Ytohldellkddmoaa.L
open Go
set_option linter.unusedSimpArgs false
set_option linter.unnecessarySimpa false
set_option linter.unusedVariables false
attribute [local irreducible] T TL
set_option maxRecDepth 10000

abbrev eI (n : Nat) : List PV := [.int .i64 n]
abbrev IS (l : List Nat) : PV := .list 8 (l.map eI)

/-- what is left of lists of which some first elements are removed -/
def rem (l : List (List ByteArray)) (at' : List Nat) : List (List ByteArray) := List.zipWith (fun x a => x.drop a) l at'

structure Fits (l : List (List ByteArray)) (at' : List Nat) : Prop where
  len : at'.length = l.length
  le : ∀ (i : Nat) (h : i < l.length) (h' : i < at'.length), at'[i] ≤ l[i].length

variable {l : List (List ByteArray)} {at' : List Nat}
theorem rem_len (f : Fits l at') : (rem l at').length = l.length := by simp [rem, f.len]
theorem rem_get (f : Fits l at') {i : Nat} (h : i < l.length) (h' : i < at'.length) (h2 : i < (rem l at').length) : (rem l at')[i] = l[i].drop at'[i] := by simp [rem]

theorem good_nil (l : List (List ByteArray)) : good l [] = false := rfl

theorem idxF_neg {α : Type} (p : α → Bool) (l : List α) : decide (idxF p l < 0) = !(l.any p) := by
  rw [← idxF_any]
  by_cases h : idxF p l < 0
  · have h' : ¬ 0 ≤ idxF p l := by omega
    simp [h, h']
  · have h' : 0 ≤ idxF p l := by omega
    simp [h, h']

theorem refCand_spec (l : List (List ByteArray)) (at' : List Nat) (f : Fits l at') (hb : ∀ x ∈ l, x.length ≤ 120) : FnP PP 49 [LLS l, IS at'] (.int .i64 (idxF (good (rem l at')) (rem l at'))) := by
  refine Fn_of_T GT_ok Go.Proofs.Try.func49 rfl (by rfl) (by rfl) ?_
  refine T_fact (list_bound (d := 0) rfl) fun hlen => ?_
  rw [List.length_map] at hlen
  have hal := f.len
  have hrl := rem_len f
  refine go ?_; intros
  refine stop (T_loop (α := Nat) (inv := fun i => i ≤ l.length ∧ ∀ j (_ : j < i) (h' : j < (rem l at').length), good (rem l at') (rem l at')[j] = false)
    (tm := fun i => mkT 69 [(0, LLS l), (1, IS at'), (5, .int .i64 i)]) (st := fun _ => E) (μ := fun i => l.length - i) 0 ⟨by omega, by simp⟩ ?_ (sle_refl _) ?_)
  · repeat' (first | exact trivial | exact rfl | refine And.intro ?_ ?_)
  rintro i ⟨hi, hpre⟩
  refine go ?_; intros
  refine ifD (fun hc => ?_) (fun hc => ?_)
  · have hil : i < l.length := by simpa using hc
    have hia : i < at'.length := by omega
    have hir : i < (rem l at').length := by omega
    have hri := rem_get f hil hia hir
    have hle := f.le i hil hia
    have hb0 := hb _ (List.getElem_mem hil)
    refine go ?_; intros
    refine stop (T_drawW GT_ok (by rfl) 10 (by decide) ?_)
    refine go ?_; intros
    refine ifD (fun hc => ?_) (fun hc => ?_)
    · have he : at'[i] = l[i].length := by simp at hc; omega
      refine go ?_; intros
      refine ⟨i + 1, ⟨by omega, fun j hj h' => ?_⟩, by omega, ?_, sle_refl _⟩
      · by_cases e : j = i
        · subst e; rw [hri, List.drop_of_length_le (by omega)]; rfl
        · exact hpre j (by omega) h'
      · repeat' (first | exact trivial | exact rfl | refine And.intro ?_ ?_)
    · have hlt : at'[i] < l[i].length := by simp at hc; omega
      refine go ?_; intros
      refine stop (T_loop (α := Nat × Bool) (inv := fun x => x.1 ≤ l.length ∧ x.2 = ((rem l at').take x.1).all fun y => !(y.tail.any (eqB l[i][at'[i]])))
        (tm := fun x => mkT 69 [(0, LLS l), (1, IS at'), (5, .int .i64 i), (6, .bool x.2), (7, .int .i64 x.1)]) (st := fun _ => E) (μ := fun x => l.length - x.1) (0, true) ⟨by simp, by simp⟩ ?_ (sle_refl _) ?_)
      · repeat' (first | exact trivial | exact rfl | refine And.intro ?_ ?_)
      rintro ⟨k, b⟩ ⟨hk, hbk⟩
      dsimp only at hk hbk ⊢
      have hx : 0 < ((rem l at')[i]).length := by rw [hri, List.length_drop]; omega
      have hx0 : ((rem l at')[i])[0] = l[i][at'[i]] := by simp [hri]
      have stopNo : b = false → good (rem l at') (rem l at')[i] = false := fun h => by
        rw [hbk] at h
        obtain ⟨y, hy, h2⟩ := List.all_eq_false.1 h
        exact good_no hx (List.mem_of_mem_take hy) (by rw [hx0]; simpa using h2)
      have stopYes : b = true → l.length ≤ k → good (rem l at') (rem l at')[i] = true := fun h hle => by
        rw [hbk, List.take_of_length_le (by omega)] at h
        exact good_yes hx fun y hy => by rw [hx0]; simpa using List.all_eq_true.1 h y hy
      have next : good (rem l at') (rem l at')[i] = false → ∀ j (_ : j < i + 1) (h' : j < (rem l at').length), good (rem l at') (rem l at')[j] = false := fun hg j hj h' => by
        by_cases e : j = i
        · subst e; exact hg
        · exact hpre j (by omega) h'
      refine go ?_; intros
      refine ifD (fun hc => ?_) (fun hc => ?_)
      · have hkl : k < l.length := by simpa using hc
        have hka : k < at'.length := by omega
        have hkr : k < (rem l at').length := by omega
        have hrk := rem_get f hkl hka hkr
        have hlek := f.le k hkl hka
        have hbk0 := hb _ (List.getElem_mem hkl)
        refine go ?_; intros
        refine And.intro (fun hb1 => ?_) (fun hb1 => ?_)
        · subst hb1
          refine go ?_; intros
          refine stop (T_drawW GT_ok (by rfl) 35 (by decide) ?_)
          refine go ?_; intros
          refine ifF (fun hc => ?_) (fun hc => ?_)
          · have hlt2 : at'[k] < l[k].length := by simp at hc; omega
            have e1 : (l[k].drop (at'[k] + 1)) = ((rem l at')[k]).tail := by rw [hrk, List.tail_drop]
            refine go ?_; intros
            refine ⟨(k + 1, decide (idxF (eqB l[i][at'[i]]) (l[k].drop (at'[k] + 1)) < 0)), ⟨by dsimp only; omega, ?_⟩, by dsimp only; omega, by repeat' (first | exact trivial | exact rfl | refine And.intro ?_ ?_), sle_refl _⟩
            · dsimp only
              rw [List.take_succ_eq_append_getElem hkr, List.all_append, ← hbk, e1, idxF_neg]; simp
          · have he2 : at'[k] = l[k].length := by simp at hc; omega
            refine go ?_; intros
            refine ⟨(k + 1, true), ⟨by dsimp only; omega, ?_⟩, by dsimp only; omega, ?_, sle_refl _⟩
            · dsimp only
              rw [List.take_succ_eq_append_getElem hkr, List.all_append, ← hbk, hrk, List.drop_of_length_le (by omega)]; rfl
            · repeat' (first | exact trivial | exact rfl | refine And.intro ?_ ?_)
        · subst hb1
          refine go ?_; intros
          refine ⟨i + 1, ⟨by omega, next (stopNo rfl)⟩, by omega, ?_, sle_refl _⟩
          · repeat' (first | exact trivial | exact rfl | refine And.intro ?_ ?_)
      · have hkl : ¬ k < l.length := by simpa using hc
        refine go ?_; intros
        refine And.intro (fun hb1 => ?_) (fun hb1 => ?_)
        · refine go ?_; intros
          refine ⟨E, sle_E _, ?_, rfl⟩
          rw [idxF_lt hir (stopYes hb1 (by omega)) hpre]
        · refine go ?_; intros
          refine ⟨i + 1, ⟨by omega, next (stopNo hb1)⟩, by omega, ?_, sle_refl _⟩
          · repeat' (first | exact trivial | exact rfl | refine And.intro ?_ ?_)
  · have hge : ¬ i < l.length := by simpa using hc
    refine go ?_; intros
    refine ⟨E, sle_E _, ?_, rfl⟩
    rw [idxF_none fun j h' => hpre j (by omega) h']

def mergeP (l : List (List ByteArray)) : List ByteArray × Bool := if lawL l then ([], false) else match mergeX l with
  | some out => (out, true)
  | none => ([], false)
theorem mergeV_eq (l : List (List ByteArray)) : mergeV l = .tup [LS (mergeP l).1, .bool (mergeP l).2] := by
  unfold mergeV mergeP mergedV
  split
  · rfl
  · cases mergeX l <;> rfl
instance (l : List (List ByteArray)) : Spec 14 [LLS l] (.tup [LS (mergeP l).1, .bool (mergeP l).2]) := ⟨mergeV_eq l ▸ merge_spec l⟩

end Go.Proofs.Ytohldellkddmoaa.L

namespace Go.Proofs.Ytohldellkddmoaa.L
open Go
set_option linter.unusedSimpArgs false
set_option linter.unnecessarySimpa false
set_option linter.unusedVariables false
attribute [local irreducible] T TL
set_option maxRecDepth 10000

variable {l : List (List ByteArray)} {at' : List Nat}

theorem total_take (l : List (List ByteArray)) {i : Nat} (h : i < l.length) : total (l.take (i + 1)) = total (l.take i) + l[i].length := by
  rw [List.take_succ_eq_append_getElem h]; simp only [total, List.map_append, List.sum_append, List.map_cons, List.map_nil, List.sum_cons, List.sum_nil, Nat.add_zero]

theorem rem_zero (l : List (List ByteArray)) : rem l (List.replicate l.length 0) = l := by
  refine List.ext_getElem (by simp [rem]) fun i h1 h2 => by simp [rem]
theorem fits_zero (l : List (List ByteArray)) : Fits l (List.replicate l.length 0) := ⟨by simp, fun i h h' => by simp⟩

theorem rem_set (f : Fits l at') {j : Nat} (hj : j < l.length) (hja : j < at'.length) : rem l (at'.set j (at'[j] + 1)) = (rem l at').set j (l[j].drop (at'[j] + 1)) := by
  refine List.ext_getElem (by simp [rem]) fun i h1 h2 => ?_
  rw [List.getElem_set]
  simp only [rem, List.getElem_zipWith, List.getElem_set]
  split
  · rename_i e; subst e; rfl
  · rfl
theorem fits_set (f : Fits l at') {j : Nat} (hj : j < l.length) (hja : j < at'.length) (h : at'[j] < l[j].length) : Fits l (at'.set j (at'[j] + 1)) := by
  refine ⟨by simpa using f.len, fun i hi hi' => ?_⟩
  rw [List.getElem_set]
  split
  · rename_i e; subst e; omega
  · exact f.le i hi (by simpa using hi')

theorem total_set {ls : List (List ByteArray)} {j : Nat} (hj : j < ls.length) (y : List ByteArray) : total (ls.set j y) + ls[j].length = total ls + y.length := by
  induction ls generalizing j with
  | nil => simp at hj
  | cons x ls ih =>
    cases j with
    | zero => simp [total]; omega
    | succ j =>
      have := ih (j := j) (by simpa using hj)
      simp only [total, List.set_cons_succ, List.map_cons, List.sum_cons, List.getElem_cons_succ] at this ⊢
      omega

theorem candO_idx {R : List (List ByteArray)} : (idxF (good R) R < 0 → candO R = none) ∧ ∀ i (hi : i < R.length), idxF (good R) R = i → ∃ h : 0 < R[i].length, candO R = some (R[i][0]) := by
  constructor
  · intro h
    rcases idxF_cases (good R) R with ⟨_, hn⟩ | ⟨i, hi, e, _, _⟩
    · unfold candO
      rw [find_no hn]
    · omega
  · intro i hi h
    rcases idxF_cases (good R) R with ⟨e, _⟩ | ⟨k, hk, e, hp, hpre⟩
    · omega
    · have : k = i := by omega
      subst this
      unfold candO
      rw [find_at hk hp hpre]
      cases hR : R[k] with
      | nil => rw [hR, good_nil] at hp; cases hp
      | cons a t => exact ⟨by simp, by simp⟩

theorem any_pos {R : List (List ByteArray)} (h : 0 < total R) : R.any (fun x => decide (x.length > 0)) = true := by
  induction R with
  | nil => simp [total] at h
  | cons x R ih =>
    simp only [total, List.map_cons, List.sum_cons] at h ih
    simp only [List.any_cons, Bool.or_eq_true, decide_eq_true_eq]
    by_cases hx : 0 < x.length
    · exact .inl hx
    · exact .inr (ih (by omega))

theorem upd_comm {S : Store} {a b : Nat} {x y : AO} (h : a ≠ b) : upd (upd S a x) b y = upd (upd S b y) a x := by
  funext k
  simp only [upd]
  by_cases h1 : k = b
  · subst h1; simp [Ne.symm h]
  · simp [h1]
theorem takeOff_hit {s : ByteArray} {x : List ByteArray} (h : 0 < x.length) (e : x[0] = s) : takeOff s x = x.drop 1 := by
  cases x with
  | nil => simp at h
  | cons a t =>
    have : a = s := e
    simp [takeOff, this]
theorem takeOff_miss {s : ByteArray} {x : List ByteArray} (h : ∀ h : 0 < x.length, x[0] ≠ s) : takeOff s x = x := by
  cases x with
  | nil => rfl
  | cons a t =>
    have : a ≠ s := h (by simp)
    simp [takeOff, this]

set_option maxHeartbeats 4000000 in
theorem refMerge_spec (l : List (List ByteArray)) : FnP PP 15 [LLS l] (.tup [LS (mergeP l).1, .bool (mergeP l).2]) := by
  refine Fn_end (Fn_of_T GT_ok Go.Proofs.Try.func15 rfl (by rfl) (by rfl) ?_)
  refine T_fact (list_bound (d := 0) rfl) fun hlen => ?_
  rw [List.length_map] at hlen
  have no : ∀ h : lawL l = true, ∀ S, OView (.ret (.tup [.nils, .bool false])) S fun o S' => o = .ret (.tup [LS (mergeP l).1, .bool (mergeP l).2]) ∧ S' = E := fun h S =>
    OView.weak (sle_E _) (OView.nilv nil_tup2 (OView.same ⟨by unfold mergeP; rw [if_pos h], rfl⟩))
  refine go ?_; intros
  refine ifD (fun hc => ?_) (fun hc => ?_)
  · have hn : l.length > 20 := by simp at hc; omega
    refine go ?_; intros
    exact ⟨E, sle_refl _, no (by simp [lawL]; omega) _⟩
  · have hn : l.length ≤ 20 := by simp at hc; omega
    refine go ?_; intros
    refine stop (T_loop (α := Nat) (inv := fun i => i ≤ l.length ∧ ∀ x ∈ l.take i, x.length ≤ 120 ∧ x.Nodup)
      (tm := fun i => mkT 104 [(0, LLS l), (4, .int .i64 (total (l.take i))), (5, .int .i64 i)]) (st := fun _ => E) (μ := fun i => l.length - i) 0 ⟨by omega, by simp⟩ ?_ (sle_refl _) ?_)
    · repeat' (first | exact trivial | exact rfl | refine And.intro ?_ ?_)
    rintro i ⟨hi, hpre⟩
    have htl : total (l.take i) ≤ 2400 := Nat.le_trans (total_le 120 _ fun x hx => (hpre x hx).1) (by rw [List.length_take]; omega)
    refine go ?_; intros
    refine ifD (fun hc => ?_) (fun hc => ?_)
    · have hil : i < l.length := by simpa using hc
      have bad : ¬ (l[i].length ≤ 120 ∧ l[i].Nodup) → lawL l = true := fun h => by
        unfold lawL
        rw [Bool.or_eq_true, List.any_eq_true]
        refine .inr ⟨l[i], List.getElem_mem hil, ?_⟩
        by_cases h2 : l[i].length ≤ 120
        · rw [Bool.or_eq_true, Bool.not_eq_true', decide_eq_false_iff_not]; exact .inr fun h3 => h ⟨h2, h3⟩
        · simp; exact .inl (by omega)
      refine go ?_; intros
      refine ifF (fun h1 => ?_) (fun h1 => ?_)
      · have h1' : l[i].length ≤ 120 := by simp at h1; omega
        refine go ?_; intros
        refine ifN (fun h2 => ?_) (fun h2 => ?_)
        · refine go ?_; intros
          exact ⟨E, sle_refl _, no (bad fun h => h2 h.2) _⟩
        · refine go ?_; intros
          refine ⟨i + 1, ⟨by omega, fun x hx => ?_⟩, by omega, ?_, sle_refl _⟩
          · rw [List.take_succ_eq_append_getElem hil, List.mem_append] at hx
            rcases hx with hx | hx
            · exact hpre x hx
            · rw [List.mem_singleton.1 hx]; exact ⟨h1', h2⟩
          · repeat' (first | exact trivial | exact rfl | refine And.intro ?_ ?_)
            rw [total_take l hil, List.length_map]; rfl
      · refine go ?_; intros
        exact ⟨E, sle_refl _, no (bad fun h => by simp at h1; omega) _⟩
    · have hge : l.take i = l := List.take_of_length_le (by simp at hc; omega)
      rw [hge] at htl hpre ⊢
      refine go ?_; intros
      have hlaw : lawL l = false := by
        unfold lawL
        rw [Bool.or_eq_false_iff, decide_eq_false_iff_not]
        refine ⟨by omega, List.any_eq_false.2 fun x hx => ?_⟩
        have := hpre x hx
        simp [this.2]; omega
      have hmp : mergeP l = match mergeX l with | some out => (out, true) | none => ([], false) := by unfold mergeP; rw [if_neg (by simp [hlaw])] <;> cases mergeX l <;> rfl
      have hb1 : (getG GT 3).bytes = 8 := rfl
      have hs1 : (getG GT 3).size = 1 := rfl
      rw [List.length_map, hb1, hs1]
      refine And.intro (by omega) (And.intro (show _ ≤ 140737488355328 by omega) (And.intro (by omega) ?_))
      refine newW_intro fun ga hga => ?_
      rw [show (List.replicate (l.length : Int).toNat (getG GT 3).zero) = (List.replicate l.length 0).map eI by rw [List.map_replicate]; rfl, Int.toNat_natCast]
      refine go ?_; intros
      refine stop (T_nilrow 7 1 16 rfl fun gq hgq => ?_)
      have hne : ga ≠ gq := Ne.symm (ne_name (upd_same _ _ _) hgq)
      let st : List Nat → List ByteArray → Store := fun a o => upd (upd E ga (.row 0 1 8 (a.map eI))) gq (.row o.length 1 16 (o.map eS))
      have hA : ∀ a o, st a o ga = some (.row 0 1 8 (a.map eI)) := fun a o => by simp only [st]; rw [upd_ne hne, upd_same]
      have hQ : ∀ a o, st a o gq = some (.row o.length 1 16 (o.map eS)) := fun a o => upd_same _ _ _
      refine T_loop (α := List Nat × List ByteArray) (inv := fun x => Fits l x.1 ∧ mergeX l = (mergeX (rem l x.1)).map (x.2 ++ ·) ∧ x.2.length + total (rem l x.1) ≤ total l)
        (tm := fun x => mkT 104 [(0, LLS l), (4, .int .i64 (total (rem l x.1))), (6, .row ga 0 0 l.length 1), (7, .row gq x.2.length 0 x.2.length 1)]) (st := fun x => st x.1 x.2) (μ := fun x => total (rem l x.1))
        (List.replicate l.length 0, []) ⟨fits_zero l, by rw [rem_zero]; simp, by rw [rem_zero]; simp⟩ ?_ (sle_refl _) ?_
      · repeat' (first | exact trivial | exact rfl | refine And.intro ?_ ?_)
        rw [rem_zero]
      rintro ⟨a, out⟩ ⟨hf, hmx, hot⟩
      dsimp only at hf hmx hot ⊢
      have hAa := hA a out
      have hQa := hQ a out
      have hfl := hf.len
      have hrl := rem_len hf
      refine go ?_; intros
      refine ifD (fun hc => ?_) (fun hc => ?_)
      · have htp : 0 < total (rem l a) := by omega
        refine go ?_; intros
        refine callW_borrow (refCand_spec l a hf fun x hx => (hpre x hx).1) ⟨.same _, ?_, trivial⟩ (.int _ _) ?_
        · exact bor_row hAa (by rw [List.length_map, hfl])
        refine go ?_; intros
        refine ifD (fun hc => ?_) (fun hc => ?_)
        · refine go ?_; intros
          refine ⟨_, sle_refl _, OView.weak (sle_E _) (OView.nilv nil_tup2 (OView.same ⟨?_, rfl⟩))⟩
          have hnone := mergeX_none (any_pos htp) ((candO_idx (R := rem l a)).1 hc)
          rw [hmp, hmx, hnone]; rfl
        · obtain ⟨c, hcl, hci⟩ : ∃ c, c < (rem l a).length ∧ idxF (good (rem l a)) (rem l a) = (c : Int) := by
            rcases idxF_cases (good (rem l a)) (rem l a) with ⟨e, _⟩ | ⟨k, hk, e, _, _⟩
            · omega
            · exact ⟨k, hk, e⟩
          obtain ⟨hRc, hcand⟩ := (candO_idx (R := rem l a)).2 c hcl hci
          have hcl' : c < l.length := by omega
          have hca : c < a.length := by omega
          have hrc := rem_get hf hcl' hca hcl
          have hac : a[c] < l[c].length := by rw [hrc, List.length_drop] at hRc; omega
          have hs0 : (rem l a)[c][0] = l[c][a[c]] := by simp [hrc]
          have hbc := (hpre _ (List.getElem_mem hcl')).1
          rw [hs0] at hcand
          generalize hsv : l[c][a[c]] = s at hcand hs0
          rw [hci]
          refine go ?_; intros
          refine stop (T_drawW GT_ok (by rfl) 11 (by decide) ?_)
          refine go ?_; intros
          subst hsv
          refine stop (T_loop (α := List Nat × Nat) (inv := fun x => x.2 ≤ l.length ∧ Fits l x.1 ∧ rem l x.1 = mix (takeOff (l[c][a[c]])) x.2 (rem l a) ∧ total (rem l x.1) ≤ 2400)
            (tm := fun x => mkT 104 [(0, LLS l), (4, .int .i64 (total (rem l x.1))), (6, .row ga 0 0 l.length 1), (7, .row gq (out ++ [l[c][a[c]]]).length 0 (out ++ [l[c][a[c]]]).length 1), (9, .str l[c][a[c]]), (10, .int .i64 x.2)])
            (st := fun x => st x.1 (out ++ [l[c][a[c]]])) (μ := fun x => l.length - x.2) (a, 0) ⟨by simp, hf, by rw [mix_zero], by dsimp only; omega⟩ ?_ ?_ ?_)
          · repeat' (first | exact trivial | exact rfl | refine And.intro ?_ ?_)
            simp
          · simp only [st]; rw [upd_upd]; simp; exact sle_refl _
          rintro ⟨a', j⟩ ⟨hj, hf', hm', ht'⟩
          dsimp only at hj hf' hm' ht' ⊢
          have hA' := hA a' (out ++ [l[c][a[c]]])
          have hfl' := hf'.len
          have hrl' := rem_len hf'
          refine go ?_; intros
          refine ifD (fun hc => ?_) (fun hc => ?_)
          · have hjl : j < l.length := by simpa using hc
            have hja : j < a'.length := by omega
            have hjr : j < (rem l a').length := by omega
            have hrj := rem_get hf' hjl hja hjr
            have hbj := (hpre _ (List.getElem_mem hjl)).1
            have hlej := hf'.le j hjl hja
            have hjR : j < (rem l a).length := by omega
            have hRj : (rem l a)[j] = l[j].drop a'[j] := by
              have := mix_get (takeOff (l[c][a[c]])) hjR
              rw [← hm', List.getElem?_eq_getElem hjr] at this
              rw [← Option.some.inj this, hrj]
            refine go ?_; intros
            refine stop (T_drawW GT_ok (by rfl) 24 (by decide) ?_)
            refine go ?_; intros
            have miss : ¬ (∃ h : a'[j] < l[j].length, l[j][a'[j]] = l[c][a[c]]) → takeOff (l[c][a[c]]) (rem l a)[j] = (rem l a)[j] := fun h => takeOff_miss fun h1 h2 => h (by
              rw [hRj, List.length_drop] at h1
              exact ⟨by omega, by simpa [hRj] using h2⟩)
            have same : takeOff (l[c][a[c]]) (rem l a)[j] = (rem l a)[j] → rem l a' = mix (takeOff (l[c][a[c]])) (j + 1) (rem l a) := fun h => by
              rw [mix_step _ hjR, ← hm', h, hRj, ← hrj, List.set_getElem_self]
            refine ifD (fun hc => ?_) (fun hc => ?_)
            · have hlt : a'[j] < l[j].length := by simp at hc; omega
              refine go ?_; intros
              refine ifD (fun hc => ?_) (fun hc => ?_)
              · have hst := rem_set hf' hjl hja
                have hts := total_set hjr (l[j].drop (a'[j] + 1))
                rw [hrj, List.length_drop, List.length_drop] at hts
                have hhit : takeOff (l[c][a[c]]) (rem l a)[j] = l[j].drop (a'[j] + 1) := by
                  rw [hRj, takeOff_hit (by rw [List.length_drop]; omega) (by simpa using hc), List.drop_drop]
                have hmix : rem l (a'.set j (a'[j] + 1)) = mix (takeOff (l[c][a[c]])) (j + 1) (rem l a) := by
                  rw [mix_step _ hjR, ← hm', hhit, hst]
                refine go ?_; intros
                refine ⟨(a'.set j (a'[j] + 1), j + 1), ⟨by dsimp only; omega, fits_set hf' hjl hja hlt, hmix, by dsimp only; rw [hst]; omega⟩, by dsimp only; omega, ?_, ?_⟩
                · repeat' (first | exact trivial | exact rfl | refine And.intro ?_ ?_)
                  rw [hst]; congr 1; omega
                · simp only [st]; rw [upd_comm (Ne.symm hne), upd_upd]; exact sle_refl _
              · refine go ?_; intros
                refine ⟨(a', j + 1), ⟨by dsimp only; omega, hf', same (miss fun ⟨_, h⟩ => hc h), ht'⟩, by dsimp only; omega, by repeat' (first | exact trivial | exact rfl | refine And.intro ?_ ?_), sle_refl _⟩
            · refine go ?_; intros
              refine ⟨(a', j + 1), ⟨by dsimp only; omega, hf', same (miss fun ⟨h, _⟩ => by simp at hc; omega), ht'⟩, by dsimp only; omega, by repeat' (first | exact trivial | exact rfl | refine And.intro ?_ ?_), sle_refl _⟩
          · have hge : ¬ j < l.length := by simpa using hc
            refine go ?_; intros
            rw [mix_end _ (by omega)] at hm'
            have hany := any_pos htp
            refine ⟨(a', out ++ [l[c][a[c]]]), ⟨hf', ?_, ?_⟩, ?_, by repeat' (first | exact trivial | exact rfl | refine And.intro ?_ ?_), sle_refl _⟩
            · rw [hmx, mergeX_step hany hcand, ← hm']
              cases mergeX (rem l a') <;> simp
            · have := total_takeOff_lt (s := l[c][a[c]]) (l := rem l a) (candO_mem hcand)
              dsimp only
              rw [hm', List.length_append]; simp; omega
            · dsimp only
              rw [hm']; exact total_takeOff_lt (candO_mem hcand)
      · have h0 : total (rem l a) = 0 := by omega
        refine go ?_; intros
        refine ⟨_, sle_refl _, OView.freeze hQa (fz_tup2 (by simp)) (OView.weak (sle_E _) (OView.same ⟨?_, rfl⟩))⟩
        rw [hmp, hmx, mergeX_nil (total_zero h0)]; simp
instance (priority := 2000) (l : List (List ByteArray)) : Spec 15 [LLS l] (.tup [LS (mergeP l).1, .bool (mergeP l).2]) := ⟨refMerge_spec l⟩

end Go.Proofs.Ytohldellkddmoaa.L

namespace Go.Proofs.Ytohldellkddmoaa.L
open Go
set_option linter.unusedSimpArgs false
set_option linter.unnecessarySimpa false
set_option linter.unusedVariables false
attribute [local irreducible] T TL
set_option maxRecDepth 10000

theorem supsN_snoc {f : Nat → Option (List ByteArray)} {g : List HeirT} {s : ByteArray} {k : Nat} (hk : atI g s = some k) : ∀ {l : List ByteArray} {ls : List (List ByteArray)}, supsN f g l = some ls → supsN f g (l ++ [s]) = (f k).map fun x => ls ++ [x]
  | [], ls, h => by
    cases h
    simp only [List.nil_append, supsN, hk]
    cases f k <;> rfl
  | a :: l, ls, h => by
    simp only [List.cons_append, supsN] at h ⊢
    cases e : atI g a with
    | none => rw [e] at h; cases h
    | some j =>
      rw [e] at h
      dsimp only at h ⊢
      cases e2 : f j with
      | none => rw [e2] at h; cases h
      | some x =>
        rw [e2] at h
        dsimp only at h ⊢
        cases e3 : supsN f g l with
        | none => rw [e3] at h; cases h
        | some ls' =>
          rw [e3] at h
          simp only [Option.map_some, Option.some.injEq] at h
          subst h
          rw [supsN_snoc hk e3]
          cases f k <;> rfl

theorem supsN_none {f : Nat → Option (List ByteArray)} {g : List HeirT} {l m : List ByteArray} (h : supsN f g l = none) : supsN f g (l ++ m) = none := by
  induction l with
  | nil => cases h
  | cons a l ih =>
    simp only [List.cons_append, supsN] at h ⊢
    cases e : atI g a with
    | none => rfl
    | some j =>
      rw [e] at h
      dsimp only at h ⊢
      cases e2 : f j with
      | none => rfl
      | some x =>
        rw [e2] at h
        dsimp only at h ⊢
        cases e3 : supsN f g l with
        | none => rw [ih e3]; rfl
        | some ls' => rw [e3] at h; cases h

def lines (g : List HeirT) (n : Nat) : List (List ByteArray) := (List.range n).map fun i => (lin g i).getD []
theorem lines_len (g : List HeirT) (n : Nat) : (lines g n).length = n := by simp [lines]
theorem lines_get {g : List HeirT} {n i : Nat} (h : i < n) (h' : i < (lines g n).length) : (lines g n)[i] = (lin g i).getD [] := by simp [lines]
theorem lin_ne {g : List HeirT} {i : Nat} {l : List ByteArray} (h : lin g i = some l) : l ≠ [] := by
  unfold lin at h
  simp only [linN] at h
  cases e : g[i]? with
  | none => rw [e] at h; cases h
  | some x =>
    rw [e] at h
    dsimp only at h
    cases e2 : supsN (linN i g) g x.2 with
    | none => rw [e2] at h; cases h
    | some ls =>
      rw [e2] at h
      dsimp only at h
      cases e3 : mergeX (ls ++ [x.2]) with
      | none => rw [e3] at h; cases h
      | some o => rw [e3] at h; cases h; simp
theorem lines_none {g : List HeirT} {i : Nat} : ((lin g i).getD []).length = 0 ↔ lin g i = none := by
  cases e : lin g i with
  | none => simp
  | some l => simp [lin_ne e]

/-- the precedence lists, and whether there are any -/
def listsB (g : List HeirT) (i : Nat) : List (List ByteArray) × Bool := match listsX g i with
  | some ls => (ls, true)
  | none => ([], false)

theorem refListsL_spec (g : List HeirT) (hg : Heirs g) (i : Nat) (hi : i < g.length) (n : Nat) (hin : i ≤ n) (hn : n ≤ g.length) : FnP PP 71 [HS g, LLS (lines g n), .int .i64 i] (.tup [LLS (listsB g i).1, .bool (listsB g i).2]) := by
  refine Fn_end (Fn_of_T GT_ok Go.Proofs.Try.func71 rfl (by rfl) (by rfl) ?_)
  have hll := lines_len g n
  have hgl := hg.len
  have hfew := hg.few i hi
  have hX : listsX g i = (supsN (lin g) g g[i].2).map (· ++ [g[i].2]) := by unfold listsX; rw [List.getElem?_eq_getElem hi]
  refine go ?_; intros
  refine stop (T_nilrow 8 1 24 rfl fun gq hgq => ?_)
  let st : List (List ByteArray) → Store := fun o => upd E gq (.row o.length 1 24 (o.map eL))
  have hS : ∀ o, st o gq = some (.row o.length 1 24 (o.map eL)) := fun o => upd_same _ _ _
  refine T_loop (α := Nat × List (List ByteArray)) (inv := fun x => x.1 ≤ g[i].2.length ∧ x.2.length = x.1 ∧ supsN (lin g) g (g[i].2.take x.1) = some x.2)
    (tm := fun x => mkT 49 [(0, HS g), (1, LLS (lines g n)), (2, .int .i64 i), (8, .row gq x.2.length 0 x.2.length 1), (9, .int .i64 x.1)]) (st := fun x => st x.2) (μ := fun x => g[i].2.length - x.1)
    (0, []) ⟨by simp, rfl, rfl⟩ ?_ (sle_refl _) ?_
  · repeat' (first | exact trivial | exact rfl | refine And.intro ?_ ?_)
  rintro ⟨k, o⟩ ⟨hk, hok, hsup⟩
  dsimp only at hk hok hsup ⊢
  have hSo := hS o
  refine go ?_; intros
  refine ifD (fun hc => ?_) (fun hc => ?_)
  · have hkl : k < g[i].2.length := by simpa using hc
    obtain ⟨p, hp, hps⟩ := hg.sup i hi _ (List.getElem_mem hkl)
    have hpg : p < g.length := by omega
    have hat : atI g g[i].2[k] = some p := by rw [← hps]; exact hg.at hpg
    have hix : idxF (isH g[i].2[k]) g = (p : Int) := by rw [idxH_at hg, hat]
    have hpl : p < (lines g n).length := by omega
    have hlp := lines_get (g := g) (show p < n by omega) hpl
    have hsn := supsN_snoc hat hsup
    rw [← List.take_succ_eq_append_getElem hkl] at hsn
    refine go ?_; intros
    rw [hix]
    refine go ?_; intros
    rw [hlp]
    refine ifD (fun hc => ?_) (fun hc => ?_)
    · have hno : lin g p = none := lines_none.1 (by simpa using hc)
      refine go ?_; intros
      refine ⟨_, sle_refl _, OView.weak (sle_E _) (OView.nilv nil_tup2L (OView.same ⟨?_, rfl⟩))⟩
      have : supsN (lin g) g g[i].2 = none := by
        rw [← List.take_append_drop (k + 1) g[i].2]
        exact supsN_none (by rw [hsn, hno]; rfl)
      unfold listsB; rw [hX, this]; rfl
    · have hyes : lin g p ≠ none := fun h => hc (by simpa using lines_none.2 h)
      cases hx : lin g p with
      | none => exact absurd hx hyes
      | some x =>
        rw [hx] at hsn
        simp only [Option.getD_some]
        refine go ?_; intros
        refine ⟨(k + 1, o ++ [x]), ⟨by dsimp only; omega, by dsimp only; rw [List.length_append, hok]; rfl, hsn⟩, by dsimp only; omega, ?_, ?_⟩
        · repeat' (first | exact trivial | exact rfl | refine And.intro ?_ ?_)
          simp
        · simp only [st]; rw [upd_upd, List.map_append, List.length_append]; exact sle_refl _
  · have hkl : ¬ k < g[i].2.length := by simpa using hc
    rw [List.take_of_length_le (by omega)] at hsup
    refine go ?_; intros
    refine ⟨_, sle_refl _, OView.freeze (upd_same _ _ _) (fz_tup2 (by simp)) (OView.weak (sle_E _) (OView.same ⟨?_, rfl⟩))⟩
    unfold listsB; rw [hX, hsup]; simp

theorem sle_del {S : Store} {g : Nat} {x : AO} (hg : S g = none) : sle (del (upd S g x) g) S := fun h y hy => by
  have e : h ≠ g := by rintro rfl; rw [hg] at hy; cases hy
  unfold del; rw [if_neg e, upd_ne e]; exact hy

/-- the same, where the lines still grow -/
theorem refListsR_spec (g : List HeirT) (hg : Heirs g) (i : Nat) (hi : i < g.length) (gl : Nat) : Fn PP 71 [HS g, .row gl i 0 i 1, .int .i64 i] (upd E gl (.row i 1 24 ((lines g i).map eL)))
    (fun o S' => o = .ret (.tup [LLS (listsB g i).1, .bool (listsB g i).2]) ∧ S' = upd E gl (.row i 1 24 ((lines g i).map eL))) := by
  refine Fn_end (Fn_of_T GT_ok Go.Proofs.Try.func71 rfl (by rfl) (by rfl) ?_)
  have hll := lines_len g i
  have hgl := hg.len
  have hfew := hg.few i hi
  have hX : listsX g i = (supsN (lin g) g g[i].2).map (· ++ [g[i].2]) := by unfold listsX; rw [List.getElem?_eq_getElem hi]
  refine go ?_; intros
  refine stop (T_nilrow 8 1 24 rfl fun gq hgq => ?_)
  have hne : gl ≠ gq := Ne.symm (ne_name (upd_same _ _ _) hgq)
  let st : List (List ByteArray) → Store := fun o => upd (upd E gl (.row i 1 24 ((lines g i).map eL))) gq (.row o.length 1 24 (o.map eL))
  have hS : ∀ o, st o gq = some (.row o.length 1 24 (o.map eL)) := fun o => upd_same _ _ _
  refine T_loop (α := Nat × List (List ByteArray)) (inv := fun x => x.1 ≤ g[i].2.length ∧ x.2.length = x.1 ∧ supsN (lin g) g (g[i].2.take x.1) = some x.2)
    (tm := fun x => mkT 49 [(0, HS g), (1, .row gl i 0 i 1), (2, .int .i64 i), (8, .row gq x.2.length 0 x.2.length 1), (9, .int .i64 x.1)]) (st := fun x => st x.2) (μ := fun x => g[i].2.length - x.1)
    (0, []) ⟨by simp, rfl, rfl⟩ ?_ (sle_refl _) ?_
  · repeat' (first | exact trivial | exact rfl | refine And.intro ?_ ?_)
  rintro ⟨k, o⟩ ⟨hk, hok, hsup⟩
  dsimp only at hk hok hsup ⊢
  have hSo := hS o
  have hLo : st o gl = some (.row i 1 24 ((lines g i).map eL)) := by simp only [st]; rw [upd_ne hne, upd_same]
  refine go ?_; intros
  refine ifD (fun hc => ?_) (fun hc => ?_)
  · have hkl : k < g[i].2.length := by simpa using hc
    obtain ⟨p, hp, hps⟩ := hg.sup i hi _ (List.getElem_mem hkl)
    have hpg : p < g.length := by omega
    have hat : atI g g[i].2[k] = some p := by rw [← hps]; exact hg.at hpg
    have hix : idxF (isH g[i].2[k]) g = (p : Int) := by rw [idxH_at hg, hat]
    have hpl : p < (lines g i).length := by omega
    have hlp := lines_get (g := g) hp hpl
    have hsn := supsN_snoc hat hsup
    rw [← List.take_succ_eq_append_getElem hkl] at hsn
    refine go ?_; intros
    rw [hix]
    refine rowI p rfl hp ?_
    refine go ?_; intros
    rw [hlp]
    refine ifD (fun hc => ?_) (fun hc => ?_)
    · have hno : lin g p = none := lines_none.1 (by simpa using hc)
      refine go ?_; intros
      refine ⟨_, sle_refl _, OView.weak (sle_upd hgq) (OView.nilv nil_tup2L (OView.same ⟨?_, rfl⟩))⟩
      have : supsN (lin g) g g[i].2 = none := by
        rw [← List.take_append_drop (k + 1) g[i].2]
        exact supsN_none (by rw [hsn, hno]; rfl)
      unfold listsB; rw [hX, this]; rfl
    · have hyes : lin g p ≠ none := fun h => hc (by simpa using lines_none.2 h)
      cases hx : lin g p with
      | none => exact absurd hx hyes
      | some x =>
        rw [hx] at hsn
        simp only [Option.getD_some]
        refine go ?_; intros
        refine ⟨(k + 1, o ++ [x]), ⟨by dsimp only; omega, by dsimp only; rw [List.length_append, hok]; rfl, hsn⟩, by dsimp only; omega, ?_, ?_⟩
        · repeat' (first | exact trivial | exact rfl | refine And.intro ?_ ?_)
          simp
        · simp only [st]; rw [upd_upd, List.map_append, List.length_append]; exact sle_refl _
  · have hkl : ¬ k < g[i].2.length := by simpa using hc
    rw [List.take_of_length_le (by omega)] at hsup
    refine go ?_; intros
    refine ⟨_, sle_refl _, OView.freeze (upd_same _ _ _) (fz_tup2 (by simp)) (OView.weak (S' := upd E gl (.row i 1 24 ((lines g i).map eL))) (by simp only [st]; rw [upd_upd]; exact sle_del hgq) (OView.same ⟨?_, rfl⟩))⟩
    unfold listsB; rw [hX, hsup]; simp

end Go.Proofs.Ytohldellkddmoaa.L

namespace Go.Proofs.Ytohldellkddmoaa.L
open Go
set_option linter.unusedSimpArgs false
set_option linter.unnecessarySimpa false
set_option linter.unusedVariables false
attribute [local irreducible] T TL
set_option maxRecDepth 10000

theorem lists_law {g : List HeirT} (hg : Heirs g) {i : Nat} (hi : i < g.length) {ls : List (List ByteArray)} (h : listsX g i = some ls) : lawL ls = false := by
  unfold listsX at h
  rw [List.getElem?_eq_getElem hi] at h
  dsimp only at h
  cases e : supsN (lin g) g g[i].2 with
  | none => rw [e] at h; cases h
  | some l' =>
    rw [e] at h
    simp only [Option.map_some, Option.some.injEq] at h
    subst h
    obtain ⟨h1, h2⟩ := supsN_mem e
    have hf := hg.few i hi
    unfold lawL
    rw [Bool.or_eq_false_iff]
    refine ⟨by simp; omega, List.any_eq_false.2 fun x hx => ?_⟩
    rcases List.mem_append.1 hx with hx | hx
    · obtain ⟨s, hs, k, hk, hlk⟩ := h2 x hx
      obtain ⟨hkl, _⟩ := atI_lt hk
      obtain ⟨t, _, hnd, _⟩ := lin_names hg k hkl x hlk
      have := lin_len hg hkl hlk
      simp [hnd]; omega
    · rw [List.mem_singleton.1 hx]
      have := hg.dist i hi
      simp [this]; omega

theorem lin_lists {g : List HeirT} (hg : Heirs g) {i : Nat} (hi : i < g.length) : lin g i = match listsX g i with
    | none => none
    | some ls => (mergeX ls).map (g[i].1 :: ·) := by
  rw [lin_eq hg hi]
  unfold listsX
  rw [List.getElem?_eq_getElem hi]
  dsimp only
  cases supsN (lin g) g g[i].2 <;> rfl

theorem lines_succ (g : List HeirT) (i : Nat) : lines g (i + 1) = lines g i ++ [(lin g i).getD []] := by
  simp [lines, List.range_succ]

theorem refListsR' (g : List HeirT) (hg : Heirs g) (i : Nat) (hi : i < g.length) (gl : Nat) : Fn PP 71 [HS g, .row gl (lines g i).length 0 (lines g i).length 1, .int .i64 i] (upd E gl (.row (lines g i).length 1 24 ((lines g i).map eL)))
    (fun o S' => o = .ret (.tup [LLS (listsB g i).1, .bool (listsB g i).2]) ∧ S' = upd E gl (.row (lines g i).length 1 24 ((lines g i).map eL))) := by
  have h := refListsR_spec g hg i hi gl
  rw [lines_len]; exact h

theorem linear_spec (g : List HeirT) (hg : Heirs g) (n : Nat) (hn : n ≤ g.length) (z : Int) (hz : z = (n : Int) - 1) : FnP PP 55 [HS g, .int .i64 z] (LLS (lines g n)) := by
  refine Fn_end (Fn_of_T GT_ok Go.Proofs.Try.func55 rfl (by rfl) (by rfl) ?_)
  have hgl := hg.len
  refine go ?_; intros
  refine stop (T_nilrow 5 1 24 rfl fun gq hgq => ?_)
  let st : List (List ByteArray) → Store := fun o => upd E gq (.row o.length 1 24 (o.map eL))
  have hS : ∀ o, st o gq = some (.row o.length 1 24 (o.map eL)) := fun o => upd_same _ _ _
  refine T_loop (α := Nat) (inv := fun i => i ≤ n)
    (tm := fun i => mkT 44 [(0, HS g), (1, .int .i64 z), (5, .row gq (lines g i).length 0 (lines g i).length 1), (6, .int .i64 i)]) (st := fun i => st (lines g i)) (μ := fun i => n - i)
    0 (by omega) ?_ (sle_refl _) ?_
  · repeat' (first | exact trivial | exact rfl | refine And.intro ?_ ?_)
  intro i hin
  have hSo := hS (lines g i)
  have hll := lines_len g i
  refine go ?_; intros
  refine ifD (fun hc => ?_) (fun hc => ?_)
  · have hi : i < g.length := by omega
    have hll1 := lines_len g (i + 1)
    have hll2 := lines_succ g i
    have hfin : ∀ x, x = (lin g i).getD [] → sle (upd (st (lines g i)) gq (.row ((lines g i).length + 1) 1 24 ((lines g i).map eL ++ [eL x]))) (st (lines g (i + 1))) := fun x hx => by
      subst hx
      simp only [st]
      rw [upd_upd, hll2, List.map_append, List.length_append]; exact sle_refl _
    refine go ?_; intros
    refine callW_same (S1 := st (lines g i)) (refListsR' g hg i hi gq) (sle_refl _) ?_
    refine go ?_; intros
    refine And.intro (fun hb => ?_) (fun hb => ?_)
    · cases hX : listsX g i with
      | none => simp [listsB, hX] at hb
      | some ls =>
        have hlaw := lists_law hg hi hX
        have hB : (listsB g i).1 = ls := by simp [listsB, hX]
        have hP : mergeP ls = match mergeX ls with | some out => (out, true) | none => ([], false) := by unfold mergeP; rw [if_neg (by simp [hlaw])] <;> cases mergeX ls <;> rfl
        have hlin := lin_lists hg hi
        rw [hX] at hlin
        dsimp only at hlin
        rw [hB]
        refine go ?_; intros
        refine And.intro (fun hm => ?_) (fun hm => ?_)
        · cases hmx : mergeX ls with
          | none => rw [hP, hmx] at hm; cases hm
          | some out =>
            rw [hmx] at hP hlin
            dsimp only at hP
            simp only [hP]
            have hlen := lin_len hg hi hlin
            simp only [Option.map_some, List.length_cons] at hlen
            refine goS ?_; intros
            refine W_ok GT_ok (goS ?_); intros
            refine .inr (newW_intro fun gr hgr => ?_)
            have hne : gq ≠ gr := Ne.symm (ne_name hSo hgr)
            refine goS ?_; intros
            refine And.intro (show (1 + (out.map eS).length) * 16 ≤ 140737488355328 by rw [List.length_map]; omega) ?_
            rw [upd_upd]
            refine goS ?_; intros
            refine T_view (View.trans (View_slot (d := 9) (q := LS (g[i].1 :: out)) (upd_same _ _ _) (fz_row (by simp; omega))) (View.weak (tle_refl _) (sle_del hgr))) ?_
            refine go ?_; intros
            refine ⟨i + 1, by omega, by omega, ?_, hfin (g[i].1 :: out) (by rw [hlin]; rfl)⟩
            repeat' (first | exact trivial | exact rfl | refine And.intro ?_ ?_)
            rw [hll1, hll]; simp
        · cases hmx : mergeX ls with
          | some out => rw [hP, hmx] at hm; cases hm
          | none =>
            rw [hmx] at hlin
            refine goS ?_; intros
            refine T_view (View_nils (d := 9) (e := 16) rfl) ?_
            refine go ?_; intros
            refine ⟨i + 1, by omega, by omega, ?_, hfin [] (by rw [hlin]; rfl)⟩
            repeat' (first | exact trivial | exact rfl | refine And.intro ?_ ?_)
            rw [hll1, hll]; simp
    · have hX : listsX g i = none := by cases e : listsX g i with
        | none => rfl
        | some ls => simp [listsB, e] at hb
      have hlin : lin g i = none := by rw [lin_lists hg hi, hX]
      refine goS ?_; intros
      refine T_view (View_nils (d := 9) (e := 16) rfl) ?_
      refine go ?_; intros
      refine ⟨i + 1, by omega, by omega, ?_, hfin [] (by rw [hlin]; rfl)⟩
      repeat' (first | exact trivial | exact rfl | refine And.intro ?_ ?_)
      rw [hll1, hll]; simp
  · have e : i = n := by omega
    subst e
    refine go ?_; intros
    refine ⟨_, sle_refl _, OView.freeze hSo (fz_row (by simp)) (OView.weak (sle_E _) (OView.same ⟨rfl, rfl⟩))⟩

end Go.Proofs.Ytohldellkddmoaa.L

namespace Go.Proofs.Ytohldellkddmoaa.L
open Go
set_option linter.unusedSimpArgs false
set_option linter.unnecessarySimpa false
set_option linter.unusedVariables false
attribute [local irreducible] T TL
set_option maxRecDepth 10000

theorem refLinz_spec (g : List HeirT) (name : ByteArray) : FnP PP 18 [HS g, .str name] (.tup [LS (linzP g name).1, .int .i64 (linzP g name).2]) := by
  refine Fn_end (Fn_of_T GT_ok Go.Proofs.Try.func18 rfl (by rfl) (by rfl) ?_)
  refine go ?_; intros
  refine ifN (fun hc => ?_) (fun hc => ?_)
  · refine go ?_; intros
    refine ⟨E, sle_refl _, OView.nilv nil_tup2 (OView.same ⟨?_, rfl⟩)⟩
    unfold linzP
    by_cases hn : checkV g ≠ 0
    · simp [haveV, hn]
    · rw [if_neg hn]
      cases e : atI g name with
      | none => simp at hn; simp [haveV, hn, e]
      | some k => simp at hn; simp [haveV, hn, e] at hc
  · have hn : checkV g = 0 := Classical.byContradiction fun h => by simp [haveV, h] at hc
    have hg := heirs_of hn
    cases hat : atI g name with
    | none => simp [haveV, hn, hat] at hc
    | some i =>
    obtain ⟨hi, hnm⟩ := atI_lt hat
    have hix : idxF (isH name) g = (i : Int) := by rw [idxH_at hg, hat]
    have hlin := linear_spec g hg (i + 1) (by omega) i (by omega)
    have hll := lines_len g (i + 1)
    have hil : i < (lines g (i + 1)).length := by omega
    have hli := lines_get (g := g) (show i < i + 1 by omega) hil
    refine go ?_; intros
    rw [hix]
    refine callW_pure hlin ?_
    refine go ?_; intros
    rw [hli]
    refine ifD (fun hc => ?_) (fun hc => ?_)
    · have hno : lin g i = none := lines_none.1 (by simpa using hc)
      refine go ?_; intros
      refine ⟨_, sle_refl _, OView.nilv nil_tup2 (OView.same ⟨?_, rfl⟩)⟩
      unfold linzP; simp [hn, hat, hno]
    · cases hx : lin g i with
      | none => exact absurd (by simpa using lines_none.2 hx) hc
      | some l =>
      refine go ?_; intros
      refine ⟨_, sle_refl _, OView.same ⟨?_, rfl⟩⟩
      unfold linzP; simp [hn, hat, hx, hli]
instance (priority := 2000) (g : List HeirT) (name : ByteArray) : Spec 18 [HS g, .str name] (.tup [LS (linzP g name).1, .int .i64 (linzP g name).2]) := ⟨refLinz_spec g name⟩

theorem refVerify_spec (g : List HeirT) (name : ByteArray) (l : List ByteArray) : FnP PP 42 [HS g, .str name, LS l] (.int .i64 (verV g name l)) := by
  refine Fn_of_T GT_ok Go.Proofs.Try.func42 rfl (by rfl) (by rfl) ?_
  refine go ?_; intros
  refine ifN (fun hc => ?_) (fun hc => ?_)
  · refine go ?_; intros
    refine ⟨E, sle_refl _, ?_, rfl⟩
    unfold verV; rw [if_neg (by simp [hc])]
  · refine go ?_; intros
    refine ifN (fun h2 => ?_) (fun h2 => ?_)
    · refine go ?_; intros
      refine ⟨E, sle_refl _, ?_, rfl⟩
      unfold verV; rw [if_pos ⟨hc, h2⟩]
    · refine go ?_; intros
      refine ⟨E, sle_refl _, ?_, rfl⟩
      unfold verV; rw [if_neg (by simp [h2]), hc]
instance (g : List HeirT) (name : ByteArray) (l : List ByteArray) : Spec 42 [HS g, .str name, LS l] (.int .i64 (verV g name l)) := ⟨refVerify_spec g name l⟩

def precP (g : List HeirT) (name a b : ByteArray) : Bool × Int :=
  if (linzP g name).2 ≠ 0 then (false, (linzP g name).2) else
  if idxF (eqB a) (linzP g name).1 < 0 ∨ idxF (eqB b) (linzP g name).1 < 0 then (false, 1) else
  (decide (idxF (eqB a) (linzP g name).1 < idxF (eqB b) (linzP g name).1), 0)
theorem precV_eq (g : List HeirT) (name a b : ByteArray) : precV g name a b = .tup [.bool (precP g name a b).1, .int .i64 (precP g name a b).2] := by
  unfold precV precP
  split
  · rfl
  · split <;> rfl
instance (priority := 2000) (g : List HeirT) (name a b : ByteArray) : Spec 37 [HS g, .str name, .str a, .str b] (.tup [.bool (precP g name a b).1, .int .i64 (precP g name a b).2]) := ⟨precV_eq g name a b ▸ precedes_spec g name a b⟩

theorem refPrec_spec (g : List HeirT) (name a b : ByteArray) : FnP PP 38 [HS g, .agg [.str name, .str a, .str b]] (.tup [.bool (precP g name a b).1, .int .i64 (precP g name a b).2]) := by
  refine Fn_of_T GT_ok Go.Proofs.Try.func38 rfl (by rfl) (by rfl) ?_
  refine go ?_; intros
  refine newW_intro fun q hq => ?_
  refine go ?_; intros
  refine ifN (fun hc => ?_) (fun hc => ?_)
  · refine go ?_; intros
    refine ⟨E, sle_E _, ?_, rfl⟩
    simp [precP, hc]
  · refine go ?_; intros
    refine ifF (fun hc => ?_) (fun hc => ?_)
    · have h1 := hc
      refine go ?_; intros
      refine ifD (fun hc => ?_) (fun hc => ?_)
      · refine go ?_; intros
        refine ⟨E, sle_E _, ?_, rfl⟩
        unfold precP; rw [if_neg (by simp [*]), if_pos (.inr hc)]
      · refine go ?_; intros
        refine ⟨E, sle_E _, ?_, rfl⟩
        unfold precP; rw [if_neg (by simp [*]), if_neg (by omega)]
    · refine go ?_; intros
      refine ⟨E, sle_E _, ?_, rfl⟩
      unfold precP; rw [if_neg (by simp [*]), if_pos (.inl hc)]
instance (g : List HeirT) (name a b : ByteArray) : Spec 38 [HS g, .agg [.str name, .str a, .str b]] (.tup [.bool (precP g name a b).1, .int .i64 (precP g name a b).2]) := ⟨refPrec_spec g name a b⟩

theorem refListsT_spec (g : List HeirT) (name : ByteArray) : FnP PP 39 [HS g, .str name] (.tup [LLS (listsP g name).1, .int .i64 (listsP g name).2]) := by
  refine Fn_end (Fn_of_T GT_ok Go.Proofs.Try.func39 rfl (by rfl) (by rfl) ?_)
  refine go ?_; intros
  refine ifN (fun hc => ?_) (fun hc => ?_)
  · refine go ?_; intros
    refine ⟨E, sle_refl _, OView.nilv nil_tup2L (OView.same ⟨?_, rfl⟩)⟩
    unfold listsP
    by_cases hn : checkV g ≠ 0
    · simp [haveV, hn]
    · rw [if_neg hn]
      cases e : atI g name with
      | none => simp at hn; simp [haveV, hn, e]
      | some k => simp at hn; simp [haveV, hn, e] at hc
  · have hn : checkV g = 0 := Classical.byContradiction fun h => by simp [haveV, h] at hc
    have hg := heirs_of hn
    cases hat : atI g name with
    | none => simp [haveV, hn, hat] at hc
    | some i =>
    obtain ⟨hi, hnm⟩ := atI_lt hat
    have hix : idxF (isH name) g = (i : Int) := by rw [idxH_at hg, hat]
    have hlin := linear_spec g hg (i + 1) (by omega) i (by omega)
    have hls := refListsL_spec g hg i hi (i + 1) (by omega) (by omega)
    refine go ?_; intros
    rw [hix]
    refine callW_pure hlin ?_
    refine go ?_; intros
    refine callW_pure hls ?_
    refine go ?_; intros
    refine And.intro (fun hb => ?_) (fun hb => ?_)
    · have hX : listsX g i = none := by
        cases e : listsX g i with
        | none => rfl
        | some ls => simp [listsB, e] at hb
      refine go ?_; intros
      refine ⟨_, sle_refl _, OView.nilv nil_tup2L (OView.same ⟨?_, rfl⟩)⟩
      unfold listsP; simp [hn, hat, hX]
    · cases hX : listsX g i with
      | none => simp [listsB, hX] at hb
      | some ls =>
      refine go ?_; intros
      refine ⟨_, sle_refl _, OView.same ⟨?_, rfl⟩⟩
      unfold listsP; simp [hn, hat, hX, listsB]
instance (priority := 2000) (g : List HeirT) (name : ByteArray) : Spec 39 [HS g, .str name] (.tup [LLS (listsP g name).1, .int .i64 (listsP g name).2]) := ⟨refListsT_spec g name⟩

def cycE (g : List HeirT) (name : ByteArray) : Int := if (listsP g name).2 ≠ 0 then (listsP g name).2 else if (linzP g name).2 = 0 then 3 else 0
theorem cycleError_spec (g : List HeirT) (name : ByteArray) : FnP PP 40 [HS g, .str name] (.int .i64 (cycE g name)) := by
  refine Fn_of_T GT_ok Go.Proofs.Try.func40 rfl (by rfl) (by rfl) ?_
  refine go ?_; intros
  refine ifN (fun hc => ?_) (fun hc => ?_)
  · refine go ?_; intros
    refine ⟨E, sle_refl _, ?_, rfl⟩
    simp [cycE, hc]
  · refine go ?_; intros
    refine ifD (fun hc => ?_) (fun hc => ?_)
    · refine go ?_; intros
      refine ⟨E, sle_refl _, ?_, rfl⟩
      simp [cycE, *]
    · refine go ?_; intros
      refine ⟨E, sle_refl _, ?_, rfl⟩
      simp [cycE, *]
instance (g : List HeirT) (name : ByteArray) : Spec 40 [HS g, .str name] (.int .i64 (cycE g name)) := ⟨cycleError_spec g name⟩

def allP (g : List HeirT) : List (List ByteArray) × Nat × Int :=
  if checkV g ≠ 0 then ([], 0, checkV g) else
  match (List.range g.length).find? (fun i => (lin g i).isNone) with
  | some i => ([], i, 71)
  | none => (lines g g.length, 0, 0)
theorem allV_eq (g : List HeirT) : allV g = .tup [LLS (allP g).1, .int .i64 ((allP g).2.1 : Nat), .int .i64 (allP g).2.2] := by
  unfold allV allP
  split
  · rfl
  · cases e : (List.range g.length).find? (fun i => (lin g i).isNone) with
    | some i => rfl
    | none =>
      dsimp only
      have : (List.range g.length).filterMap (lin g) = lines g g.length := by
        rw [List.find?_eq_none] at e
        unfold lines
        generalize List.range g.length = r at e
        induction r with
        | nil => rfl
        | cons a r ih =>
          have h1 := e a (by simp)
          cases h2 : lin g a with
          | none => simp [h2] at h1
          | some x =>
            rw [List.filterMap_cons, h2, List.map_cons, h2, ih fun y hy => e y (by simp [hy])]; rfl
      rw [this]; rfl
instance (priority := 2000) (g : List HeirT) : Spec 19 [HS g] (.tup [LLS (allP g).1, .int .i64 ((allP g).2.1 : Nat), .int .i64 (allP g).2.2]) := ⟨allV_eq g ▸ all_spec g⟩

theorem nil_agg3 {p q : PV} : NilV (.agg [.nils, p, q]) (.agg [LLS [], p, q]) := .agg _ _ rfl fun i h1 h2 => by
  match i, h1 with
  | 0, _ => exact .nils 24
  | 1, _ => exact .same _
  | 2, _ => exact .same _
theorem refAll_spec (g : List HeirT) : FnP PP 20 [HS g] (.agg [LLS (allP g).1, .int .i64 ((allP g).2.1 : Nat), .int .i64 (allP g).2.2]) := by
  refine Fn_end (Fn_of_T GT_ok Go.Proofs.Try.func20 rfl (by rfl) (by rfl) ?_)
  refine go ?_; intros
  refine newW_intro fun q hq => ?_
  refine go ?_; intros
  refine ifN (fun hc => ?_) (fun hc => ?_)
  · refine go ?_; intros
    refine ⟨_, sle_E _, OView.nilv nil_agg3 (OView.same ⟨?_, rfl⟩)⟩
    unfold allP; rw [if_pos hc]; rfl
  · have hg := heirs_of hc
    have hgl := hg.len
    have hlin := linear_spec g hg g.length (by omega)
    have hll := lines_len g g.length
    refine go ?_; intros
    refine callW_pure (hlin _ (by rw [List.length_map])) ?_
    refine go ?_; intros
    refine stop (T_loop (α := Nat) (inv := fun j => j ≤ g.length ∧ ∀ i (_ : i < j), lin g i ≠ none)
      (tm := fun j => mkT 33 [(2, .ptr q 0 0 0 3), (4, LLS (lines g g.length)), (5, .int .i64 j)]) (st := fun _ => upd E q (.row 0 3 0 [[.nils, .int .i64 0, .int .i64 0]])) (μ := fun j => g.length - j) 0 ⟨by omega, fun i h => by omega⟩ ?_ (sle_refl _) ?_)
    · repeat' (first | exact trivial | exact rfl | refine And.intro ?_ ?_)
    rintro j ⟨hj, hpre⟩
    refine go ?_; intros
    refine ifD (fun hc => ?_) (fun hc => ?_)
    · have hjl : j < (lines g g.length).length := by simpa using hc
      have hjg : j < g.length := by omega
      have hlj := lines_get (g := g) hjg hjl
      refine go ?_; intros
      rw [hlj]
      refine ifD (fun hc => ?_) (fun hc => ?_)
      · have hno : lin g j = none := lines_none.1 (by simpa using hc)
        refine go ?_; intros
        refine ⟨_, sle_E _, OView.nilv nil_agg3 (OView.same ⟨?_, rfl⟩)⟩
        have : (List.range g.length).find? (fun i => (lin g i).isNone) = some j := by
          have h1 : j < (List.range g.length).length := by simpa using hjg
          have := find_at (p := fun i => (lin g i).isNone) h1 (by simp [hno]) (fun i hi h' => by
            have := hpre i hi
            cases e : lin g i with
            | none => exact absurd e this
            | some x => simp [e])
          simpa using this
        unfold allP; rw [if_neg (by simp [*]), this]
      · refine go ?_; intros
        refine ⟨j + 1, ⟨by omega, fun i hi => ?_⟩, by omega, by repeat' (first | exact trivial | exact rfl | refine And.intro ?_ ?_), sle_refl _⟩
        by_cases e : i = j
        · subst e; exact fun h => hc (by simpa using lines_none.2 h)
        · exact hpre i (by omega)
    · have hjl : ¬ j < (lines g g.length).length := by simpa using hc
      refine go ?_; intros
      refine ⟨_, sle_E _, OView.same ⟨?_, rfl⟩⟩
      have : (List.range g.length).find? (fun i => (lin g i).isNone) = none := by
        rw [List.find?_eq_none]
        intro i hi
        have := hpre i (by have := List.mem_range.1 hi; omega)
        cases e : lin g i with
        | none => exact absurd e this
        | some x => simp
      unfold allP; rw [if_neg (by simp [*]), this]; rfl
instance (priority := 2000) (g : List HeirT) : Spec 20 [HS g] (.agg [LLS (allP g).1, .int .i64 ((allP g).2.1 : Nat), .int .i64 (allP g).2.2]) := ⟨refAll_spec g⟩

end Go.Proofs.Ytohldellkddmoaa.L

namespace Go.Proofs.Ytohldellkddmoaa.L
open Go
set_option linter.unusedSimpArgs false
set_option linter.unnecessarySimpa false
set_option linter.unusedVariables false
attribute [local irreducible] T TL
set_option maxRecDepth 10000

theorem tmod_two (a : Int) : (a.tmod 2 < 0 → a.tmod 2 + 2 = a % 2) ∧ (¬ a.tmod 2 < 0 → a.tmod 2 = a % 2) ∧ -1 ≤ a.tmod 2 ∧ a.tmod 2 ≤ 1 := by
  have h := Int.tmod_eq_emod (a := a) (b := 2)
  split at h <;> refine ⟨fun _ => ?_, fun _ => ?_, ?_, ?_⟩ <;> omega

theorem mod2_spec (a : Int) : FnP PP 30 [.int .i64 a, .int .i64 2] (.int .i64 (a % 2)) := by
  refine Fn_of_T GT_ok Go.Proofs.Try.func30 rfl (by rfl) (by rfl) ?_
  obtain ⟨h1, h2, h3, h4⟩ := tmod_two a
  refine go ?_; intros
  refine ifD (fun hc => ?_) (fun hc => ?_)
  · refine go ?_; intros
    refine ⟨E, sle_E _, ?_, rfl⟩
    rw [h1 hc]
  · refine go ?_; intros
    refine ⟨E, sle_E _, ?_, rfl⟩
    rw [h2 hc]
instance (a : Int) : Spec 30 [.int .i64 a, .int .i64 2] (.int .i64 (a % 2)) := ⟨mod2_spec a⟩

theorem subseq_spec (a b : List ByteArray) : FnP PP 25 [LS a, LS b] (.bool (decide (a.Sublist b))) := by
  refine Fn_of_T GT_ok Go.Proofs.Try.func25 rfl (by rfl) (by rfl) ?_
  refine T_fact (list_bound (d := 0) rfl) fun hlen => ?_
  refine T_fact (list_bound (d := 1) rfl) fun hlen2 => ?_
  rw [List.length_map] at hlen hlen2
  refine go ?_; intros
  refine stop (T_loop (α := Nat × Nat) (inv := fun x => x.1 ≤ b.length ∧ x.2 ≤ a.length ∧ (a.Sublist b ↔ (a.drop x.2).Sublist (b.drop x.1)))
    (tm := fun x => mkT 34 [(0, LS a), (1, LS b), (5, .int .i64 x.2), (6, .int .i64 x.1)]) (st := fun _ => E) (μ := fun x => b.length - x.1) (0, 0) ⟨by simp, by simp, by simp⟩ ?_ (sle_refl _) ?_)
  · repeat' (first | exact trivial | exact rfl | refine And.intro ?_ ?_)
  rintro ⟨i, k⟩ ⟨hi, hk, hs⟩
  dsimp only at hi hk hs ⊢
  have fin : i = b.length ∨ k = a.length → (Out.ret (.bool (decide ((k : Int) = (a.map eS).length)))) = Out.ret (.bool (decide (a.Sublist b))) := fun h => by
    congr 2
    rw [decide_eq_decide, hs, List.length_map]
    rcases h with h | h
    · subst h
      rw [List.drop_length, List.sublist_nil, List.drop_eq_nil_iff]
      omega
    · subst h
      rw [List.drop_length]
      simp
  refine go ?_; intros
  refine ifD (fun hc => ?_) (fun hc => ?_)
  · have hib : i < b.length := by simpa using hc
    refine go ?_; intros
    refine ifD (fun hc => ?_) (fun hc => ?_)
    · have hka : k < a.length := by simpa using hc
      refine go ?_; intros
      refine stop (T_drawW GT_ok (by rfl) 9 (by decide) ?_)
      refine go ?_; intros
      have ea := List.drop_eq_getElem_cons hka
      have eb := List.drop_eq_getElem_cons hib
      refine ifD (fun hc => ?_) (fun hc => ?_)
      · refine go ?_; intros
        refine ⟨(i + 1, k + 1), ⟨by dsimp only; omega, by dsimp only; omega, ?_⟩, by dsimp only; omega, by repeat' (first | exact trivial | exact rfl | refine And.intro ?_ ?_), sle_refl _⟩
        dsimp only
        rw [hs, ea, eb, hc, List.cons_sublist_cons]
      · refine go ?_; intros
        refine ⟨(i + 1, k), ⟨by dsimp only; omega, by dsimp only; omega, ?_⟩, by dsimp only; omega, by repeat' (first | exact trivial | exact rfl | refine And.intro ?_ ?_), sle_refl _⟩
        dsimp only
        rw [hs, eb, List.sublist_cons_iff]
        refine ⟨fun h => ?_, .inl⟩
        rcases h with h | ⟨r, h, _⟩
        · exact h
        · rw [ea] at h
          injection h with h1 h2
          exact absurd h1.symm hc
    · have hka : k = a.length := by simp at hc; omega
      refine go ?_; intros
      exact ⟨E, sle_E _, fin (.inr hka), rfl⟩
  · have hib : i = b.length := by simp at hc; omega
    refine go ?_; intros
    exact ⟨E, sle_E _, fin (.inl hib), rfl⟩
instance (a b : List ByteArray) : Spec 25 [LS a, LS b] (.bool (decide (a.Sublist b))) := ⟨subseq_spec a b⟩

theorem renamed_spec (l : List ByteArray) (p : ByteArray) (hb : ∀ s ∈ l, p.size + s.size ≤ cap47) : FnP PP 27 [LS l, .str p] (LS (l.map (p ++ ·))) := by
  refine Fn_end (Fn_of_T GT_ok Go.Proofs.Try.func27 rfl (by rfl) (by rfl) ?_)
  refine T_fact (list_bound (d := 0) rfl) fun hlen => ?_
  rw [List.length_map] at hlen
  refine go ?_; intros
  refine stop (T_nilrow 5 1 16 rfl fun gq hgq => ?_)
  let st : List ByteArray → Store := fun o => upd E gq (.row o.length 1 16 (o.map eS))
  have hS : ∀ o, st o gq = some (.row o.length 1 16 (o.map eS)) := fun o => upd_same _ _ _
  let o : Nat → List ByteArray := fun i => (l.take i).map (p ++ ·)
  refine T_loop (α := Nat) (inv := fun i => i ≤ l.length)
    (tm := fun i => mkT 23 [(0, LS l), (1, .str p), (5, .row gq (o i).length 0 (o i).length 1), (6, .int .i64 i)]) (st := fun i => st (o i)) (μ := fun i => l.length - i) 0 (by omega) ?_ (sle_refl _) ?_
  · repeat' (first | exact trivial | exact rfl | refine And.intro ?_ ?_)
  intro i hi
  have hSo := hS (o i)
  have hol : (o i).length = i := by simp [o]; omega
  refine go ?_; intros
  refine ifD (fun hc => ?_) (fun hc => ?_)
  · have hil : i < l.length := by simpa using hc
    have hbi := hb _ (List.getElem_mem hil)
    have ho : o (i + 1) = o i ++ [p ++ l[i]] := by simp only [o]; rw [List.take_succ_eq_append_getElem hil, List.map_append]; rfl
    refine go ?_; intros
    refine And.intro hbi ?_
    refine go ?_; intros
    refine ⟨i + 1, by omega, by omega, ?_, ?_⟩
    · repeat' (first | exact trivial | exact rfl | refine And.intro ?_ ?_)
      rw [ho]; simp
    · simp only [st]; rw [upd_upd, ho, List.map_append, List.length_append]; exact sle_refl _
  · have e : o i = l.map (p ++ ·) := by simp only [o]; rw [List.take_of_length_le (by simp at hc; omega)]
    refine go ?_; intros
    refine ⟨_, sle_refl _, OView.freeze hSo (fz_row (by simp)) (OView.weak (sle_E _) (OView.same ⟨?_, rfl⟩))⟩
    rw [← e]

theorem nodup_inj {l : List ByteArray} (h : l.Nodup) {i j : Nat} (hi : i < l.length) (hj : j < l.length) (e : l[i] = l[j]) : i = j := by
  have hp := List.pairwise_iff_getElem.1 h
  rcases Nat.lt_trichotomy i j with h1 | h1 | h1
  · exact absurd e (hp i j hi hj h1)
  · exact h1
  · exact absurd e.symm (hp j i hj hi h1)

theorem ahead_eq {a b : ByteArray} {x : List ByteArray} (hx : x.Nodup) {k : Nat} (hk : idxF (eqB a) x = (k : Int)) : aheadB a b x = decide (0 ≤ idxF (eqB b) (x.drop (k + 1))) := by
  have e1 : aheadB a b x = decide (idxF (eqB a) x < idxF (eqB b) x) := by
    unfold aheadB
    have h0 : idxF (eqB a) x ≥ 0 := by omega
    simp only [h0, decide_true, Bool.true_and]
  have e2 : (0 ≤ idxF (eqB b) (x.drop (k + 1))) ↔ b ∈ x.drop (k + 1) := by
    have h1 := idxF_any (eqB b) (x.drop (k + 1))
    have h2 := any_eqB (s := b) (l := x.drop (k + 1))
    rw [← h1] at h2
    simpa using h2
  rw [e1, decide_eq_decide, e2, hk]
  rcases idxF_cases (eqB b) x with ⟨h, hn⟩ | ⟨j, hj, h, hp, _⟩
  · refine ⟨fun h' => by omega, fun hm => ?_⟩
    obtain ⟨i, hi, e⟩ := List.getElem_of_mem (List.mem_of_mem_drop hm)
    have := hn i hi
    simp [eqB, e] at this
  · have hb : b = x[j] := by simpa [eqB] using hp
    rw [h]
    constructor
    · intro h'
      rw [hb, List.mem_iff_getElem]
      exact ⟨j - (k + 1), by rw [List.length_drop]; omega, by rw [List.getElem_drop]; congr 1; omega⟩
    · intro hm
      obtain ⟨i, hi, e⟩ := List.getElem_of_mem hm
      rw [List.getElem_drop, hb] at e
      have := nodup_inj hx _ _ e
      omega

theorem refAhead_spec (ls : List (List ByteArray)) (a b : ByteArray) (hn : ∀ x ∈ ls, x.Nodup ∧ x.length ≤ 120) : FnP PP 73 [LLS ls, .str a, .str b] (.bool (ls.any (aheadB a b))) := by
  refine Fn_of_T GT_ok Go.Proofs.Try.func73 rfl (by rfl) (by rfl) ?_
  refine T_fact (list_bound (d := 0) rfl) fun hlen => ?_
  rw [List.length_map] at hlen
  refine go ?_; intros
  refine stop (T_loop (α := Nat) (inv := fun i => i ≤ ls.length ∧ ∀ j (_ : j < i) (h : j < ls.length), aheadB a b ls[j] = false)
    (tm := fun i => mkT 35 [(0, LLS ls), (1, .str a), (2, .str b), (7, .int .i64 i)]) (st := fun _ => E) (μ := fun i => ls.length - i) 0 ⟨by omega, fun j h => by omega⟩ ?_ (sle_refl _) ?_)
  · repeat' (first | exact trivial | exact rfl | refine And.intro ?_ ?_)
  rintro i ⟨hi, hpre⟩
  have next : ∀ (h : i < ls.length), aheadB a b ls[i] = false → ∀ j (_ : j < i + 1) (h : j < ls.length), aheadB a b ls[j] = false := fun h h2 j hj h' => by
    by_cases e : j = i
    · subst e; exact h2
    · exact hpre j (by omega) h'
  refine go ?_; intros
  refine ifD (fun hc => ?_) (fun hc => ?_)
  · have hil : i < ls.length := by simpa using hc
    obtain ⟨hnd, hxl⟩ := hn _ (List.getElem_mem hil)
    refine go ?_; intros
    refine ifD (fun hc => ?_) (fun hc => ?_)
    · obtain ⟨k, hk⟩ : ∃ k : Nat, idxF (eqB a) ls[i] = (k : Int) := ⟨(idxF (eqB a) ls[i]).toNat, by omega⟩
      have hkl : k < ls[i].length := by
        rcases idxF_cases (eqB a) ls[i] with ⟨h, _⟩ | ⟨j, hj, h, _, _⟩ <;> omega
      have ha := ahead_eq (b := b) hnd hk
      refine go ?_; intros
      rw [hk]
      refine go ?_; intros
      refine ifD (fun hc => ?_) (fun hc => ?_)
      · refine go ?_; intros
        refine ⟨E, sle_E _, ?_, rfl⟩
        congr 2
        refine (List.any_eq_true.2 ⟨ls[i], List.getElem_mem hil, ?_⟩).symm
        rw [ha]; simpa using hc
      · refine go ?_; intros
        exact ⟨i + 1, ⟨by omega, next hil (by rw [ha]; simpa using hc)⟩, by omega, by repeat' (first | exact trivial | exact rfl | refine And.intro ?_ ?_), sle_refl _⟩
    · have hno : aheadB a b ls[i] = false := by
        unfold aheadB; simp; intro h; omega
      refine go ?_; intros
      exact ⟨i + 1, ⟨by omega, next hil hno⟩, by omega, by repeat' (first | exact trivial | exact rfl | refine And.intro ?_ ?_), sle_refl _⟩
  · have hge : ls.length ≤ i := by simp at hc; omega
    refine go ?_; intros
    refine ⟨E, sle_E _, ?_, rfl⟩
    congr 2
    refine (List.any_eq_false.2 fun x hx => ?_).symm
    obtain ⟨j, hj, rfl⟩ := List.getElem_of_mem hx
    rw [hpre j (by omega) hj]; simp

theorem lists_facts {g : List HeirT} {name : ByteArray} (h : (listsP g name).2 = 0) : (∀ x ∈ (listsP g name).1, x.Nodup ∧ x.length ≤ 120 ∧ ∀ a ∈ x, a ∈ g.map (·.1)) ∧ Heirs g := by
  unfold listsP at h ⊢
  by_cases hn : checkV g ≠ 0
  · rw [if_pos hn] at h; exact absurd h hn
  · rw [if_neg hn] at h ⊢
    have hg := heirs_of (by simpa using hn)
    cases hat : atI g name with
    | none => rw [hat] at h; cases h
    | some i =>
      obtain ⟨hi, hnm⟩ := atI_lt hat
      rw [hat] at h
      dsimp only at h ⊢
      cases hX : listsX g i with
      | none => rw [hX] at h; cases h
      | some ls =>
        refine ⟨fun x hx => ?_, hg⟩
        dsimp only at hx
        unfold listsX at hX
        rw [List.getElem?_eq_getElem hi] at hX
        dsimp only at hX
        cases e : supsN (lin g) g g[i].2 with
        | none => rw [e] at hX; cases hX
        | some l' =>
          rw [e] at hX
          simp only [Option.map_some, Option.some.injEq] at hX
          subst hX
          obtain ⟨h1, h2⟩ := supsN_mem e
          rcases List.mem_append.1 hx with hx | hx
          · obtain ⟨s, hs, k, hk, hlk⟩ := h2 x hx
            obtain ⟨hkl, hks⟩ := atI_lt hk
            obtain ⟨t, ht, hnd, hmem⟩ := lin_names hg k hkl x hlk
            refine ⟨hnd, lin_len hg hkl hlk, fun a ha => ?_⟩
            rw [ht] at ha
            rcases List.mem_cons.1 ha with rfl | ha
            · exact List.mem_map.2 ⟨_, List.getElem_mem hkl, rfl⟩
            · obtain ⟨j, hj, rfl⟩ := hmem a ha
              exact List.mem_map.2 ⟨_, List.getElem_mem (by omega), rfl⟩
          · rw [List.mem_singleton.1 hx]
            have := hg.few i hi
            refine ⟨hg.dist i hi, by omega, fun a ha => ?_⟩
            obtain ⟨k, hk, rfl⟩ := hg.sup i hi a ha
            exact List.mem_map.2 ⟨_, List.getElem_mem (by omega), rfl⟩

theorem refVC_spec (g : List HeirT) (name : ByteArray) (l : List ByteArray) : FnP PP 43 [HS g, .str name, LS l] (.int .i64 (vcV g name l)) := by
  refine Fn_of_T GT_ok Go.Proofs.Try.func43 rfl (by rfl) (by rfl) ?_
  refine T_fact (list_bound (d := 2) rfl) fun hlen => ?_
  rw [List.length_map] at hlen
  refine go ?_; intros
  refine ifN (fun hc => ?_) (fun hc => ?_)
  · refine go ?_; intros
    refine ⟨E, sle_E _, ?_, rfl⟩
    simp [vcV, hc]
  · obtain ⟨hf, hg⟩ := lists_facts hc
    have hA : ∀ a b, Spec 73 [LLS (listsP g name).1, .str a, .str b] (.bool ((listsP g name).1.any (aheadB a b))) := fun a b => ⟨refAhead_spec (listsP g name).1 a b fun x hx => ⟨(hf x hx).1, (hf x hx).2.1⟩⟩
    have hV : vcV g name l = if l.length < 2 ∨ ¬ l.Nodup then 73 else if (List.range l.length).all (stepOk (listsP g name).1 l) then 0 else 73 := by
      unfold vcV; rw [if_neg (by simp [hc])]
    refine go ?_; intros
    refine ifF (fun hc => ?_) (fun hc => ?_)
    · have h2 : ¬ l.length < 2 := by simp at hc; omega
      refine go ?_; intros
      refine ifF (fun hc => ?_) (fun hc => ?_)
      · have h3 : l.length ≤ 120 := by simp at hc; omega
        refine go ?_; intros
        refine ifN (fun hd => ?_) (fun hd => ?_)
        · refine go ?_; intros
          refine ⟨E, sle_E _, ?_, rfl⟩
          rw [hV, if_pos (.inr hd)]
        · refine go ?_; intros
          refine stop (T_loop (α := Nat) (inv := fun i => i ≤ l.length ∧ ∀ j, j < i → stepOk (listsP g name).1 l j = true)
            (tm := fun i => mkT 53 [(2, LS l), (7, LLS (listsP g name).1), (9, .int .i64 i)]) (st := fun _ => E) (μ := fun i => l.length - i) 0 ⟨by omega, fun j hj => by omega⟩ ?_ (sle_refl _) ?_)
          · repeat' (first | exact trivial | exact rfl | refine And.intro ?_ ?_)
          rintro i ⟨hi, hpre⟩
          refine go ?_; intros
          refine ifD (fun hc => ?_) (fun hc => ?_)
          · have hil : i < l.length := by simpa using hc
            have hk : (i + 1) % l.length < l.length := Nat.mod_lt _ (by omega)
            have hm : ((i : Int) + 1).tmod ((l.map eS).length : Nat) = (((i + 1) % l.length : Nat) : Int) := by rw [List.length_map]; exact (Int.ofNat_tmod (i + 1) l.length).symm
            have hst : stepOk (listsP g name).1 l i = (listsP g name).1.any (aheadB l[i] l[(i + 1) % l.length]) := by
              unfold stepOk
              rw [List.getElem?_eq_getElem hil, List.getElem?_eq_getElem hk]
            refine go ?_; intros
            refine stop (T_drawW GT_ok (by rfl) 15 (by decide) ?_)
            refine go ?_; intros
            apply Exists.intro; apply And.intro
            · conv => whnf
              rw [hm]
              refine And.intro (by rw [List.length_map]; omega) (And.intro (fit64 (by omega)) ?_)
              conv => whnf
            refine go ?_; intros
            refine And.intro (fun hno => ?_) (fun hyes => ?_)
            · refine go ?_; intros
              refine ⟨E, sle_E _, ?_, rfl⟩
              rw [hV, if_neg (by rintro (h | h) <;> contradiction), if_neg]
              intro hall
              have := List.all_eq_true.1 hall i (List.mem_range.2 hil)
              rw [hst] at this; rw [this] at hno; cases hno
            · refine go ?_; intros
              refine ⟨i + 1, ⟨by omega, fun j hj => ?_⟩, by omega, by repeat' (first | exact trivial | exact rfl | refine And.intro ?_ ?_), sle_refl _⟩
              by_cases e : j = i
              · subst e; rw [hst]; simpa using hyes
              · exact hpre j (by omega)
          · have hge : ¬ i < l.length := by simpa using hc
            refine go ?_; intros
            refine ⟨E, sle_E _, ?_, rfl⟩
            rw [hV, if_neg (by rintro (h | h) <;> contradiction), if_pos]
            rw [List.all_eq_true]
            intro j hj
            exact hpre j (by have := List.mem_range.1 hj; omega)
      · have h3 : 120 < l.length := by simp at hc; omega
        refine go ?_; intros
        refine ⟨E, sle_E _, ?_, rfl⟩
        rw [hV]
        by_cases hd : l.Nodup
        · rw [if_neg (by rintro (h | h) <;> contradiction), if_neg]
          intro hall
          have := nodup_le hd (m := g.map (·.1)) fun a ha => by
            obtain ⟨j, hj, rfl⟩ := List.getElem_of_mem ha
            have h4 := List.all_eq_true.1 hall j (List.mem_range.2 hj)
            have hk : (j + 1) % l.length < l.length := Nat.mod_lt _ (by omega)
            unfold stepOk at h4
            rw [List.getElem?_eq_getElem hj, List.getElem?_eq_getElem hk] at h4
            obtain ⟨x, hx, h5⟩ := List.any_eq_true.1 h4
            unfold aheadB at h5
            rw [Bool.and_eq_true, idxF_any, any_eqB] at h5
            exact (hf x hx).2.2 _ h5.1
          have := hg.len
          rw [List.length_map] at *; omega
        · rw [if_pos (.inr hd)]
    · refine go ?_; intros
      refine ⟨E, sle_E _, ?_, rfl⟩
      rw [hV, if_pos (.inl (by simp at hc; omega))]
instance (g : List HeirT) (name : ByteArray) (l : List ByteArray) : Spec 43 [HS g, .str name, LS l] (.int .i64 (vcV g name l)) := ⟨refVC_spec g name l⟩

end Go.Proofs.Ytohldellkddmoaa.L

namespace Go.Proofs.Ytohldellkddmoaa.L
open Go
set_option linter.unusedSimpArgs false
set_option linter.unnecessarySimpa false
set_option linter.unusedVariables false
attribute [local irreducible] T TL
set_option maxRecDepth 10000

def neB (x : List ByteArray) : Bool := !decide (x.length = 0)

theorem deleteFunc_spec (l : List (List ByteArray)) (g ver : Nat) : Fn PP 64 [.row g ver 0 l.length 1, .fn (.func 65) [] []] (upd E g (.row ver 1 24 (l.map eL)))
    fun o S' => o = .ret (.row g ver 0 (l.filter neB).length 1) ∧ ∃ xs, (xs.take (l.filter neB).length) = (l.filter neB).map eL ∧ (l.filter neB).length ≤ xs.length ∧ S' = upd E g (.row ver 1 24 xs) := by
  refine Fn_of_T GT_ok Go.Proofs.Try.func64 rfl (by rfl) (by rfl) ?_
  have hS0 : (upd E g (.row ver 1 24 (l.map eL))) g = some (.row ver 1 24 (l.map eL)) := upd_same _ _ _
  refine T_fact (row_bound hS0) fun hlen => ?_
  rw [List.length_map] at hlen
  have hif := indexFunc_spec l 65 [] [] (fun x => decide (x.length = 0)) fun x _ => empty_spec x
  refine go ?_; intros
  refine callW_borrow hif ⟨bor_row hS0 (by rw [List.length_map]), .same _, trivial⟩ (.int _ _) ?_
  refine go ?_; intros
  refine ifD (fun hc => ?_) (fun hc => ?_)
  · have hall : l.filter neB = l := by
      rw [List.filter_eq_self]
      rcases idxF_cases (fun x : List ByteArray => decide (x.length = 0)) l with ⟨_, hn⟩ | ⟨i, hi, e, _, _⟩
      · intro x hx
        obtain ⟨j, hj, rfl⟩ := List.getElem_of_mem hx
        have := hn j hj
        unfold neB; rw [this]; rfl
      · omega
    refine go ?_; intros
    refine ⟨_, sle_refl _, by rw [hall], l.map eL, by rw [hall, List.take_of_length_le (by simp)], by rw [hall]; simp, rfl⟩
  · obtain ⟨i0, hi0, e0, hp0, hpre⟩ : ∃ i, ∃ hi : i < l.length, idxF (fun x : List ByteArray => decide (x.length = 0)) l = i ∧ (fun x : List ByteArray => decide (x.length = 0)) l[i] = true ∧ ∀ j (_ : j < i) (h' : j < l.length), (fun x : List ByteArray => decide (x.length = 0)) l[j] = false := by
      rcases idxF_cases (fun x : List ByteArray => decide (x.length = 0)) l with ⟨e, _⟩ | h
      · exact absurd e hc
      · exact h
    rw [e0]
    refine go ?_; intros
    have q0 : (l.take (i0 + 1)).filter neB = l.take i0 := by
      rw [List.take_succ_eq_append_getElem hi0, List.filter_append, List.filter_eq_self.2 fun x hx => ?_]
      · have : neB l[i0] = false := by unfold neB; simpa using hp0
        simp [this]
      · obtain ⟨j, hj, rfl⟩ := List.getElem_of_mem hx
        rw [List.length_take] at hj
        have := hpre j (by omega) (by omega)
        rw [List.getElem_take]; unfold neB; simpa using this
    let F : Nat → List (List ByteArray) := fun j => (l.take j).filter neB
    have hFl : ∀ j, j ≤ l.length → (F j).length ≤ j := fun j hj => Nat.le_trans (List.length_filter_le _ _) (by rw [List.length_take]; omega)
    have hFlt : ∀ j, i0 < j → j ≤ l.length → (F j).length < j := fun j hj hl => by
      have e : F j = F (i0 + 1) ++ ((l.take j).drop (i0 + 1)).filter neB := by
        simp only [F]
        rw [show l.take (i0 + 1) = (l.take j).take (i0 + 1) by rw [List.take_take]; congr 1; omega, ← List.filter_append, List.take_append_drop]
      have h1 := List.length_filter_le neB ((l.take j).drop (i0 + 1))
      rw [e, List.length_append]
      simp only [F]
      rw [q0, List.length_take]
      rw [List.length_drop, List.length_take] at h1
      omega
    let L : Nat → List (List ByteArray) := fun j => F j ++ l.drop (F j).length
    have hLl : ∀ j, j ≤ l.length → (L j).length = l.length := fun j hj => by
      have := hFl j hj
      simp only [L]; rw [List.length_append, List.length_drop]; omega
    let st : Nat → Store := fun j => upd E g (.row ver 1 24 ((L j).map eL))
    refine stop (T_loop (α := Nat) (inv := fun j => i0 < j ∧ j ≤ l.length)
      (tm := fun j => mkT 42 [(0, .row g ver 0 l.length 1), (1, .fn (.func 65) [] []), (5, .int .i64 (F j).length), (6, .int .i64 j)]) (st := fun j => st j) (μ := fun j => l.length - j) (i0 + 1) ⟨by omega, by omega⟩ ?_ ?_ ?_)
    · repeat' (first | exact trivial | exact rfl | refine And.intro ?_ ?_)
      simp only [F]; rw [q0, List.length_take]; congr 1; omega
    · simp only [st, L, F]
      rw [q0, List.length_take, show min i0 l.length = i0 by omega, List.take_append_drop]; exact sle_refl _
    rintro j ⟨hj0, hj⟩
    have hSj : st j g = some (.row ver 1 24 ((L j).map eL)) := upd_same _ _ _
    have hLj := hLl j hj
    have hFj := hFl j hj
    have hFj2 := hFlt j hj0 hj
    refine go ?_; intros
    refine ifD (fun hc => ?_) (fun hc => ?_)
    · have hjl : j < l.length := by simpa using hc
      have hget : (L j)[j]'(by omega) = l[j] := by
        simp only [L]
        rw [List.getElem_append_right (by omega), List.getElem_drop]
        congr 1; omega
      have hF1 : F (j + 1) = F j ++ if neB l[j] then [l[j]] else [] := by
        simp only [F]
        rw [List.take_succ_eq_append_getElem hjl, List.filter_append, List.filter_cons, List.filter_nil]
      refine go ?_; intros
      rw [hget]
      refine go ?_; intros
      refine ifN (fun hne => ?_) (fun hne => ?_)
      · have hn : neB l[j] = true := by unfold neB; simpa using hne
        rw [if_pos hn] at hF1
        have hLs : (L j).set (F j).length l[j] = L (j + 1) := by
          simp only [L]
          rw [hF1, List.set_append_right _ _ (Nat.le_refl _), Nat.sub_self, List.length_append, List.drop_eq_getElem_cons (by omega : (F j).length < l.length), List.set_cons_zero, List.append_assoc]
          rfl
        refine go ?_; intros
        refine ⟨j + 1, ⟨by omega, by omega⟩, by omega, ?_, ?_⟩
        · repeat' (first | exact trivial | exact rfl | refine And.intro ?_ ?_)
          rw [hF1]; simp
        · simp only [st]; rw [upd_upd, hLs]; exact sle_refl _
      · have hn : neB l[j] = false := by unfold neB; simpa using hne
        rw [if_neg (by rw [hn]; simp), List.append_nil] at hF1
        have hLs : L (j + 1) = L j := by simp only [L]; rw [hF1]
        refine go ?_; intros
        refine ⟨j + 1, ⟨by omega, by omega⟩, by omega, ?_, ?_⟩
        · repeat' (first | exact trivial | exact rfl | refine And.intro ?_ ?_)
          rw [hF1]
        · simp only [st]; rw [hLs]; exact sle_refl _
    · have hjl : j = l.length := by simp at hc; omega
      have hFf : F j = l.filter neB := by simp only [F]; rw [List.take_of_length_le (by omega)]
      refine go ?_; intros
      refine bdW_lo (l := (F j).length) rfl (by omega) ⟨.inr (by omega), ?_⟩
      refine go ?_; intros
      refine And.intro (by rw [List.length_map]; omega) ?_
      refine go ?_; intros
      refine bdW_hi (h := (F j).length) rfl (by omega) ⟨.inl rfl, ?_⟩
      refine go ?_; intros
      have hml : (F j).length ≤ ((L j).map eL).length := by rw [List.length_map]; omega
      refine ⟨_, sle_refl _, by rw [← hFf]; rfl, _, ?_, ?_, by simp only [st]; rw [upd_upd]⟩
      · rw [← hFf]
        unfold clrL
        rw [Nat.zero_add, List.take_append_of_le_length (by rw [List.length_take]; omega), List.take_take, Nat.min_self]
        simp only [L]
        rw [List.map_append, List.take_append_of_le_length (by simp), List.take_of_length_le (by simp)]
      · rw [← hFf]
        unfold clrL
        rw [List.length_append, List.length_take]; omega

theorem reverse_spec (l : List ByteArray) (g ver : Nat) (hl : 0 < l.length) : Fn PP 69 [.row g ver 0 l.length 1] (upd E g (.row ver 1 16 (l.map eS))) fun o S' => o = .ret (.tup []) ∧ S' = upd E g (.row ver 1 16 (l.reverse.map eS)) := by
  refine Fn_of_T GT_ok Go.Proofs.Try.func69 rfl (by rfl) (by rfl) ?_
  have hS0 : (upd E g (.row ver 1 16 (l.map eS))) g = some (.row ver 1 16 (l.map eS)) := upd_same _ _ _
  refine T_fact (row_bound hS0) fun hlen => ?_
  rw [List.length_map] at hlen
  refine go ?_; intros
  let n := l.length
  have hn : n = l.length := rfl
  refine stop (T_loop (α := Nat × List ByteArray) (inv := fun x => ∃ h : x.2.length = n, x.1 ≤ n ∧ ∀ k (hk : k < n), x.2[k] = if k < x.1 ∨ n - x.1 ≤ k then l[n - 1 - k] else l[k])
    (tm := fun x => mkT 28 [(0, .row g ver 0 l.length 1), (2, .int .i64 x.1), (3, .int .i64 ((n : Int) - 1 - x.1))]) (st := fun x => upd E g (.row ver 1 16 (x.2.map eS))) (μ := fun x => n - x.1) (0, l) ⟨rfl, by omega, fun k hk => ?_⟩ ?_ (sle_refl _) ?_)
  · dsimp only
    rw [if_neg (by omega)]
  · repeat' (first | exact trivial | exact rfl | refine And.intro ?_ ?_)
    simp [n]
  rintro ⟨i, xs⟩ ⟨hxl, hi, hx⟩
  dsimp only at hxl hi hx ⊢
  have hSx : (upd E g (.row ver 1 16 (xs.map eS))) g = some (.row ver 1 16 (xs.map eS)) := upd_same _ _ _
  refine go ?_; intros
  refine ifD (fun hc => ?_) (fun hc => ?_)
  · have hij : i < n - 1 - i := by omega
    have ej : ((n : Int) - 1 - i) = ((n - 1 - i : Nat) : Int) := by omega
    rw [ej]
    refine go ?_; intros
    have h1 := hx i (by omega)
    have h2 := hx (n - 1 - i) (by omega)
    rw [if_neg (by omega)] at h1 h2
    refine stop (T_drawF GT_ok (by rfl) 13 [2, 3] (by kernel_rfl) (by decide) (fun _ _ _ _ _ h => h) ?_)
    refine go ?_; intros
    rw [upd_upd]
    refine stW_map0 (xs[i]) (upd_same _ _ _) (by rw [List.length_set]; omega) rfl rfl rfl ?_
    rw [upd_upd]
    refine go ?_; intros
    refine ⟨(i + 1, (xs.set i xs[n - 1 - i]).set (n - 1 - i) xs[i]), ⟨by simp; omega, by dsimp only; omega, fun k hk => ?_⟩, by dsimp only; omega, ?_, sle_refl _⟩
    · dsimp only
      rw [List.getElem_set, List.getElem_set]
      by_cases e1 : n - 1 - i = k
      · subst e1
        rw [if_pos rfl, if_pos (by omega), h1]
        congr 1; omega
      · rw [if_neg e1]
        by_cases e2 : i = k
        · subst e2
          rw [if_pos rfl, if_pos (by omega), h2]
        · rw [if_neg e2, hx k hk]
          by_cases e3 : k < i ∨ n - i ≤ k
          · rw [if_pos e3, if_pos (by omega)]
          · rw [if_neg e3, if_neg (by omega)]
    · repeat' (first | exact trivial | exact rfl | refine And.intro ?_ ?_)
      congr 1; omega
  · have hall : xs = l.reverse := by
      refine List.ext_getElem (by simp; omega) fun k h1 h2 => ?_
      rw [hx k (by omega), List.getElem_reverse]
      split
      · rfl
      · congr 1; omega
    refine go ?_; intros
    refine ⟨_, sle_refl _, rfl, by rw [hall]⟩

end Go.Proofs.Ytohldellkddmoaa.L

namespace Go.Proofs.Ytohldellkddmoaa.L
open Go
set_option linter.unusedSimpArgs false
set_option linter.unnecessarySimpa false
set_option linter.unusedVariables false
attribute [local irreducible] T TL
set_option maxRecDepth 10000

theorem cloneS_row (l : List ByteArray) : Fn PP 52 [LS l] E fun o S' => ∃ g ver, o = .ret (.row g ver 0 l.length 1) ∧ S' = upd E g (.row ver 1 16 (l.map eS)) := by
  refine Fn_end (Fn_of_T GT_ok Go.Proofs.Try.func52 rfl (by rfl) (by rfl) ?_)
  refine T_fact (list_bound (d := 0) rfl) fun hlen => ?_
  rw [List.length_map] at hlen
  refine go0 ?_
  intro b hb
  refine go0 ?_; intros
  refine And.intro (fun hc => ?_) (fun hc => ?_)
  · have hz : l = [] := by simpa using hb hc
    subst hz
    refine go0 ?_; intros
    refine Exists.intro _ (And.intro (sle_refl _) ?_)
    exact OView.nilrow 1 16 fun g hg => ⟨g, 0, rfl, rfl⟩
  · conv => whnf
    refine go0 ?_; intros
    refine .inr (newW_intro fun g hg => ?_)
    refine go0 ?_; intros
    refine srcW_list ?_
    refine And.intro (solids_map fun x => ⟨rfl, trivial, trivial⟩) ?_
    refine go0 ?_; intros
    refine rowW_intro (upd_same _ _ _) ?_
    conv => whnf
    refine And.intro rfl (And.intro rfl (And.intro (show (0 + (l.map eS).length) * 16 ≤ 140737488355328 by simpa using hlen) ?_))
    refine go0 ?_; intros
    refine Exists.intro _ (And.intro (sle_refl _) ?_)
    refine OView.same ⟨g, 1, ?_, ?_⟩
    · show Out.ret (.row g 1 0 (0 + (l.map eS).length) 1) = _
      rw [List.length_map, Nat.zero_add]
    · rw [upd_upd, List.nil_append]; rfl

def stuckN : Nat → List (List ByteArray) → List (List ByteArray)
  | 0, l => l
  | n + 1, l => match candO l with
    | none => l
    | some s => stuckN n (l.map (takeOff s))
/-- what is left when merging is impossible -/
def stuckX (l : List (List ByteArray)) : List (List ByteArray) := stuckN (total l) l

theorem candO_zero {l : List (List ByteArray)} (h : total l = 0) : candO l = none := by
  cases e : candO l with
  | none => rfl
  | some s =>
    obtain ⟨x, hx, t, rfl⟩ := candO_mem e
    have := len_le_total hx
    simp at this; omega

theorem stuckN_eq : ∀ (n : Nat) (l : List (List ByteArray)), total l ≤ n → stuckN n l = stuckX l := by
  intro n
  induction n using Nat.strongRecOn with
  | _ n ih =>
    intro l hl
    unfold stuckX
    cases e : candO l with
    | none =>
      have : ∀ k, stuckN k l = l := fun k => by cases k <;> simp [stuckN, e]
      rw [this, this]
    | some s =>
      have hlt := total_takeOff_lt (candO_mem e)
      obtain ⟨m, hm⟩ : ∃ m, total l = m + 1 := ⟨total l - 1, by omega⟩
      obtain ⟨k, rfl⟩ : ∃ k, n = k + 1 := ⟨n - 1, by omega⟩
      rw [hm]
      simp only [stuckN, e]
      rw [ih k (by omega) _ (by omega), ih m (by omega) _ (by omega)]

theorem stuckX_none {l : List (List ByteArray)} (h : candO l = none) : stuckX l = l := by
  unfold stuckX; cases total l <;> simp [stuckN, h]
theorem stuckX_step {l : List (List ByteArray)} {s : ByteArray} (h : candO l = some s) : stuckX l = stuckX (l.map (takeOff s)) := by
  have hlt := total_takeOff_lt (candO_mem h)
  obtain ⟨m, hm⟩ : ∃ m, total l = m + 1 := ⟨total l - 1, by omega⟩
  conv => lhs; unfold stuckX
  rw [hm]
  simp only [stuckN, h]
  exact stuckN_eq m _ (by omega)
theorem stuckX_cand (l : List (List ByteArray)) : candO (stuckX l) = none := by
  suffices H : ∀ n l, total l = n → candO (stuckX l) = none from H _ l rfl
  intro n
  induction n using Nat.strongRecOn with
  | _ n ih =>
    intro l hl
    cases e : candO l with
    | none => rw [stuckX_none e]; exact e
    | some s => rw [stuckX_step e]; exact ih _ (by have := total_takeOff_lt (candO_mem e); omega) _ rfl

/-- the path along first elements, each behind the next one in some list -/
def cycN (ne : List (List ByteArray)) : Nat → List ByteArray → List ByteArray
  | 0, _ => []
  | n + 1, path => match path.getLast? with
    | none => []
    | some s => match ne.find? (fun x => x.tail.any (eqB s)) with
      | some (t :: _) => if path.any (eqB t) then (path.drop (idxF (eqB t) path).toNat).reverse else cycN ne n (path ++ [t])
      | _ => []

def cycOf (ls : List (List ByteArray)) : List ByteArray := match (stuckX ls).filter neB with
  | [] => []
  | [] :: _ => []
  | (a :: t) :: r => cycN ((a :: t) :: r) (((a :: t) :: r).length + 1) [a]

def cycP (g : List HeirT) (name : ByteArray) : List ByteArray × Int :=
  if (listsP g name).2 ≠ 0 then ([], (listsP g name).2) else
  if (stuckX (listsP g name).1).filter neB = [] then ([], 3) else (cycOf (listsP g name).1, 0)

theorem behind_some {ls : List (List ByteArray)} (hc : candO ls = none) {x : List ByteArray} (hx : x ∈ ls) (h0 : 0 < x.length) : ∃ y ∈ ls, y.tail.any (eqB x[0]) = true := by
  have hno : good ls x = false := by
    cases e : good ls x with
    | false => rfl
    | true =>
      unfold candO at hc
      cases e2 : ls.find? (good ls) with
      | none => rw [List.find?_eq_none] at e2; exact absurd e (e2 x hx)
      | some z =>
        have hz := List.find?_some e2
        rw [e2] at hc
        cases z with
        | nil => rw [good_nil] at hz; cases hz
        | cons a t => cases hc
  cases x with
  | nil => simp at h0
  | cons a t =>
    simp only [good] at hno
    obtain ⟨y, hy, h2⟩ := List.all_eq_false.1 hno
    exact ⟨y, hy, by simpa using h2⟩

def candS (l : List (List ByteArray)) : ByteArray := (candO l).getD ByteArray.empty
theorem cand_tup (l : List (List ByteArray)) : FnP PP 63 [LLS l] (.tup [.str (candS l), .bool (candO l).isSome]) := by
  have h := candidate_spec l
  rw [candV_eq] at h
  unfold candS
  cases e : candO l with
  | none => rw [e] at h; exact h
  | some s => rw [e] at h; exact h

set_option maxHeartbeats 4000000 in
theorem cycle_spec (g : List HeirT) (name : ByteArray) : FnP PP 35 [HS g, .str name] (.tup [LS (cycP g name).1, .int .i64 (cycP g name).2]) := by
  refine Fn_end (Fn_of_T GT_ok Go.Proofs.Try.func35 rfl (by rfl) (by rfl) ?_)
  refine go ?_; intros
  refine ifN (fun hc => ?_) (fun hc => ?_)
  · refine go ?_; intros
    refine ⟨_, sle_refl _, OView.nilv nil_tup2 (OView.same ⟨?_, rfl⟩)⟩
    unfold cycP; rw [if_pos hc]
  · obtain ⟨hf, hg⟩ := lists_facts hc
    have hP : cycP g name = if (stuckX (listsP g name).1).filter neB = [] then ([], 3) else (cycOf (listsP g name).1, 0) := by unfold cycP; rw [if_neg (by simp [hc])]
    generalize hl : (listsP g name).1 = l at hf hP
    refine T_fact (list_bound (d := 6) rfl) fun hlen => ?_
    rw [List.length_map] at hlen
    have plainC : ∀ ls, Plain (.tup [.str (candS ls), .bool (candO ls).isSome]) := fun ls => .tup _ (by simp; exact ⟨.str _, .bool _⟩)
    refine go ?_; intros
    refine callW_intro (cloneL_spec l) (sle_E _) ?_
    rintro o S' ⟨gr, ver, rfl, rfl⟩ -
    unfold ansW
    rw [mrg_E]
    let st : List (List ByteArray) → Store := fun ls => upd E gr (.row ver 1 24 (ls.map eL))
    have hS : ∀ ls, st ls gr = some (.row ver 1 24 (ls.map eL)) := fun ls => upd_same _ _ _
    refine go ?_; intros
    refine callW_borrow (cand_tup l) ⟨bor_row (hS l) (by simp), trivial⟩ (plainC l) ?_
    refine go ?_; intros
    refine stop (T_loop (α := List (List ByteArray)) (inv := fun ls => ls.length = l.length ∧ stuckX l = stuckX ls)
      (tm := fun ls => mkT 105 [(6, .row gr ver 0 l.length 1), (8, .str (candS ls)), (9, .bool (candO ls).isSome)]) (st := fun ls => st ls) (μ := fun ls => total ls) l ⟨rfl, rfl⟩ ?_ (sle_refl _) ?_)
    · repeat' (first | exact trivial | exact rfl | refine And.intro ?_ ?_)
    rintro ls ⟨hln, hst⟩
    refine go ?_; intros
    cases hcd : candO ls with
    | some s =>
      have hsv : candS ls = s := by simp [candS, hcd]
      rw [hsv]
      simp only [Option.isSome_some]
      refine go ?_; intros
      refine stop (T_loop (α := Nat) (inv := fun i => i ≤ ls.length)
        (tm := fun i => mkT 105 [(6, .row gr ver 0 l.length 1), (8, .str s), (40, .row gr ver 0 l.length 1), (41, .int .i64 l.length), (42, .int .i64 i)]) (st := fun i => st (mix (takeOff s) i ls)) (μ := fun i => ls.length - i) 0 (by omega) ?_ ?_ ?_)
      · repeat' (first | exact trivial | exact rfl | refine And.intro ?_ ?_)
      · rw [mix_zero]; exact sle_refl _
      rintro i hi
      have hSm := hS (mix (takeOff s) i ls)
      have hml := mix_len (takeOff s) i ls
      refine go ?_; intros
      refine ifD (fun hc => ?_) (fun hc => ?_)
      · have hlt : i < ls.length := by simp at hc; omega
        have him : i < (mix (takeOff s) i ls).length := by omega
        have hget : (mix (takeOff s) i ls)[i] = ls[i] := by
          have := mix_get (takeOff s) hlt
          rw [List.getElem?_eq_getElem him] at this; exact Option.some.inj this
        have keep : takeOff s ls[i] = ls[i] → st (mix (takeOff s) (i + 1) ls) = st (mix (takeOff s) i ls) := fun e => by
          rw [mix_step _ hlt, e]
          have := List.set_getElem_self him
          rw [hget] at this; rw [this]
        refine go ?_; intros
        rw [hget]
        refine go ?_; intros
        refine ifD (fun hc => ?_) (fun hc => ?_)
        · have hpos : 0 < ls[i].length := by simpa using hc
          refine go ?_; intros
          refine ifD (fun hc => ?_) (fun hc => ?_)
          · have he : takeOff s ls[i] = ls[i].drop 1 := takeOff_hit hpos hc
            refine go ?_; intros
            refine ⟨i + 1, by omega, by omega, by repeat' (first | exact trivial | exact rfl | refine And.intro ?_ ?_), ?_⟩
            rw [mix_step _ hlt, he]; simp only [st]; rw [upd_upd]; exact sle_refl _
          · have he : takeOff s ls[i] = ls[i] := takeOff_miss fun h => hc
            refine go ?_; intros
            refine ⟨i + 1, by omega, by omega, by repeat' (first | exact trivial | exact rfl | refine And.intro ?_ ?_), ?_⟩
            rw [keep he]; exact sle_refl _
        · have hz : ls[i] = [] := by simpa using hc
          refine go ?_; intros
          refine ⟨i + 1, by omega, by omega, by repeat' (first | exact trivial | exact rfl | refine And.intro ?_ ?_), ?_⟩
          rw [keep (by rw [hz]; rfl)]; exact sle_refl _
      · have hge : ls.length ≤ i := by simp at hc; omega
        rw [mix_end _ hge] at hSm ⊢
        have hlm : (ls.map (takeOff s)).length = l.length := by rw [List.length_map]; exact hln
        refine go ?_; intros
        refine callW_borrow (cand_tup (ls.map (takeOff s))) ⟨bor_row hSm (by rw [List.length_map]; omega), trivial⟩ (plainC _) ?_
        refine go ?_; intros
        refine ⟨ls.map (takeOff s), ⟨hlm, by rw [hst, stuckX_step hcd]⟩, total_takeOff_lt (candO_mem hcd), by repeat' (first | exact trivial | exact rfl | refine And.intro ?_ ?_), sle_refl _⟩
    | none =>
      simp only [Option.isSome_none]
      rw [stuckX_none hcd] at hst
      have hdf := deleteFunc_spec ls gr ver
      rw [hln] at hdf
      refine go ?_; intros
      refine callW_intro hdf (sle_refl _) ?_
      rintro o S' ⟨rfl, xs, hxs, hxl, rfl⟩ -
      unfold ansW
      rw [mrg_all]
      rw [hst] at hP
      have hco : cycOf l = match ls.filter neB with
        | [] => []
        | [] :: _ => []
        | (a :: t) :: r => cycN ((a :: t) :: r) (((a :: t) :: r).length + 1) [a] := by unfold cycOf; rw [hst]
      have hnl : (ls.filter neB).length ≤ l.length := by
        have := List.length_filter_le neB ls
        omega
      have hnn : ∀ x ∈ ls.filter neB, 0 < x.length ∧ x ∈ ls := fun x hx => by
        obtain ⟨h1, h2⟩ := List.mem_filter.1 hx
        exact ⟨by unfold neB at h2; simp at h2; exact List.length_pos_iff.2 h2, h1⟩
      have hbeh : ∀ x ∈ ls.filter neB, ∀ h : 0 < x.length, ∃ y ∈ ls.filter neB, y.tail.any (eqB x[0]) = true := fun x hx h => by
        obtain ⟨y, hy, h2⟩ := behind_some hcd (hnn x hx).2 h
        refine ⟨y, List.mem_filter.2 ⟨hy, ?_⟩, h2⟩
        cases y with
        | nil => cases h2
        | cons a t => rfl
      generalize hne : ls.filter neB = ne at hxs hxl hP hco hnl hnn hbeh
      refine go ?_; intros
      refine ifD (fun hc => ?_) (fun hc => ?_)
      · have h0 : ne = [] := List.length_eq_zero_iff.1 (by omega)
        refine go ?_; intros
        refine ⟨_, sle_refl _, OView.weak (sle_E _) (OView.nilv nil_tup2 (OView.same ⟨?_, rfl⟩))⟩
        rw [hP, if_pos h0]
      · have hn0 : 0 < ne.length := by omega
        refine go ?_; intros
        have hP' : cycP g name = (cycOf l, 0) := by rw [hP, if_neg (by rintro rfl; simp at hn0)]
        have hgx : ∀ i (h : i < ne.length), xs[i]? = some (eL ne[i]) := fun i h => by
          have := congrArg (fun z : List (List PV) => z[i]?) hxs
          simpa [h] using this
        have hSx : (upd E gr (.row ver 1 24 xs)) gr = some (.row ver 1 24 xs) := upd_same _ _ _
        have hp0 : 0 < ne[0].length := (hnn _ (List.getElem_mem hn0)).1
        have hco' : cycOf l = cycN ne (ne.length + 1) [ne[0][0]] := by
          rw [hco]
          cases ne with
          | nil => simp at hn0
          | cons y r => cases y with
            | nil => simp at hp0
            | cons a t => rfl
        refine ldW_intro (c := eL ne[0]) hSx (by simpa using hgx 0 hn0) ?_
        refine goB ?_; intros
        refine .inr (newW_intro fun gp hgp => ?_)
        have hnp : gr ≠ gp := Ne.symm (ne_name hSx hgp)
        let sp : List ByteArray → Store := fun p => upd (upd E gr (.row ver 1 24 xs)) gp (.row (p.length - 1) 1 16 (p.map eS))
        have hSp : ∀ p, sp p gp = some (.row (p.length - 1) 1 16 (p.map eS)) := fun p => upd_same _ _ _
        have hSr : ∀ p, sp p gr = some (.row ver 1 24 xs) := fun p => by simp only [sp]; rw [upd_ne hnp, upd_same]
        refine go ?_; intros
        refine stop (T_loop (α := List ByteArray) (inv := fun p => 0 < p.length ∧ p.Nodup ∧ (∀ s ∈ p, ∃ x ∈ ne, ∃ t, x = s :: t) ∧ cycN ne (ne.length + 2 - p.length) p = cycOf l)
          (tm := fun p => mkT 105 [(6, .row gr ver 0 ne.length 1), (12, .row gp (p.length - 1) 0 p.length 1)]) (st := fun p => sp p) (μ := fun p => ne.length + 1 - p.length) [ne[0][0]] ⟨by simp, by simp, ?_, ?_⟩ ?_ (sle_refl _) ?_)
        · intro s hs
          rw [List.mem_singleton.1 hs]
          refine ⟨ne[0], List.getElem_mem hn0, ne[0].drop 1, ?_⟩
          exact (List.drop_eq_getElem_cons hp0)
        · rw [hco']; rfl
        · repeat' (first | exact trivial | exact rfl | refine And.intro ?_ ?_)
        rintro p ⟨hpl, hpn, hph, hpc⟩
        have hSp' := hSp p
        have hple : p.length ≤ ne.length := by
          have := nodup_le (m := ne.map (·.headD ByteArray.empty)) hpn fun a ha => by
            obtain ⟨x, hx, t, rfl⟩ := hph a ha
            exact List.mem_map.2 ⟨_, hx, rfl⟩
          simpa using this
        refine go ?_; intros
        have hlast : p.length - 1 < p.length := by omega
        generalize hsv : p[p.length - 1] = s
        obtain ⟨x0, hx0, t0, hxs0⟩ := hph s (by rw [← hsv]; exact List.getElem_mem hlast)
        obtain ⟨k, hk, ek, hpk, hprek⟩ : ∃ k, ∃ hk : k < ne.length, idxF (fun x : List ByteArray => x.tail.any (eqB s)) ne = k ∧ (fun x : List ByteArray => x.tail.any (eqB s)) ne[k] = true ∧ ∀ j (_ : j < k) (h' : j < ne.length), (fun x : List ByteArray => x.tail.any (eqB s)) ne[j] = false := by
          rcases idxF_cases (fun x : List ByteArray => x.tail.any (eqB s)) ne with ⟨_, hn⟩ | h
          · obtain ⟨y, hy, h2⟩ := hbeh x0 hx0 (by rw [hxs0]; simp)
            obtain ⟨j, hj, rfl⟩ := List.getElem_of_mem hy
            have := hn j hj
            subst hxs0
            rw [List.getElem_cons_zero] at h2
            rw [h2] at this; cases this
          · exact h
        have hk0 : 0 < ne[k].length := (hnn _ (List.getElem_mem hk)).1
        have hifx := indexFunc_spec ne 67 [] [.fptr [.str s] 0] (fun x => x.tail.any (eqB s)) fun x hx => behind_spec x s (hnn x hx).1
        have hix := index_spec p ne[k][0]
        refine rowI (p.length - 1) (by omega) hlast ?_
        refine go ?_; intros
        refine newW_intro fun gb hgb => ?_
        have hb1 : gp ≠ gb := Ne.symm (ne_name hSp' hgb)
        have hb2 : gr ≠ gb := Ne.symm (ne_name (hSr p) hgb)
        refine go ?_; intros
        rw [hsv, show (getG GT 9).size = 1 from rfl]
        let S3 : Store := upd (sp p) gb (.row 0 1 0 [[.str s]])
        have c3r : S3 gr = some (.row ver 1 24 xs) := by simp only [S3]; rw [upd_ne hb2]; exact hSr p
        have c3p : S3 gp = some (.row (p.length - 1) 1 16 (p.map eS)) := by simp only [S3]; rw [upd_ne hb1]; exact hSp'
        have c3b : S3 gb = some (.row 0 1 0 [[.str s]]) := upd_same _ _ _
        have hrow : BorV S3 (.row gr ver 0 ne.length 1) (LLS ne) := by
          have := BorV.row (S := S3) gr ver 1 24 0 ne.length xs c3r (by omega)
          rw [List.drop_zero, hxs] at this; exact this
        refine callW_borrow (S := S3) hifx ⟨hrow, .fn _ _ _ _ _ rfl rfl (fun j h1 h2 => absurd h1 (Nat.not_lt_zero j)) (fun j h1 h2 => ?_), trivial⟩ (.int _ _) ?_
        · match j, h1 with
          | 0, _ => exact .ptr gb 0 0 0 1 0 _ _ c3b rfl
        rw [ek]
        refine go ?_; intros
        refine ldW_intro (c := eL ne[k]) c3r (by simpa using hgx k hk) ?_
        refine go ?_; intros
        refine callW_borrow (S := S3) hix ⟨bor_row c3p (by simp), .same _, trivial⟩ (.int _ _) ?_
        have hcyc : cycN ne (ne.length + 2 - p.length) p = if p.any (eqB ne[k][0]) then (p.drop (idxF (eqB ne[k][0]) p).toNat).reverse else cycN ne (ne.length + 1 - p.length) (p ++ [ne[k][0]]) := by
          obtain ⟨m, hm⟩ : ∃ m, ne.length + 2 - p.length = m + 1 := ⟨ne.length + 1 - p.length, by omega⟩
          rw [hm, show ne.length + 1 - p.length = m by omega]
          have hgl : p.getLast? = some s := by rw [List.getLast?_eq_getElem?, List.getElem?_eq_getElem hlast, hsv]
          have hfd : ne.find? (fun x => x.tail.any (eqB s)) = some ne[k] := find_at hk hpk hprek
          simp only [cycN, hgl, hfd]
          obtain ⟨a, t, hnk⟩ : ∃ a t, ne[k] = a :: t := by
            cases h : ne[k] with
            | nil => rw [h] at hk0; simp at hk0
            | cons a t => exact ⟨a, t, rfl⟩
          have e0 : ne[k][0] = a := by simp [hnk]
          rw [e0, hnk]
        rw [hpc] at hcyc
        refine go ?_; intros
        refine ifD (fun hc => ?_) (fun hc => ?_)
        · obtain ⟨q, hq⟩ : ∃ q : Nat, idxF (eqB ne[k][0]) p = (q : Int) := ⟨(idxF (eqB ne[k][0]) p).toNat, by omega⟩
          have hany : p.any (eqB ne[k][0]) = true := by rw [← idxF_any]; simpa using hc
          have hql : q < p.length := by
            rcases idxF_cases (eqB ne[k][0]) p with ⟨h, _⟩ | ⟨j, hj, h, _, _⟩ <;> omega
          rw [if_pos hany, hq, Int.toNat_natCast] at hcyc
          rw [hq]
          refine goS ?_; intros
          refine T_view (View.trans (View_slot (d := 12) (q := LS p) c3p (fz_row (by simp))) (View.weak (tle_refl _) (sle_E _))) ?_
          refine goC ?_; intros
          refine callW_intro (cloneS_row (p.drop q)) (sle_E _) ?_
          rintro o S' ⟨gq, vq, rfl, rfl⟩ -
          unfold ansW
          rw [mrg_E]
          refine goC ?_; intros
          refine callW_intro (reverse_spec (p.drop q) gq vq (by rw [List.length_drop]; omega)) (sle_refl _) ?_
          rintro o S' ⟨rfl, rfl⟩ -
          unfold ansW
          rw [mrg_all]
          refine go ?_; intros
          refine ⟨_, sle_refl _, OView.freeze (upd_same _ _ _) (fz_tup2 (by simp)) (OView.weak (sle_E _) (OView.same ⟨?_, rfl⟩))⟩
          rw [hP', hcyc]
        · have hany : p.any (eqB ne[k][0]) = false := by
            rw [Bool.eq_false_iff, Ne, ← idxF_any]; simpa using hc
          rw [if_neg (by rw [hany]; simp)] at hcyc
          have hnotin : ne[k][0] ∉ p := fun h => by rw [any_eqB.2 h] at hany; cases hany
          refine go ?_; intros
          have hnn2 : (p ++ [ne[k][0]]).length = p.length + 1 := by simp
          refine ⟨p ++ [ne[k][0]], ⟨by omega, ?_, ?_, ?_⟩, by omega, ?_, ?_⟩
          · rw [List.nodup_append]
            exact ⟨hpn, by simp, fun a ha b hb => by rw [List.mem_singleton.1 hb]; rintro rfl; exact hnotin ha⟩
          · intro a ha
            rcases List.mem_append.1 ha with ha | ha
            · exact hph a ha
            · rw [List.mem_singleton.1 ha]
              exact ⟨ne[k], List.getElem_mem hk, ne[k].drop 1, List.drop_eq_getElem_cons hk0⟩
          · rw [hnn2, hcyc]; congr 1; omega
          · repeat' (first | exact trivial | exact rfl | refine And.intro ?_ ?_)
            rw [hnn2, show p.length - 1 + 1 = p.length + 1 - 1 by omega]; rfl
          · simp only [S3, sp]
            rw [hnn2, show p.length - 1 + 1 = p.length + 1 - 1 by omega, List.map_append, upd_comm (Ne.symm hb1), upd_upd]
            refine sle_upd ?_
            rw [upd_ne (Ne.symm hb1), upd_ne (Ne.symm hb2)]; rfl

instance (g : List HeirT) (name : ByteArray) : Spec 35 [HS g, .str name] (.tup [LS (cycP g name).1, .int .i64 (cycP g name).2]) := ⟨cycle_spec g name⟩

end Go.Proofs.Ytohldellkddmoaa.L

namespace Go.Proofs.Ytohldellkddmoaa.L
open Go
set_option linter.unusedSimpArgs false
set_option linter.unnecessarySimpa false
set_option linter.unusedVariables false

theorem any_ne {l : List (List ByteArray)} : l.any (fun x => decide (x.length > 0)) = true ↔ l.filter neB ≠ [] := by
  rw [Ne, List.filter_eq_nil_iff, List.any_eq_true]
  constructor
  · rintro ⟨x, hx, h⟩ hn
    have := hn x hx
    unfold neB at this
    simp at this h
    rw [this] at h; simp at h
  · intro h
    refine Classical.byContradiction fun hn => h fun x hx => ?_
    unfold neB
    simp
    refine Classical.byContradiction fun h2 => hn ⟨x, hx, ?_⟩
    simpa using List.length_pos_iff.2 h2

theorem merge_stuck : ∀ (n : Nat) (l : List (List ByteArray)), total l = n → (mergeX l = none ↔ (stuckX l).filter neB ≠ []) := by
  intro n
  induction n using Nat.strongRecOn with
  | _ n ih =>
    intro l hl
    cases e : candO l with
    | none =>
      rw [stuckX_none e, ← any_ne]
      cases ha : l.any (fun x => decide (x.length > 0)) with
      | true => simp [mergeX_none ha e]
      | false => simp [mergeX_nil ha]
    | some s =>
      have hlt := total_takeOff_lt (candO_mem e)
      have ha : l.any (fun x => decide (x.length > 0)) = true := by
        obtain ⟨x, hx, t, rfl⟩ := candO_mem e
        exact List.any_eq_true.2 ⟨_, hx, by simp⟩
      rw [mergeX_step ha e, stuckX_step e, ← ih _ (by omega) _ rfl]
      simp

theorem cyc_err (g : List HeirT) (name : ByteArray) : (cycP g name).2 = cycE g name := by
  by_cases h : (listsP g name).2 = 0
  · have e1 : cycP g name = if (stuckX (listsP g name).1).filter neB = [] then ([], 3) else (cycOf (listsP g name).1, 0) := by unfold cycP; rw [if_neg (by simp [h])]
    have e2 : cycE g name = if (linzP g name).2 = 0 then 3 else 0 := by unfold cycE; rw [if_neg (by simp [h])]
    rw [e1, e2]
    have key : (linzP g name).2 = 0 ↔ (stuckX (listsP g name).1).filter neB = [] := by
      obtain ⟨_, hg⟩ := lists_facts h
      have hm := merge_stuck _ (listsP g name).1 rfl
      unfold listsP at h hm ⊢
      unfold linzP
      by_cases hn : checkV g ≠ 0
      · rw [if_pos hn] at h; exact absurd h hn
      · rw [if_neg hn] at h hm ⊢
        rw [if_neg hn]
        cases hat : atI g name with
        | none => rw [hat] at h; cases h
        | some i =>
          obtain ⟨hi, _⟩ := atI_lt hat
          rw [hat] at h hm
          dsimp only at h hm ⊢
          cases hX : listsX g i with
          | none => rw [hX] at h; cases h
          | some ls =>
            rw [hX] at hm
            dsimp only at hm ⊢
            have hlin := lin_lists hg hi
            rw [hX] at hlin
            dsimp only at hlin
            rw [hlin]
            cases e : mergeX ls with
            | none => rw [e] at hm; simp at hm ⊢; simpa using hm
            | some o => rw [e] at hm; simp at hm ⊢; simpa using hm
    by_cases hk : (linzP g name).2 = 0
    · rw [if_pos (key.1 hk), if_pos hk]
    · rw [if_neg (fun h => hk (key.2 h)), if_neg hk]
  · unfold cycP cycE; rw [if_pos h, if_pos h]

end Go.Proofs.Ytohldellkddmoaa.L

namespace Go.Proofs.Ytohldellkddmoaa.L
open Go
set_option linter.unusedSimpArgs false
set_option linter.unnecessarySimpa false
set_option linter.unusedVariables false
attribute [local irreducible] T TL
set_option maxRecDepth 10000

def sO : ByteArray := ⟨#[111]⟩
def sA : ByteArray := ⟨#[97]⟩
def sB : ByteArray := ⟨#[98]⟩
def sC : ByteArray := ⟨#[99]⟩
def sD : ByteArray := ⟨#[100]⟩
def sE : ByteArray := ⟨#[101]⟩
def sX : ByteArray := ⟨#[120]⟩
def sY : ByteArray := ⟨#[121]⟩
def exG : List HeirT := [(sO, []), (sA, [sO]), (sB, [sO]), (sC, [sA, sB]), (sD, [sB, sA]), (sE, [sC, sD]), (sX, [sO]), (sY, [sA, sX])]

theorem ex1 : linzP exG sC = ([sC, sA, sB, sO], 0) := by kernel_rfl
theorem ex2 : (linzP exG sE).2 = 71 := by kernel_rfl
theorem ex3 : (cycP exG sE).2 = 0 := by kernel_rfl
theorem ex4 : (cycP exG sE).1.length = 2 := by kernel_rfl
theorem ex5 : mergeP [[sA, sO], [sB, sO], [sA, sB]] = ([sA, sB, sO], true) := by kernel_rfl
theorem ex6 : ancP exG sY = ([sO, sA, sX, sY], 0) := by kernel_rfl
theorem ex7 : (allP exG).2 = (5, 71) := by kernel_rfl
theorem ex8 : precP exG sC sA sB = (true, 0) := by kernel_rfl

theorem NilV.cons {e : Nat} {p q : List PV} {xs ys : List (List PV)} (hl : p.length = q.length) (h : ∀ (j : Nat) (h3 : j < p.length) (h4 : j < q.length), NilV p[j] q[j]) (k : NilV (.list e xs) (.list e ys)) : NilV (.list e (p :: xs)) (.list e (q :: ys)) := by
  cases k with
  | same => exact .list _ _ _ rfl (fun i h1 h2 => by cases i with
      | zero => exact hl
      | succ i => rfl) (fun i h1 h2 j h3 h4 => by cases i with
      | zero => exact h j h3 h4
      | succ i => exact .same _)
  | list _ _ _ hl' hs' h' => exact .list _ _ _ (by simp [hl']) (fun i h1 h2 => by cases i with
      | zero => exact hl
      | succ i => exact hs' i (by simpa using h1) (by simpa using h2)) (fun i h1 h2 j h3 h4 => by cases i with
      | zero => exact h j h3 h4
      | succ i => exact h' i (by simpa using h1) (by simpa using h2) j h3 h4)

theorem example_spec : FnP PP 44 [] (HS exG) := by
  refine Fn_end (Fn_of_T GT_ok Go.Proofs.Try.func44 rfl (by rfl) (by rfl) ?_)
  refine go ?_; intros
  refine .inl ?_
  refine go ?_; intros
  refine .inl ?_
  refine go ?_; intros
  refine .inl ?_
  refine go ?_; intros
  refine .inl ?_
  refine go ?_; intros
  refine .inl ?_
  refine go ?_; intros
  refine ⟨_, sle_refl _, OView.nilv (q := HS exG) (NilV.cons rfl (fun j h3 h4 => ?_) (.same _)) (OView.same ⟨rfl, rfl⟩)⟩
  match j, h3 with
  | 0, _ => exact .same _
  | 1, _ => exact .nils 16
instance : Spec 44 [] (HS exG) := ⟨example_spec⟩

theorem sane_spec : FnP PP 13 [] (.bool true) := by
  refine Fn_of_T GT_ok Go.Proofs.Try.func13 rfl (by rfl) (by rfl) ?_
  refine go ?_; intros
  refine .inl ?_
  refine go ?_; intros
  refine .inl ?_
  refine go ?_; intros
  refine .inl ?_
  refine go ?_; intros
  refine .inl ?_
  refine go ?_; intros
  refine callW_pure (mergeV_eq [[sA, sO], [sB, sO], [sA, sB]] ▸ merge_spec [[sA, sO], [sB, sO], [sA, sB]]) ?_
  rw [ex5]
  rw [show linzP exG { data := #[99] } = _ from ex1]
  refine go ?_; intros
  rw [show ancP exG { data := #[121] } = _ from ex6]
  refine .inl ?_
  refine go ?_; intros
  refine callW_pure (same_spec [sC, sA, sB, sO] [sC, sA, sB, sO]) ?_
  refine go ?_; intros
  refine .inl ?_
  refine go ?_; intros
  refine callW_pure (same_spec [sA, sB, sO] [sA, sB, sO]) ?_
  refine go ?_; intros
  refine .inl ?_
  refine go ?_; intros
  refine callW_pure (same_spec [sO, sA, sX, sY] [sO, sA, sX, sY]) ?_
  refine go ?_; intros
  exact ⟨E, sle_E _, by rw [decide_eq_true rfl], rfl⟩
instance : Spec 13 [] (.bool true) := ⟨sane_spec⟩

end Go.Proofs.Ytohldellkddmoaa.L

namespace Go.Proofs.Ytohldellkddmoaa.L
open Go
set_option linter.unusedSimpArgs false
set_option linter.unnecessarySimpa false
set_option linter.unusedVariables false
attribute [local irreducible] T TL
set_option maxRecDepth 10000

instance (a b : List (List ByteArray)) : Spec 21 [LLS a, LLS b] (.bool (decide (a = b))) := ⟨sameLists_spec a b⟩

theorem merges_spec (l : List (List ByteArray)) : FnP PP 3 [LLS l] (.bool true) := by
  refine Fn_of_T GT_ok Go.Proofs.Try.func3 rfl (by rfl) (by rfl) ?_
  refine go ?_; intros
  refine And.intro (fun _ => ?_) (fun h => by simp at h)
  refine go ?_; intros
  exact ⟨E, sle_E _, by simp, rfl⟩

theorem linear_law (g : List HeirT) (name : ByteArray) : FnP PP 4 [HS g, .str name] (.bool true) := by
  refine Fn_of_T GT_ok Go.Proofs.Try.func4 rfl (by rfl) (by rfl) ?_
  refine go ?_; intros
  refine newW_intro fun q hq => ?_
  refine go ?_; intros
  refine ifD (fun _ => ?_) (fun h => absurd rfl h)
  refine go ?_; intros
  refine ifD (fun _ => ?_) (fun h => absurd rfl h)
  refine go ?_; intros
  refine ifD (fun _ => ?_) (fun h => absurd rfl h)
  refine go ?_; intros
  refine ifD (fun _ => ?_) (fun h => absurd rfl h)
  refine go ?_; intros
  exact ⟨E, sle_E _, by rw [decide_eq_true rfl], rfl⟩

theorem classes_law (g : List HeirT) (a b : ByteArray) : FnP PP 10 [HS g, .str a, .str b] (.bool true) := by
  refine Fn_of_T GT_ok Go.Proofs.Try.func10 rfl (by rfl) (by rfl) ?_
  refine go ?_; intros
  refine ifD (fun _ => ?_) (fun h => absurd rfl h)
  refine go ?_; intros
  refine ifD (fun _ => ?_) (fun h => absurd rfl h)
  refine go ?_; intros
  refine ifD (fun _ => ?_) (fun h => absurd rfl h)
  refine go ?_; intros
  exact ⟨E, sle_E _, by simp, rfl⟩

theorem checks_law (g : List HeirT) (n a b : ByteArray) (l : List ByteArray) : FnP PP 12 [HS g, .agg [.str n, .str a, .str b], LS l] (.bool true) := by
  refine Fn_of_T GT_ok Go.Proofs.Try.func12 rfl (by rfl) (by rfl) ?_
  have hc := cyc_err g n
  refine go ?_; intros
  refine newW_intro fun q hq => ?_
  refine go ?_; intros
  refine And.intro (fun _ => ?_) (fun h => by simp at h)
  refine go ?_; intros
  refine ifNF (fun _ => ?_) (fun h => absurd rfl h)
  refine go ?_; intros
  refine ifNF (fun _ => ?_) (fun h => absurd rfl h)
  refine go ?_; intros
  refine And.intro (fun _ => ?_) (fun h => by simp at h)
  refine go ?_; intros
  rw [hc]
  refine ifN (fun h => absurd rfl h) (fun _ => ?_)
  refine go ?_; intros
  refine stop (T_drawW GT_ok (by rfl) 25 (by decide) ?_)
  refine go ?_; intros
  refine ifD (fun _ => ?_) (fun h => absurd rfl h)
  refine go ?_; intros
  exact ⟨E, sle_E _, by rw [decide_eq_true rfl], rfl⟩

end Go.Proofs.Ytohldellkddmoaa.L

