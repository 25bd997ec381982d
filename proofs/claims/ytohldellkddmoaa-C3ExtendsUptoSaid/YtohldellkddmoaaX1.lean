/- A logic over the machine, and what the functions of the seat come to: part 1. No claim stands here; the theorems are used by the row. -/
import Derived.Test.YtohldellkddmoaaK3
namespace Go.Proofs.Ytohldellkddmoaa.L
open Go
set_option linter.unusedSimpArgs false
set_option linter.unnecessarySimpa false
set_option linter.unusedVariables false

/-- the steps of merging -/
theorem merge_ind {C : List (List ByteArray) → Option (List ByteArray) → Prop} (h0 : ∀ l, candO l = none → l.any (fun x => decide (x.length > 0)) = false → C l (some []))
    (hn : ∀ l, candO l = none → l.any (fun x => decide (x.length > 0)) = true → C l none)
    (hs : ∀ l s, candO l = some s → C (l.map (takeOff s)) (mergeX (l.map (takeOff s))) → C l ((mergeX (l.map (takeOff s))).map (s :: ·))) : ∀ l, C l (mergeX l) := by
  suffices H : ∀ n l, total l = n → C l (mergeX l) from fun l => H _ l rfl
  intro n
  induction n using Nat.strongRecOn with
  | _ n ih =>
    intro l hl
    cases e : candO l with
    | none =>
      cases ha : l.any (fun x => decide (x.length > 0)) with
      | true => rw [mergeX_none ha e]; exact hn l e ha
      | false => rw [mergeX_nil ha]; exact h0 l e ha
    | some s =>
      have hlt := total_takeOff_lt (candO_mem e)
      have ha : l.any (fun x => decide (x.length > 0)) = true := by
        obtain ⟨x, hx, t, rfl⟩ := candO_mem e
        exact List.any_eq_true.2 ⟨_, hx, by simp⟩
      rw [mergeX_step ha e]
      exact hs l s e (ih _ (by omega) _ rfl)

theorem takeOff_cons (s : ByteArray) (x : List ByteArray) : x = s :: takeOff s x ∨ takeOff s x = x := by
  cases x with
  | nil => exact .inr rfl
  | cons h t =>
    simp only [takeOff]
    split
    · rename_i e; subst e; exact .inl rfl
    · exact .inr rfl

theorem merge_sub : ∀ (l : List (List ByteArray)) (out : List ByteArray), mergeX l = some out → ∀ x ∈ l, x.Sublist out := by
  intro l
  refine merge_ind (C := fun l o => ∀ out, o = some out → ∀ x ∈ l, x.Sublist out) ?_ ?_ ?_ l
  · intro l _ ha out ho x hx
    have := List.any_eq_false.1 ha x hx
    have : x = [] := by simpa using this
    rw [this]; exact List.nil_sublist _
  · intro l _ _ out ho; cases ho
  · intro l s hc ih out ho x hx
    cases e : mergeX (l.map (takeOff s)) with
    | none => rw [e] at ho; cases ho
    | some o =>
      rw [e] at ho
      simp only [Option.map_some, Option.some.injEq] at ho
      subst ho
      have h1 := ih o e (takeOff s x) (List.mem_map.2 ⟨x, hx, rfl⟩)
      rcases takeOff_cons s x with h | h
      · rw [h]; exact List.cons_sublist_cons.2 h1
      · rw [← h]; exact h1.cons _

theorem merge_mem {l : List (List ByteArray)} {out : List ByteArray} (h : mergeX l = some out) {a : ByteArray} : a ∈ out ↔ ∃ x ∈ l, a ∈ x := by
  refine ⟨fun ha => (merge_names _ l out (Nat.le_refl _) h).2 a ha, fun ⟨x, hx, ha⟩ => (merge_sub l out h x hx).subset ha⟩
theorem merge_nodup {l : List (List ByteArray)} {out : List ByteArray} (h : mergeX l = some out) : out.Nodup := (merge_names _ l out (Nat.le_refl _) h).1

theorem good_one {a : ByteArray} {t : List ByteArray} (h : a ∉ t) : good [a :: t] (a :: t) = true := by
  refine good_yes (by simp) fun y hy => ?_
  rw [List.mem_singleton.1 hy]
  simp only [List.tail_cons, List.getElem_cons_zero]
  rw [Bool.eq_false_iff, Ne, any_eqB]; exact h

theorem merge_one : ∀ (x : List ByteArray), x.Nodup → mergeX [x] = some x
  | [], _ => mergeX_nil (by simp)
  | a :: t, h => by
    obtain ⟨h1, h2⟩ := List.nodup_cons.1 h
    have hc : candO [a :: t] = some a := by unfold candO; simp [good_one h1]
    rw [mergeX_step (by simp) hc]
    simp [takeOff, merge_one t h2]

/-- one more list that stands in the result already -/
theorem cand_app {l : List (List ByteArray)} {s : ByteArray} {z : List ByteArray} (h : candO l = some s) (hz : s ∉ z.tail) : candO (l ++ [z]) = some s := by
  have hg : ∀ x, good (l ++ [z]) x = (good l x && match x with | [] => true | a :: _ => !(z.tail.any (eqB a))) := fun x => by
    cases x with
    | nil => simp [good_nil]
    | cons a t => simp [good, List.all_append]
  unfold candO at h ⊢
  cases e : l.find? (good l) with
  | none => rw [e] at h; cases h
  | some x =>
    rw [e] at h
    cases x with
    | nil => cases h
    | cons a t =>
      simp only [Option.some.injEq] at h
      subst h
      have : (l ++ [z]).find? (good (l ++ [z])) = some (a :: t) := by
        rw [List.find?_append]
        have h1 : l.find? (good (l ++ [z])) = some (a :: t) := by
          clear hg
          have hg2 : ∀ x, good (l ++ [z]) x = true → good l x = true := fun x => by
            cases x with
            | nil => simp [good_nil]
            | cons b u => simp only [good, List.all_append, Bool.and_eq_true]; exact fun h => h.1
          have hgx : good (l ++ [z]) (a :: t) = true := by
            have hx := List.find?_some e
            simp only [good, List.all_append, Bool.and_eq_true] at hx ⊢
            refine ⟨hx, ?_⟩
            simp only [List.all_cons, List.all_nil, Bool.and_true, Bool.not_eq_true']
            rw [Bool.eq_false_iff, Ne, any_eqB]; exact hz
          generalize hp : good (l ++ [z]) = p at hg2 hgx
          generalize hq : good l = q at hg2 e
          clear hp hq
          induction l with
          | nil => cases e
          | cons y l ih =>
            rw [List.find?_cons] at e ⊢
            cases hq : q y with
            | true =>
              rw [hq] at e
              cases e
              rw [hgx]
            | false =>
              rw [hq] at e
              have : p y = false := by
                cases hp : p y with
                | false => rfl
                | true => rw [hg2 y hp] at hq; cases hq
              rw [this]; exact ih e
        rw [h1]; rfl
      rw [this]

theorem sub_tail {s : ByteArray} {z o : List ByteArray} (h : z.Sublist (s :: o)) (hn : (s :: o).Nodup) : s ∉ z.tail ∧ (takeOff s z).Sublist o := by
  obtain ⟨h1, h2⟩ := List.nodup_cons.1 hn
  cases z with
  | nil => exact ⟨by simp, List.nil_sublist _⟩
  | cons a t =>
    by_cases e : a = s
    · subst e
      have := List.cons_sublist_cons.1 h
      refine ⟨fun hm => h1 (this.subset hm), ?_⟩
      simp only [takeOff, if_true]; exact this
    · have h3 : (a :: t).Sublist o := by
        rcases List.sublist_cons_iff.1 h with h | ⟨r, hr, _⟩
        · exact h
        · injection hr with hr _; exact absurd hr e
      refine ⟨fun hm => h1 (h3.subset (List.mem_cons_of_mem _ hm)), ?_⟩
      simp only [takeOff, if_neg e]; exact h3

theorem merge_part : ∀ (l : List (List ByteArray)) (out z : List ByteArray), mergeX l = some out → z.Sublist out → mergeX (l ++ [z]) = some out := by
  intro l
  refine merge_ind (C := fun l o => ∀ out z, o = some out → z.Sublist out → mergeX (l ++ [z]) = some out) ?_ ?_ ?_ l
  · intro l hc ha out z ho hz
    cases ho
    rw [List.sublist_nil.1 hz]
    exact mergeX_nil (by rw [List.any_append, ha]; simp)
  · intro l _ _ out z ho; cases ho
  · intro l s hc ih out z ho hz
    cases e : mergeX (l.map (takeOff s)) with
    | none => rw [e] at ho; cases ho
    | some o =>
      rw [e] at ho
      simp only [Option.map_some, Option.some.injEq] at ho
      subst ho
      have hany : l.any (fun x => decide (x.length > 0)) = true := by
        obtain ⟨x, hx, t, rfl⟩ := candO_mem hc
        exact List.any_eq_true.2 ⟨_, hx, by simp⟩
      have hnd : (s :: o).Nodup := by
        have := mergeX_step hany hc
        rw [e] at this
        exact merge_nodup this
      obtain ⟨h1, h2⟩ := sub_tail hz hnd
      have hc2 := cand_app hc h1
      rw [mergeX_step (by rw [List.any_append, hany]; rfl) hc2, List.map_append, List.map_cons, List.map_nil, ih o _ e h2]
      rfl

end Go.Proofs.Ytohldellkddmoaa.L

namespace Go.Proofs.Ytohldellkddmoaa.L
open Go
set_option linter.unusedSimpArgs false
set_option linter.unnecessarySimpa false
set_option linter.unusedVariables false

theorem ancL_sub (g : List HeirT) : ∀ (n : Nat) (out : List ByteArray), n ≤ g.length → ∀ b ∈ out, b ∈ ancL g n out
  | 0, out, _, b, h => h
  | n + 1, out, hn, b, h => by
    rw [ancL_at (by omega)]
    refine ancL_sub g n _ (by omega) b ?_
    split
    · exact List.mem_append_left _ h
    · exact h

theorem ancL_least {g : List HeirT} {P : ByteArray → Prop} : ∀ (n : Nat) (out : List ByteArray), n ≤ g.length → (∀ b ∈ out, P b) → (∀ j (hj : j < n) (hg : j < g.length), P g[j].1 → ∀ s ∈ g[j].2, P s) → ∀ b ∈ ancL g n out, P b
  | 0, out, _, h, _ => h
  | n + 1, out, hn, h, hc => by
    rw [ancL_at (by omega)]
    refine ancL_least n _ (by omega) ?_ fun j hj hg => hc j (by omega) hg
    split
    · rename_i hm
      intro b hb
      rcases List.mem_append.1 hb with hb | hb
      · exact h b hb
      · exact hc n (by omega) (by omega) (h _ (any_eqB.1 hm)) b hb
    · exact h

/-- what is added behind a step stands below its place -/
theorem ancL_new {g : List HeirT} (hg : Heirs g) : ∀ (n : Nat) (out : List ByteArray), n ≤ g.length → ∀ b ∈ ancL g n out, b ∈ out ∨ ∃ k, k < n ∧ ∃ hk : k < g.length, g[k].1 = b
  | 0, out, _, b, h => .inl h
  | n + 1, out, hn, b, h => by
    rw [ancL_at (by omega)] at h
    rcases ancL_new hg n _ (by omega) b h with h | ⟨k, hk, h⟩
    · split at h
      · rcases List.mem_append.1 h with h | h
        · exact .inl h
        · obtain ⟨k, hk, e⟩ := hg.sup n (by omega) b h
          exact .inr ⟨k, by omega, by omega, e⟩
      · exact .inl h
    · exact .inr ⟨k, by omega, h⟩

theorem ancL_closed {g : List HeirT} (hg : Heirs g) : ∀ (n : Nat) (out : List ByteArray), n ≤ g.length → ∀ j (hj : j < n) (hjg : j < g.length), g[j].1 ∈ ancL g n out → ∀ s ∈ g[j].2, s ∈ ancL g n out
  | n + 1, out, hn, j, hj, hjg, h, s, hs => by
    rw [ancL_at (by omega)] at h ⊢
    by_cases e : j = n
    · subst e
      have hin : g[j].1 ∈ out := by
        rcases ancL_new hg j _ (by omega) _ h with h | ⟨k, hk, hkg, e⟩
        · split at h
          · rcases List.mem_append.1 h with h | h
            · exact h
            · obtain ⟨k, hk, e⟩ := hg.sup j hjg _ h
              have := hg.uniq k j (by omega) hjg e; omega
          · exact h
        · have := hg.uniq k j hkg hjg e; omega
      rw [if_pos (any_eqB.2 hin)]
      exact ancL_sub g j _ (by omega) s (List.mem_append_right _ hs)
    · exact ancL_closed hg n _ (by omega) j (by omega) hjg h s hs

/-- the names of a class and its ancestors -/
def Anc (g : List HeirT) (i : Nat) : List ByteArray := match g[i]? with
  | some h => ancL g (i + 1) [h.1]
  | none => []
theorem Anc_eq {g : List HeirT} {i : Nat} (hi : i < g.length) : Anc g i = ancL g (i + 1) [g[i].1] := by
  unfold Anc; rw [List.getElem?_eq_getElem hi]

section
theorem anc_self {g : List HeirT} {i : Nat} (hi : i < g.length) : g[i].1 ∈ Anc g i := by rw [Anc_eq hi]; exact ancL_sub g _ _ (by omega) _ (by simp)
variable {g : List HeirT} (hg : Heirs g)
include hg

theorem anc_le {i : Nat} (hi : i < g.length) {b : ByteArray} (h : b ∈ Anc g i) : ∃ k, k ≤ i ∧ ∃ hk : k < g.length, g[k].1 = b := by
  rw [Anc_eq hi] at h
  exact ancL_le (i := i) hg (i + 1) [g[i].1] (by omega) (fun b hb => ⟨i, by omega, hi, (List.mem_singleton.1 hb).symm⟩) b h
theorem anc_closed {i j : Nat} (hi : i < g.length) (hj : j < g.length) (h : g[j].1 ∈ Anc g i) : ∀ s ∈ g[j].2, s ∈ Anc g i := by
  obtain ⟨k, hk, hkg, e⟩ := anc_le hg hi h
  have := hg.uniq k j hkg hj e
  rw [Anc_eq hi] at h ⊢
  exact ancL_closed hg _ _ (by omega) j (by omega) hj h
theorem anc_trans {i k : Nat} (hi : i < g.length) (hk : k < g.length) (h : g[k].1 ∈ Anc g i) : ∀ b ∈ Anc g k, b ∈ Anc g i := by
  rw [Anc_eq hk]
  exact ancL_least _ _ (by omega) (fun b hb => by rw [List.mem_singleton.1 hb]; exact h) fun j _ hj hm => anc_closed hg hi hj hm

/-- a linearization, taken apart -/
theorem lin_parts {i : Nat} (hi : i < g.length) {l : List ByteArray} (h : lin g i = some l) : ∃ ls out, supsN (lin g) g g[i].2 = some ls ∧ mergeX (ls ++ [g[i].2]) = some out ∧ l = g[i].1 :: out := by
  rw [lin_eq hg hi] at h
  cases e : supsN (lin g) g g[i].2 with
  | none => rw [e] at h; cases h
  | some ls =>
    rw [e] at h
    dsimp only at h
    cases e2 : mergeX (ls ++ [g[i].2]) with
    | none => rw [e2] at h; cases h
    | some out => rw [e2] at h; cases h; exact ⟨ls, out, rfl, e2, rfl⟩

theorem sups_lin {i : Nat} (hi : i < g.length) {ls : List (List ByteArray)} (h : supsN (lin g) g g[i].2 = some ls) {s : ByteArray} (hs : s ∈ g[i].2) : ∃ k, ∃ hk : k < i, g[k].1 = s ∧ ∃ x, lin g k = some x ∧ x ∈ ls ∧ s ∈ x := by
  obtain ⟨k, hk, hat⟩ := hg.atsup hi hs
  obtain ⟨hkg, hks⟩ := atI_lt hat
  have key : ∀ (l : List ByteArray) (ls : List (List ByteArray)), supsN (lin g) g l = some ls → s ∈ l → ∃ x, lin g k = some x ∧ x ∈ ls := by
    intro l
    induction l with
    | nil => intro ls _ h; cases h
    | cons a l ih =>
      intro ls h hs
      simp only [supsN] at h
      cases e : atI g a with
      | none => rw [e] at h; cases h
      | some j =>
        rw [e] at h
        dsimp only at h
        cases e2 : lin g j with
        | none => rw [e2] at h; cases h
        | some x =>
          rw [e2] at h
          dsimp only at h
          cases e3 : supsN (lin g) g l with
          | none => rw [e3] at h; cases h
          | some r =>
            rw [e3] at h
            simp only [Option.map_some, Option.some.injEq] at h
            subst h
            rcases List.mem_cons.1 hs with rfl | hs
            · rw [hat] at e; cases e; exact ⟨x, e2, by simp⟩
            · obtain ⟨y, h1, h2⟩ := ih r e3 hs
              exact ⟨y, h1, by simp [h2]⟩
  obtain ⟨x, h1, h2⟩ := key _ _ h hs
  obtain ⟨t, ht, _⟩ := lin_names hg k hkg x h1
  exact ⟨k, hk, hks, x, h1, h2, by rw [ht, hks]; simp⟩

/-- each name behind the first stands in the linearization of a superclass -/
theorem out_sup {i : Nat} (hi : i < g.length) {ls : List (List ByteArray)} {out : List ByteArray} (h : supsN (lin g) g g[i].2 = some ls) (hm : mergeX (ls ++ [g[i].2]) = some out) {c : ByteArray} (hc : c ∈ out) :
    ∃ k, ∃ hk : k < i, g[k].1 ∈ g[i].2 ∧ ∃ x, lin g k = some x ∧ x ∈ ls ∧ c ∈ x := by
  obtain ⟨x, hx, hcx⟩ := (merge_mem hm).1 hc
  rcases List.mem_append.1 hx with hx | hx
  · obtain ⟨_, h2⟩ := supsN_mem h
    obtain ⟨s, hs, k, hat, hl⟩ := h2 x hx
    obtain ⟨hkg, hks⟩ := atI_lt hat
    obtain ⟨k', hk', hat'⟩ := hg.atsup hi hs
    rw [hat] at hat'; cases hat'
    exact ⟨k, hk', by rw [hks]; exact hs, x, hl, hx, hcx⟩
  · rw [List.mem_singleton.1 hx] at hcx
    obtain ⟨k, hk, hks, x, h1, h2, h3⟩ := sups_lin hg hi h hcx
    exact ⟨k, hk, by rw [hks]; exact hcx, x, h1, h2, h3⟩

theorem lin_anc : ∀ (i : Nat) (hi : i < g.length) (l : List ByteArray), lin g i = some l → ∀ b, b ∈ l ↔ b ∈ Anc g i := by
  intro i
  induction i using Nat.strongRecOn with
  | _ i ih =>
    intro hi l h b
    obtain ⟨ls, out, h1, h2, rfl⟩ := lin_parts hg hi h
    constructor
    · intro hb
      rcases List.mem_cons.1 hb with rfl | hb
      · exact anc_self hi
      · obtain ⟨k, hk, hks, x, hx, _, hbx⟩ := out_sup hg hi h1 h2 hb
        have := (ih k hk (by omega) x hx b).1 hbx
        exact anc_trans hg hi (by omega) (anc_closed hg hi hi (anc_self hi) _ hks) b this
    · intro hb
      rw [Anc_eq hi] at hb
      refine ancL_least (P := fun b => b ∈ g[i].1 :: out) _ _ (by omega) (fun b hb => by rw [List.mem_singleton.1 hb]; simp) (fun j hj hjg hm s hs => ?_) b hb
      refine List.mem_cons_of_mem _ ?_
      rcases List.mem_cons.1 hm with e | hm
      · have := hg.uniq j i hjg hi e
        subst this
        exact (merge_mem h2).2 ⟨g[j].2, by simp, hs⟩
      · obtain ⟨k, hk, hks, x, hx, hxl, hbx⟩ := out_sup hg hi h1 h2 hm
        have h3 := (ih k hk (by omega) x hx _).1 hbx
        have h4 := anc_closed hg (by omega) hjg h3 s hs
        exact (merge_mem h2).2 ⟨x, List.mem_append_left _ hxl, (ih k hk (by omega) x hx s).2 h4⟩

theorem ancOf_mem {i : Nat} (hi : i < g.length) {b : ByteArray} : b ∈ ancOf g i ↔ b ∈ Anc g i := by
  rw [← filter_late hg hi, Anc_eq hi]
  constructor
  · intro h
    obtain ⟨x, hx, rfl⟩ := List.mem_map.1 h
    exact any_eqB.1 (List.mem_filter.1 hx).2
  · intro h
    obtain ⟨k, _, hk, e⟩ := anc_le hg hi (by rw [Anc_eq hi]; exact h)
    exact List.mem_map.2 ⟨g[k], List.mem_filter.2 ⟨List.getElem_mem hk, any_eqB.2 (by rw [e]; exact h)⟩, e⟩
theorem names_nodup : (g.map (·.1)).Nodup := by
  rw [List.Nodup, List.pairwise_iff_getElem]
  intro i j hi hj hij e
  rw [List.getElem_map, List.getElem_map] at e
  have := hg.uniq i j (by simpa using hi) (by simpa using hj) e
  omega
theorem ancOf_nodup {i : Nat} (hi : i < g.length) : (ancOf g i).Nodup := by
  rw [← filter_late hg hi]
  exact (names_nodup hg).sublist (List.Sublist.map _ List.filter_sublist)

theorem lin_anc_len {i : Nat} (hi : i < g.length) {l : List ByteArray} (h : lin g i = some l) : l.length = (ancOf g i).length := by
  obtain ⟨t, _, hn, _⟩ := lin_names hg i hi l h
  have h1 := nodup_le hn (m := ancOf g i) fun a ha => (ancOf_mem hg hi).2 ((lin_anc hg i hi l h a).1 ha)
  have h2 := nodup_le (ancOf_nodup hg hi) (m := l) fun a ha => (lin_anc hg i hi l h a).2 ((ancOf_mem hg hi).1 ha)
  omega
end

theorem pair_idx {a b : ByteArray} {out : List ByteArray} (h : [a, b].Sublist out) : ∃ i j, ∃ hi : i < out.length, ∃ hj : j < out.length, i < j ∧ out[i] = a ∧ out[j] = b := by
  induction out with
  | nil => cases h
  | cons c out ih =>
    cases h with
    | cons _ h =>
      obtain ⟨i, j, hi, hj, h1, h2, h3⟩ := ih h
      exact ⟨i + 1, j + 1, by simp; omega, by simp; omega, by omega, by simpa using h2, by simpa using h3⟩
    | cons_cons _ h =>
      obtain ⟨j, hj, e⟩ := List.getElem_of_mem (List.singleton_sublist.1 h)
      exact ⟨0, j + 1, by simp, by simp; omega, by omega, rfl, by simpa using e⟩

theorem sub_idx {x out : List ByteArray} (h : x.Sublist out) (hn : out.Nodup) {p m j : Nat} (hp : p < x.length) (hm : m < x.length) (hj : j < out.length) (hpm : p ≤ m) (e : out[j] = x[p]) : ∃ k, ∃ hk : k < out.length, out[k] = x[m] ∧ j ≤ k := by
  by_cases hq : p = m
  · subst hq; exact ⟨j, hj, e, Nat.le_refl _⟩
  · have h1 : [x[p], x[m]].Sublist x := by
      refine List.Sublist.trans ?_ (List.drop_sublist p x)
      rw [List.drop_eq_getElem_cons hp]
      refine List.cons_sublist_cons.2 (List.singleton_sublist.2 ?_)
      rw [List.mem_iff_getElem]
      exact ⟨m - (p + 1), by rw [List.length_drop]; omega, by rw [List.getElem_drop]; congr 1; omega⟩
    obtain ⟨i, k, hi, hk, h2, h3, h4⟩ := pair_idx (h1.trans h)
    have := nodup_inj hn hi hj (by rw [h3, e])
    exact ⟨k, hk, h4, by omega⟩

/-- each class stands ahead of its ancestors -/
theorem lin_order {g : List HeirT} (hg : Heirs g) : ∀ (i : Nat) (hi : i < g.length) (l : List ByteArray), lin g i = some l → ∀ j (hj : j < l.length), ∃ k, atI g l[j] = some k ∧ ∀ b ∈ Anc g k, ∃ m, ∃ hm : m < l.length, l[m] = b ∧ j ≤ m := by
  intro i
  induction i using Nat.strongRecOn with
  | _ i ih =>
    intro hi l h j hj
    have hla := lin_anc hg i hi l h
    obtain ⟨t, _, hnd, _⟩ := lin_names hg i hi l h
    obtain ⟨ls, out, h1, h2, rfl⟩ := lin_parts hg hi h
    cases j with
    | zero =>
      refine ⟨i, hg.at hi, fun b hb => ?_⟩
      obtain ⟨m, hm, e⟩ := List.getElem_of_mem ((hla b).2 hb)
      exact ⟨m, hm, e, by omega⟩
    | succ j =>
      have hjo : j < out.length := by simpa using hj
      obtain ⟨k, hk, hks, x, hx, hxl, hcx⟩ := out_sup hg hi h1 h2 (List.getElem_mem hjo)
      obtain ⟨p, hp, e⟩ := List.getElem_of_mem hcx
      obtain ⟨kc, hat, hanc⟩ := ih k hk (by omega) x hx p hp
      refine ⟨kc, by rw [List.getElem_cons_succ, ← e]; exact hat, fun b hb => ?_⟩
      obtain ⟨m, hm, hmb, hpm⟩ := hanc b hb
      obtain ⟨q, hq, hqe, hjq⟩ := sub_idx (merge_sub _ out h2 x (List.mem_append_left _ hxl)) (merge_nodup h2) hp hm hjo hpm e.symm
      exact ⟨q + 1, by simp; omega, by rw [List.getElem_cons_succ, hqe, hmb], by omega⟩

end Go.Proofs.Ytohldellkddmoaa.L

namespace Go.Proofs.Ytohldellkddmoaa.L
open Go
set_option linter.unusedSimpArgs false
set_option linter.unnecessarySimpa false
set_option linter.unusedVariables false

theorem idx_at {a : ByteArray} {l : List ByteArray} (hn : l.Nodup) {i : Nat} (hi : i < l.length) (h : l[i] = a) : idxF (eqB a) l = i := by
  rcases idxF_cases (eqB a) l with ⟨_, hno⟩ | ⟨j, hj, e, hp, _⟩
  · have := hno i hi; simp [eqB, h] at this
  · have : l[j] = a := by simpa [eqB] using (by simpa [eqB] using hp : a = l[j]).symm
    rw [e, nodup_inj hn hj hi (by rw [this, h])]

theorem idx_some {a : ByteArray} {l : List ByteArray} (h : 0 ≤ idxF (eqB a) l) : ∃ i, ∃ hi : i < l.length, idxF (eqB a) l = i ∧ l[i] = a := by
  rcases idxF_cases (eqB a) l with ⟨e, _⟩ | ⟨j, hj, e, hp, _⟩
  · omega
  · exact ⟨j, hj, e, by simpa [eqB] using (by simpa [eqB] using hp : a = l[j]).symm⟩

theorem ahead_sub {a b : ByteArray} {x L : List ByteArray} (h : aheadB a b x = true) (hs : x.Sublist L) (hn : L.Nodup) : idxF (eqB a) L < idxF (eqB b) L := by
  unfold aheadB at h
  simp only [Bool.and_eq_true, decide_eq_true_eq] at h
  obtain ⟨p, hp, e1, e2⟩ := idx_some (a := a) (l := x) h.1
  obtain ⟨m, hm, e3, e4⟩ := idx_some (a := b) (l := x) (by omega)
  have hpm : p < m := by omega
  obtain ⟨j, hj, e5⟩ := List.getElem_of_mem (hs.subset (List.getElem_mem hp))
  obtain ⟨k, hk, e6, hjk⟩ := sub_idx hs hn hp hm hj (by omega) e5
  have hne : j ≠ k := by
    rintro rfl
    have := nodup_inj (hn.sublist hs) hp hm (by rw [← e5, e6])
    omega
  rw [idx_at hn hj (by rw [e5, e2]), idx_at hn hk (by rw [e6, e4])]
  omega

theorem pair_ahead {a b : ByteArray} {x : List ByteArray} (h : [a, b].Sublist x) (hn : x.Nodup) : aheadB a b x = true := by
  obtain ⟨i, j, hi, hj, hij, e1, e2⟩ := pair_idx h
  unfold aheadB
  rw [idx_at hn hi e1, idx_at hn hj e2]
  simp; omega

/-- no cycle stands beside a linearization -/
theorem no_cycle {ls : List (List ByteArray)} {L : List ByteArray} (hs : ∀ x ∈ ls, x.Sublist L) (hn : L.Nodup) (l : List ByteArray) (hl : 0 < l.length) : ¬ (List.range l.length).all (stepOk ls l) = true := by
  intro hall
  have hstep : ∀ i (hi : i < l.length), idxF (eqB l[i]) L < idxF (eqB (l[(i + 1) % l.length]'(Nat.mod_lt _ hl))) L := fun i hi => by
    have h1 := List.all_eq_true.1 hall i (List.mem_range.2 hi)
    unfold stepOk at h1
    rw [List.getElem?_eq_getElem hi, List.getElem?_eq_getElem (Nat.mod_lt _ hl)] at h1
    obtain ⟨x, hx, h2⟩ := List.any_eq_true.1 h1
    exact ahead_sub h2 (hs x hx) hn
  have hinc : ∀ i (hi : i < l.length), idxF (eqB l[0]) L ≤ idxF (eqB l[i]) L := by
    intro i
    induction i with
    | zero => intro _; exact Int.le_refl _
    | succ i ih =>
      intro hi
      have h1 := ih (by omega)
      have h2 := hstep i (by omega)
      have e : (i + 1) % l.length = i + 1 := Nat.mod_eq_of_lt hi
      simp only [e] at h2
      omega
  have h1 := hinc (l.length - 1) (by omega)
  have h2 := hstep (l.length - 1) (by omega)
  have e : (l.length - 1 + 1) % l.length = 0 := by rw [Nat.sub_add_cancel hl, Nat.mod_self]
  simp only [e] at h2
  omega

theorem stuck_suffix : ∀ (n : Nat) (l : List (List ByteArray)), total l = n → ∀ y ∈ stuckX l, ∃ x ∈ l, y <:+ x := by
  intro n
  induction n using Nat.strongRecOn with
  | _ n ih =>
    intro l hl y hy
    cases e : candO l with
    | none => rw [stuckX_none e] at hy; exact ⟨y, hy, List.suffix_refl _⟩
    | some s =>
      rw [stuckX_step e] at hy
      obtain ⟨z, hz, h1⟩ := ih _ (by have := total_takeOff_lt (candO_mem e); omega) _ rfl y hy
      obtain ⟨x, hx, rfl⟩ := List.mem_map.1 hz
      refine ⟨x, hx, h1.trans ?_⟩
      rcases takeOff_cons s x with h | h
      · exact ⟨[s], h.symm⟩
      · rw [h]; exact List.suffix_refl _

/-- a cycle of precedences -/
structure CycOk (ls : List (List ByteArray)) (w : List ByteArray) : Prop where
  two : 2 ≤ w.length
  nd : w.Nodup
  step : (List.range w.length).all (stepOk ls w) = true

theorem cyc_valid {ls : List (List ByteArray)} (hn : ∀ x ∈ ls, x.Nodup) : ∀ (n : Nat) (p : List ByteArray), 0 < p.length → p.Nodup → (∀ s ∈ p, ∃ x ∈ (stuckX ls).filter neB, ∃ t, x = s :: t) →
    (∀ i (h : i + 1 < p.length), ls.any (aheadB p[i + 1] p[i]) = true) → ((stuckX ls).filter neB).length + 2 ≤ n + p.length → CycOk ls (cycN ((stuckX ls).filter neB) n p)
  | 0, p, hp, hnd, hh, _, hle => by
    exfalso
    have := nodup_le (m := ((stuckX ls).filter neB).map (·.headD ByteArray.empty)) hnd fun a ha => by
      obtain ⟨x, hx, t, rfl⟩ := hh a ha
      exact List.mem_map.2 ⟨_, hx, rfl⟩
    simp only [List.length_map] at this
    omega
  | n + 1, p, hp, hnd, hh, hst, hle => by
    have hlast : p.length - 1 < p.length := by omega
    have hgl : p.getLast? = some p[p.length - 1] := by rw [List.getLast?_eq_getElem?, List.getElem?_eq_getElem hlast]
    generalize hs : p[p.length - 1] = s at hgl
    obtain ⟨x0, hx0, t0, hxs0⟩ := hh s (by rw [← hs]; exact List.getElem_mem hlast)
    have hsx : x0 ∈ stuckX ls := (List.mem_filter.1 hx0).1
    obtain ⟨y0, hy0, hb⟩ := behind_some (stuckX_cand ls) hsx (by rw [hxs0]; simp)
    have hb' : y0.tail.any (eqB s) = true := by subst hxs0; exact hb
    have hy0n : y0 ∈ (stuckX ls).filter neB := List.mem_filter.2 ⟨hy0, by cases y0 with
      | nil => cases hb'
      | cons _ _ => rfl⟩
    -- the list that is found
    cases hf : ((stuckX ls).filter neB).find? (fun x => x.tail.any (eqB s)) with
    | none => rw [List.find?_eq_none] at hf; exact absurd hb' (hf y0 hy0n)
    | some y =>
      have hyp := List.find?_some hf
      have hym := List.mem_of_find?_eq_some hf
      cases y with
      | nil => cases hyp
      | cons t r =>
        have hsr : s ∈ r := any_eqB.1 hyp
        obtain ⟨x, hx, hsuf⟩ := stuck_suffix _ ls rfl _ (List.mem_filter.1 hym).1
        have hts : ls.any (aheadB t s) = true := by
          refine List.any_eq_true.2 ⟨x, hx, pair_ahead ?_ (hn x hx)⟩
          exact (List.cons_sublist_cons.2 (List.singleton_sublist.2 hsr)).trans hsuf.sublist
        have hne : t ≠ s := by
          rintro rfl
          obtain ⟨x, _, h⟩ := List.any_eq_true.1 hts
          unfold aheadB at h
          simp at h
        have hcyc : cycN ((stuckX ls).filter neB) (n + 1) p = if p.any (eqB t) then (p.drop (idxF (eqB t) p).toNat).reverse else cycN ((stuckX ls).filter neB) n (p ++ [t]) := by
          simp only [cycN, hgl, hf]
        rw [hcyc]
        split
        · rename_i hany
          have h0 : 0 ≤ idxF (eqB t) p := by rw [← idxF_any] at hany; simpa using hany
          obtain ⟨q, hq, e1, e2⟩ := idx_some h0
          rw [e1, Int.toNat_natCast]
          have hqn : q ≠ p.length - 1 := by
            rintro rfl
            exact hne (by rw [← e2, hs])
          have hlen : ((p.drop q).reverse).length = p.length - q := by simp
          have hget : ∀ i (h : i < ((p.drop q).reverse).length), ((p.drop q).reverse)[i] = p[p.length - 1 - i]'(by omega) := fun i h => by
            rw [List.getElem_reverse, List.getElem_drop]
            congr 1
            rw [List.length_drop]; omega
          refine ⟨by rw [hlen]; omega, ?_, ?_⟩
          · exact List.pairwise_reverse.2 ((hnd.sublist (List.drop_sublist _ _)).imp fun h => h.symm)
          · rw [List.all_eq_true]
            intro i hi
            have hi := List.mem_range.1 hi
            have hm : (i + 1) % ((p.drop q).reverse).length < ((p.drop q).reverse).length := Nat.mod_lt _ (by omega)
            unfold stepOk
            rw [List.getElem?_eq_getElem hi, List.getElem?_eq_getElem hm]
            dsimp only
            rw [hget _ hi, hget _ hm]
            by_cases hl : i + 1 < ((p.drop q).reverse).length
            · have e : (i + 1) % ((p.drop q).reverse).length = i + 1 := Nat.mod_eq_of_lt hl
              simp only [e]
              have h3 := hst (p.length - 1 - (i + 1)) (by omega)
              have e4 : p.length - 1 - (i + 1) + 1 = p.length - 1 - i := by omega
              simp only [e4] at h3
              exact h3
            · have ei : i = p.length - q - 1 := by omega
              have e : (i + 1) % ((p.drop q).reverse).length = 0 := by
                rw [show i + 1 = ((p.drop q).reverse).length by omega, Nat.mod_self]
              simp only [e, Nat.sub_zero, hs]
              have e5 : p[p.length - 1 - i]'(by omega) = t := by
                rw [← e2]; congr 1; omega
              rw [e5]; exact hts
        · rename_i hany
          have hnot : t ∉ p := fun h => hany (any_eqB.2 h)
          refine cyc_valid hn n (p ++ [t]) (by simp) ?_ ?_ ?_ (by rw [List.length_append]; simp; omega)
          · rw [List.nodup_append]
            exact ⟨hnd, by simp, fun a ha b hb => by rw [List.mem_singleton.1 hb]; rintro rfl; exact hnot ha⟩
          · intro a ha
            rcases List.mem_append.1 ha with ha | ha
            · exact hh a ha
            · rw [List.mem_singleton.1 ha]; exact ⟨_, hym, r, rfl⟩
          · intro i h
            rw [List.length_append, List.length_singleton] at h
            by_cases hi : i + 1 < p.length
            · rw [List.getElem_append_left hi, List.getElem_append_left (by omega)]
              exact hst i hi
            · have e : i = p.length - 1 := by omega
              subst e
              rw [List.getElem_append_right (by omega), List.getElem_append_left hlast, hs]
              simp only [List.getElem_singleton]
              exact hts

theorem cycOf_valid {ls : List (List ByteArray)} (hn : ∀ x ∈ ls, x.Nodup) (h : (stuckX ls).filter neB ≠ []) : CycOk ls (cycOf ls) := by
  unfold cycOf
  cases e : (stuckX ls).filter neB with
  | nil => exact absurd e h
  | cons y r =>
    cases y with
    | nil =>
      have := (List.mem_filter.1 (by rw [e]; simp : ([] : List ByteArray) ∈ (stuckX ls).filter neB)).2
      cases this
    | cons a t =>
      dsimp only
      rw [← e]
      refine cyc_valid hn _ [a] (by simp) (by simp) (fun s hs => ?_) (fun i h => by simp at h) (by simp)
      rw [List.mem_singleton.1 hs, e]
      exact ⟨a :: t, by simp, t, rfl⟩

theorem cycOf_nil {ls : List (List ByteArray)} (h : (stuckX ls).filter neB = []) : cycOf ls = [] := by unfold cycOf; rw [h]

end Go.Proofs.Ytohldellkddmoaa.L

namespace Go.Proofs.Ytohldellkddmoaa.L
open Go
set_option linter.unusedSimpArgs false
set_option linter.unnecessarySimpa false
set_option linter.unusedVariables false
attribute [local irreducible] T TL
set_option maxRecDepth 10000

theorem linz_no {g : List HeirT} {name : ByteArray} (h : (linzP g name).2 ≠ 0) : (linzP g name).1 = [] := by
  unfold linzP at h ⊢
  split
  · rfl
  · rename_i hn
    rw [if_neg hn] at h
    cases e : atI g name with
    | none => rfl
    | some i =>
      rw [e] at h
      dsimp only at h ⊢
      cases e2 : lin g i with
      | none => rfl
      | some l => rw [e2] at h; exact absurd rfl h
theorem linz_ok {g : List HeirT} {name : ByteArray} (h : (linzP g name).2 = 0) : checkV g = 0 ∧ ∃ i, atI g name = some i ∧ lin g i = some (linzP g name).1 := by
  unfold linzP at h ⊢
  by_cases hn : checkV g ≠ 0
  · rw [if_pos hn] at h; exact absurd h hn
  · rw [if_neg hn] at h ⊢
    refine ⟨by simpa using hn, ?_⟩
    cases e : atI g name with
    | none => rw [e] at h; cases h
    | some i =>
      rw [e] at h
      dsimp only at h ⊢
      cases e2 : lin g i with
      | none => rw [e2] at h; cases h
      | some l => exact ⟨i, rfl, e2⟩

theorem order_law (g : List HeirT) (name : ByteArray) : FnP PP 5 [HS g, .str name] (.bool true) := by
  refine Fn_of_T GT_ok Go.Proofs.Try.func5 rfl (by rfl) (by rfl) ?_
  refine go ?_; intros
  refine ifN (fun hc => ?_) (fun hc => ?_)
  · have he := linz_no hc
    refine go ?_; intros
    exact ⟨E, sle_E _, by rw [he]; rfl, rfl⟩
  · obtain ⟨hn, i, hat, hlin⟩ := linz_ok hc
    have hg := heirs_of hn
    obtain ⟨hi, hnm⟩ := atI_lt hat
    obtain ⟨ls, out, hs, hm, hl⟩ := lin_parts hg hi hlin
    have hA : ancP g name = (ancOf g i, 0) := by unfold ancP; simp [hn, hat]
    have hL : listsP g name = (ls ++ [g[i].2], 0) := by
      unfold listsP listsX; simp [hn, hat, List.getElem?_eq_getElem hi, hs]
    have hlen := lin_anc_len hg hi hlin
    have hord := lin_order hg i hi _ hlin
    have hset := lin_anc hg i hi _ hlin
    obtain ⟨t, ht, hnd, _⟩ := lin_names hg i hi _ hlin
    have hl120 := lin_len hg hi hlin
    have hsub : ∀ x ∈ ls ++ [g[i].2], x.Sublist (linzP g name).1 := fun x hx => by rw [hl]; exact (merge_sub _ out hm x hx).cons _
    have hlsl : (ls ++ [g[i].2]).length ≤ 9 := by
      have := (supsN_mem hs).1
      have := hg.few i hi
      simp; omega
    generalize hlv : (linzP g name).1 = l at *
    have hl0 : 0 < l.length := by rw [hl]; simp
    have hl00 : l[0] = name := by simp [hl, hnm]
    generalize hlsv : ls ++ [g[i].2] = lists at *
    refine go ?_; intros
    rw [hA, hL]
    refine go ?_; intros
    refine ifNF (fun _ => ?_) (fun h => absurd (by rw [List.length_map, List.length_map, hlen]) h)
    refine go ?_; intros
    refine ifF (fun _ => ?_) (fun h => absurd h (by rw [List.length_map]; omega))
    refine go ?_; intros
    refine ifNF (fun _ => ?_) (fun h => absurd hl00 h)
    refine go ?_; intros
    refine ifN (fun h => absurd hnd h) (fun _ => ?_)
    refine go ?_; intros
    refine stop (T_loop (α := Nat) (inv := fun k => k ≤ lists.length) (tm := fun k => mkT 131 [(0, HS g), (6, LS l), (8, LS (ancOf g i)), (10, LLS lists), (12, .int .i64 k)]) (st := fun _ => E) (μ := fun k => lists.length - k) 0 (by omega) ?_ (sle_refl _) ?_)
    · repeat' (first | exact trivial | exact rfl | refine And.intro ?_ ?_)
    intro k hk
    refine go ?_; intros
    refine ifD (fun hc => ?_) (fun hc => ?_)
    · have hkl : k < lists.length := by simpa using hc
      have hsk := hsub _ (List.getElem_mem hkl)
      refine go ?_; intros
      refine ifN (fun h => absurd hsk h) (fun _ => ?_)
      refine go ?_; intros
      exact ⟨k + 1, by omega, by omega, by repeat' (first | exact trivial | exact rfl | refine And.intro ?_ ?_), sle_refl _⟩
    · refine go ?_; intros
      refine stop (T_loop (α := Nat) (inv := fun k => k ≤ l.length) (tm := fun k => mkT 131 [(0, HS g), (6, LS l), (8, LS (ancOf g i)), (13, .int .i64 k)]) (st := fun _ => E) (μ := fun k => l.length - k) 0 (by omega) ?_ (sle_refl _) ?_)
      · repeat' (first | exact trivial | exact rfl | refine And.intro ?_ ?_)
      intro j hj
      refine go ?_; intros
      refine ifD (fun hc => ?_) (fun hc => ?_)
      · have hjl : j < l.length := by simpa using hc
        obtain ⟨k, hak, hanc⟩ := hord j hjl
        obtain ⟨hkg, hkn⟩ := atI_lt hak
        have hAj : ancP g l[j] = (ancOf g k, 0) := by unfold ancP; simp [hn, hak]
        have hin : 0 ≤ idxF (eqB l[j]) (ancOf g i) := by
          have := idxF_any (eqB l[j]) (ancOf g i)
          rw [any_eqB.2 ((ancOf_mem hg hi).2 ((hset _).1 (List.getElem_mem hjl)))] at this
          simpa using this
        have hal : (ancOf g k).length ≤ 120 := by
          have h1 : (ancOf g k).length ≤ g.length := by
            have := nodup_le (ancOf_nodup hg hkg) (m := g.map (·.1)) fun a ha => by
              obtain ⟨q, _, hq, e⟩ := anc_le hg hkg ((ancOf_mem hg hkg).1 ha)
              exact List.mem_map.2 ⟨g[q], List.getElem_mem hq, e⟩
            simpa using this
          have := hg.len
          omega
        refine go ?_; intros
        rw [hAj]
        refine go ?_; intros
        refine ifD (fun h => by omega) (fun _ => ?_)
        refine go ?_; intros
        refine stop (T_loop (α := Nat) (inv := fun q => q ≤ (ancOf g k).length) (tm := fun q => mkT 131 [(0, HS g), (6, LS l), (8, LS (ancOf g i)), (13, .int .i64 j), (14, LS (ancOf g k)), (16, .int .i64 q)]) (st := fun _ => E) (μ := fun q => (ancOf g k).length - q) 0 (by omega) ?_ (sle_refl _) ?_)
        · repeat' (first | exact trivial | exact rfl | refine And.intro ?_ ?_)
        intro q hq
        refine go ?_; intros
        refine ifD (fun hc => ?_) (fun hc => ?_)
        · have hql : q < (ancOf g k).length := by simpa using hc
          have hge : ¬ idxF (eqB (ancOf g k)[q]) l < j := by
            obtain ⟨m, hm, e, hjm⟩ := hanc _ ((ancOf_mem hg hkg).1 (List.getElem_mem hql))
            rcases idxF_cases (eqB (ancOf g k)[q]) l with ⟨_, hno⟩ | ⟨m', hm', h1, h2, _⟩
            · have := hno m hm
              simp [eqB, e] at this
            · have : m' = m := nodup_inj hnd hm' hm (by rw [e]; simpa [eqB] using (by simpa [eqB] using h2 : (ancOf g k)[q] = l[m']).symm)
              rw [h1]; omega
          refine go ?_; intros
          refine ifD (fun h => absurd h hge) (fun _ => ?_)
          refine go ?_; intros
          exact ⟨q + 1, by omega, by omega, by repeat' (first | exact trivial | exact rfl | refine And.intro ?_ ?_), sle_refl _⟩
        · refine go ?_; intros
          exact ⟨j + 1, by omega, by omega, by repeat' (first | exact trivial | exact rfl | refine And.intro ?_ ?_), sle_refl _⟩
      · refine go ?_; intros
        exact ⟨E, sle_E _, rfl, rfl⟩

end Go.Proofs.Ytohldellkddmoaa.L

namespace Go.Proofs.Ytohldellkddmoaa.L
open Go
set_option linter.unusedSimpArgs false
set_option linter.unnecessarySimpa false
set_option linter.unusedVariables false
attribute [local irreducible] T TL
set_option maxRecDepth 10000

theorem impossible_facts (g : List HeirT) (name : ByteArray) (l : List ByteArray) (h : (listsP g name).2 = 0) :
    ((linzP g name).2 = 0 → (cycP g name).2 = 3 ∧ (cycP g name).1 = [] ∧ vcV g name l = 73) ∧
    ((linzP g name).2 ≠ 0 → (linzP g name).2 = 71 ∧ (cycP g name).2 = 0 ∧ vcV g name (cycP g name).1 = 0) := by
  obtain ⟨hf, hg⟩ := lists_facts h
  have hce := cyc_err g name
  have hcE : cycE g name = if (linzP g name).2 = 0 then 3 else 0 := by unfold cycE; rw [if_neg (by simp [h])]
  have hcP : cycP g name = if (stuckX (listsP g name).1).filter neB = [] then ([], 3) else (cycOf (listsP g name).1, 0) := by unfold cycP; rw [if_neg (by simp [h])]
  have hV : ∀ l, vcV g name l = if l.length < 2 ∨ ¬ l.Nodup then 73 else if (List.range l.length).all (stepOk (listsP g name).1 l) then 0 else 73 := fun l => by
    unfold vcV; rw [if_neg (by simp [h])]
  constructor
  · intro h0
    rw [hcE, if_pos h0] at hce
    obtain ⟨hn, i, hat, hlin⟩ := linz_ok h0
    obtain ⟨hi, hnm⟩ := atI_lt hat
    obtain ⟨ls, out, hs, hm, hl⟩ := lin_parts hg hi hlin
    have hL : (listsP g name).1 = ls ++ [g[i].2] := by
      unfold listsP listsX; simp [hn, hat, List.getElem?_eq_getElem hi, hs]
    refine ⟨hce, ?_, ?_⟩
    · rw [hcP] at hce ⊢
      split
      · rfl
      · rename_i hne; rw [if_neg hne] at hce; cases hce
    · rw [hV, hL]
      split
      · rfl
      · rename_i h2
        rw [if_neg (no_cycle (merge_sub _ out hm) (merge_nodup hm) l (by omega))]
  · intro h0
    rw [hcE, if_neg h0] at hce
    refine ⟨?_, hce, ?_⟩
    · unfold listsP at h
      unfold linzP at h0 ⊢
      by_cases hn : checkV g ≠ 0
      · rw [if_pos hn] at h; exact absurd h hn
      · rw [if_neg hn] at h h0 ⊢
        cases hat : atI g name with
        | none => rw [hat] at h; cases h
        | some i =>
          rw [hat] at h0
          dsimp only at h0 ⊢
          cases e : lin g i with
          | none => rfl
          | some l => rw [e] at h0; exact absurd rfl h0
    · rw [hcP] at hce ⊢
      split
      · rename_i hne; rw [if_pos hne] at hce; cases hce
      · rename_i hne
        have ok := cycOf_valid (fun x hx => (hf x hx).1) hne
        dsimp only
        rw [hV, if_neg (by rintro (h | h); exact absurd ok.two (by omega); exact h ok.nd), if_pos ok.step]

theorem impossible_law (g : List HeirT) (name : ByteArray) (l : List ByteArray) : FnP PP 11 [HS g, .str name, LS l] (.bool true) := by
  refine Fn_of_T GT_ok Go.Proofs.Try.func11 rfl (by rfl) (by rfl) ?_
  refine go ?_; intros
  refine ifN (fun hc => ?_) (fun hc => ?_)
  · refine go ?_; intros
    exact ⟨E, sle_E _, rfl, rfl⟩
  · obtain ⟨f1, f2⟩ := impossible_facts g name l hc
    refine go ?_; intros
    refine ifD (fun hc => ?_) (fun hc => ?_)
    · obtain ⟨h1, h2, h3⟩ := f1 hc
      refine go ?_; intros
      rw [h1, h2]
      refine go ?_; intros
      rw [h3]
      refine go ?_; intros
      exact ⟨E, sle_E _, rfl, rfl⟩
    · obtain ⟨h1, h2, h3⟩ := f2 hc
      rw [h1, h2]
      refine go ?_; intros
      rw [h3]
      refine go ?_; intros
      exact ⟨E, sle_E _, rfl, rfl⟩

end Go.Proofs.Ytohldellkddmoaa.L

namespace Go.Proofs.Ytohldellkddmoaa.L
open Go
set_option linter.unusedSimpArgs false
set_option linter.unnecessarySimpa false
set_option linter.unusedVariables false

def ren (f : ByteArray → ByteArray) (g : List HeirT) : List HeirT := g.map fun h => (f h.1, h.2.map f)

theorem any_map_inj {f : ByteArray → ByteArray} (hf : ∀ a b, f a = f b → a = b) (l : List ByteArray) (s : ByteArray) : (l.map f).any (eqB (f s)) = l.any (eqB s) := by
  rw [Bool.eq_iff_iff, any_eqB, any_eqB, List.mem_map]
  exact ⟨fun ⟨a, h, e⟩ => hf _ _ e ▸ h, fun h => ⟨s, h, rfl⟩⟩

theorem good_ren {f : ByteArray → ByteArray} (hf : ∀ a b, f a = f b → a = b) (l : List (List ByteArray)) (x : List ByteArray) : good (l.map (·.map f)) (x.map f) = good l x := by
  cases x with
  | nil => rfl
  | cons h t =>
    simp only [good, List.map_cons, List.all_map]
    congr 1
    funext y
    simp only [Function.comp_apply]
    rw [← List.map_tail, any_map_inj hf]

theorem cand_ren {f : ByteArray → ByteArray} (hf : ∀ a b, f a = f b → a = b) (l : List (List ByteArray)) : candO (l.map (·.map f)) = (candO l).map f := by
  unfold candO
  have h : good (l.map (·.map f)) ∘ (·.map f) = good l := by funext x; exact good_ren hf l x
  rw [List.find?_map, h]
  cases l.find? (good l) with
  | none => rfl
  | some x => cases x <;> rfl

theorem take_ren {f : ByteArray → ByteArray} (hf : ∀ a b, f a = f b → a = b) (s : ByteArray) (x : List ByteArray) : takeOff (f s) (x.map f) = (takeOff s x).map f := by
  cases x with
  | nil => rfl
  | cons h t =>
    simp only [takeOff, List.map_cons]
    by_cases e : h = s
    · subst e; simp
    · rw [if_neg (fun h' => e (hf _ _ h')), if_neg e]; rfl

theorem full_ren {f : ByteArray → ByteArray} (l : List (List ByteArray)) : (l.map (·.map f)).any (fun x => decide (x.length > 0)) = l.any (fun x => decide (x.length > 0)) := by
  rw [List.any_map]; congr 1; funext x; simp

theorem merge_ren {f : ByteArray → ByteArray} (hf : ∀ a b, f a = f b → a = b) : ∀ l, mergeX (l.map (·.map f)) = (mergeX l).map (·.map f) := by
  refine merge_ind (C := fun l o => mergeX (l.map (·.map f)) = o.map (·.map f)) ?_ ?_ ?_
  · intro l _ ha
    rw [mergeX_nil (by rw [full_ren]; exact ha)]; rfl
  · intro l hc ha
    rw [mergeX_none (by rw [full_ren]; exact ha) (by rw [cand_ren hf, hc]; rfl)]; rfl
  · intro l s hc ih
    have ha : l.any (fun x => decide (x.length > 0)) = true := by
      obtain ⟨x, hx, t, rfl⟩ := candO_mem hc
      exact List.any_eq_true.2 ⟨_, hx, by simp⟩
    rw [mergeX_step (s := f s) (by rw [full_ren]; exact ha) (by rw [cand_ren hf, hc]; rfl)]
    have e : (l.map (·.map f)).map (takeOff (f s)) = (l.map (takeOff s)).map (·.map f) := by
      rw [List.map_map, List.map_map]; congr 1; funext x; exact take_ren hf s x
    rw [e, ih]
    cases mergeX (l.map (takeOff s)) <;> rfl

theorem sup_ren {f : ByteArray → ByteArray} (hf : ∀ a b, f a = f b → a = b) (seen : List ByteArray) : ∀ (l pre : List ByteArray), supOk (seen.map f) (pre.map f) (l.map f) = supOk seen pre l
  | [], _ => rfl
  | s :: l, pre => by
    simp only [List.map_cons, supOk]
    rw [any_map_inj hf, any_map_inj hf, ← sup_ren hf seen l (pre ++ [s]), List.map_append]; rfl

theorem check_ren {f : ByteArray → ByteArray} (hf : ∀ a b, f a = f b → a = b) (h0 : ∀ a, a ≠ ⟨#[]⟩ → f a ≠ ⟨#[]⟩) : ∀ (g : List HeirT) (seen : List ByteArray), checkL seen g = true → checkL (seen.map f) (ren f g) = true
  | [], _, _ => rfl
  | h :: g, seen, hc => by
    simp only [checkL, Bool.and_eq_true] at hc
    simp only [ren, List.map_cons, checkL, Bool.and_eq_true]
    refine ⟨?_, ?_⟩
    · have h1 := hc.1
      simp only [okHeir, Bool.and_eq_true] at h1 ⊢
      rw [any_map_inj hf]
      refine ⟨⟨⟨?_, h1.1.1.2⟩, by simpa using h1.1.2⟩, ?_⟩
      · have := h1.1.1.1
        simp at this ⊢
        exact h0 _ this
      · have := sup_ren hf seen h.2 []
        rw [List.map_nil] at this
        rw [this]; exact h1.2
    · have := check_ren hf h0 g (seen ++ [h.1]) hc.2
      rw [List.map_append] at this
      exact this

theorem checkV_ren {f : ByteArray → ByteArray} (hf : ∀ a b, f a = f b → a = b) (h0 : ∀ a, a ≠ ⟨#[]⟩ → f a ≠ ⟨#[]⟩) {g : List HeirT} (h : checkV g = 0) : checkV (ren f g) = 0 := by
  obtain ⟨h1, h2⟩ := check_ok h
  unfold checkV
  rw [if_neg (by simp [ren]; omega), if_pos (by simpa using check_ren hf h0 g [] h2)]

theorem at_ren {f : ByteArray → ByteArray} (hf : ∀ a b, f a = f b → a = b) : ∀ (g : List HeirT) (b : ByteArray), atI (ren f g) (f b) = atI g b
  | [], _ => rfl
  | h :: g, b => by
    have ih := at_ren hf g b
    simp only [ren] at ih
    simp only [ren, List.map_cons, atI, ih]
    cases atI g b with
    | some k => rfl
    | none =>
      by_cases e : b = h.1
      · simp [e]
      · simp only [if_neg e, if_neg (fun h' => e (hf _ _ h'))]

theorem sups_ren {f : ByteArray → ByteArray} (hf : ∀ a b, f a = f b → a = b) (g : List HeirT) : ∀ (l : List ByteArray), (∀ s ∈ l, ∀ k, atI g s = some k → lin (ren f g) k = (lin g k).map (·.map f)) →
    supsN (lin (ren f g)) (ren f g) (l.map f) = (supsN (lin g) g l).map (·.map (·.map f))
  | [], _ => rfl
  | s :: l, h => by
    have ih := sups_ren hf g l fun s' hs => h s' (by simp [hs])
    simp only [List.map_cons, supsN, at_ren hf]
    cases e : atI g s with
    | none => rfl
    | some k =>
      simp only []
      rw [h s (by simp) k e, ih]
      cases lin g k with
      | none => rfl
      | some x => cases supsN (lin g) g l <;> rfl

theorem lin_ren {f : ByteArray → ByteArray} (hf : ∀ a b, f a = f b → a = b) {g : List HeirT} (hg : Heirs g) (hr : Heirs (ren f g)) : ∀ i, i < g.length → lin (ren f g) i = (lin g i).map (·.map f) := by
  intro i
  induction i using Nat.strongRecOn with
  | _ i ih =>
    intro hi
    have hi' : i < (ren f g).length := by simpa [ren] using hi
    have e : (ren f g)[i] = (f g[i].1, g[i].2.map f) := by simp [ren]
    rw [lin_eq hr hi', lin_eq hg hi, e]
    have hs := sups_ren hf g g[i].2 fun s hs k hk => by
      obtain ⟨k', h1, h2⟩ := hg.atsup hi hs
      rw [h2] at hk
      cases hk
      exact ih k h1 (by omega)
    simp only []
    rw [hs]
    cases supsN (lin g) g g[i].2 with
    | none => rfl
    | some ls =>
      simp only [Option.map_some]
      have := merge_ren hf (ls ++ [g[i].2])
      rw [List.map_append] at this
      simp only [List.map_cons, List.map_nil] at this
      rw [this]
      cases mergeX (ls ++ [g[i].2]) <;> rfl

theorem linz_ren {f : ByteArray → ByteArray} (hf : ∀ a b, f a = f b → a = b) (h0 : ∀ a, a ≠ ⟨#[]⟩ → f a ≠ ⟨#[]⟩) {g : List HeirT} (h : checkV g = 0) (b : ByteArray) : linzP (ren f g) (f b) = ((linzP g b).1.map f, (linzP g b).2) := by
  have h' := checkV_ren hf h0 h
  unfold linzP
  rw [if_neg (by simp [h']), if_neg (by simp [h]), at_ren hf]
  cases e : atI g b with
  | none => rfl
  | some k =>
    have := lin_ren hf (heirs_of h) (heirs_of h') k (atI_lt e).1
    simp only [this]
    cases lin g k <;> rfl

end Go.Proofs.Ytohldellkddmoaa.L

namespace Go.Proofs.Ytohldellkddmoaa.L
open Go
set_option linter.unusedSimpArgs false
set_option linter.unnecessarySimpa false
set_option linter.unusedVariables false
attribute [local irreducible] T TL
set_option maxRecDepth 10000

theorem lin_top {g : List HeirT} (hg : Heirs g) {i : Nat} (hi : i < g.length) (h : g[i].2 = []) : lin g i = some [g[i].1] := by
  rw [lin_eq hg hi, h]
  simp only [supsN, List.nil_append]
  rw [merge_one [] (by simp)]; rfl
theorem lin_single {g : List HeirT} (hg : Heirs g) {i k : Nat} (hi : i < g.length) {s : ByteArray} (h : g[i].2 = [s]) (hk : atI g s = some k) : lin g i = (lin g k).map (g[i].1 :: ·) := by
  rw [lin_eq hg hi, h]
  simp only [supsN, hk]
  cases e : lin g k with
  | none => rfl
  | some x =>
    obtain ⟨hkg, hks⟩ := atI_lt hk
    obtain ⟨t, ht, hn, _⟩ := lin_names hg k hkg x e
    simp only [Option.map_some]
    rw [merge_part [x] x [s] (merge_one x hn) (by rw [ht, hks]; exact List.cons_sublist_cons.2 (List.nil_sublist _))]
    rfl
theorem linz_some {g : List HeirT} (hn : checkV g = 0) {name : ByteArray} {i : Nat} {l : List ByteArray} (hat : atI g name = some i) (h : lin g i = some l) : linzP g name = (l, 0) := by
  unfold linzP; rw [if_neg (by simp [hn]), hat]; simp only [h]
theorem linz_none {g : List HeirT} (hn : checkV g = 0) {name : ByteArray} {i : Nat} (hat : atI g name = some i) (h : lin g i = none) : linzP g name = ([], 71) := by
  unfold linzP; rw [if_neg (by simp [hn]), hat]; simp only [h]

theorem same_sups {g : List HeirT} (hg : Heirs g) {i k : Nat} (hi : i < g.length) (hk : k < g.length) (h : g[i].2 = g[k].2) : (lin g i = none ∧ lin g k = none) ∨ ∃ o, lin g i = some (g[i].1 :: o) ∧ lin g k = some (g[k].1 :: o) := by
  rw [lin_eq hg hi, lin_eq hg hk, h]
  cases supsN (lin g) g g[k].2 with
  | none => exact .inl ⟨rfl, rfl⟩
  | some ls =>
    cases e : mergeX (ls ++ [g[k].2]) with
    | none => left; simp [e]
    | some o => right; exact ⟨o, by simp [e], by simp [e]⟩

theorem T_mid {P : Program} {r : Option Nat} {c c2 : Code} {Q Q2 : Post} {t : List PV} {S : Store} {D : List DA} (t0 : List PV) (S0 : Store) (h1 : T P r c2 Q2 t0 S0 D) (h2 : T P r c (thenX (fun t' S' D' => D' = D ∧ tle t' t0 ∧ sle S' S0) Q) t S D) :
    T P r c (thenX (T P r c2 Q2) Q) t S D :=
  T.mono h2 fun x t S D h => by
    cases x with
    | normal => obtain ⟨rfl, a, b⟩ := h; exact h1.weak a b
    | _ => exact h

set_option maxHeartbeats 4000000 in
theorem simple_law (g : List HeirT) (name other : ByteArray) : FnP PP 8 [HS g, .str name, .str other] (.bool true) := by
  refine Fn_of_T GT_ok Go.Proofs.Try.func8 rfl (by rfl) (by rfl) ?_
  refine go ?_; intros
  refine ifNF (fun hn => ?_) (fun hn => ?_)
  · have hg := heirs_of hn
    have hgl := hg.len
    refine go ?_; intros
    refine ifF (fun hc => ?_) (fun hc => ?_)
    · have h1 := hc
      refine go ?_; intros
      refine ifD (fun hc => ?_) (fun hc => ?_)
      · refine go ?_; intros
        exact ⟨E, sle_E _, rfl, rfl⟩
      · obtain ⟨i0, hai⟩ : ∃ i, atI g name = some i := by
          cases e : atI g name with
          | none => exact absurd (idxH_neg.2 (atI_none_iff.1 e)) h1
          | some i => exact ⟨i, rfl⟩
        obtain ⟨k0, hak⟩ : ∃ i, atI g other = some i := by
          cases e : atI g other with
          | none => exact absurd (idxH_neg.2 (atI_none_iff.1 e)) hc
          | some i => exact ⟨i, rfl⟩
        obtain ⟨hi0, hin⟩ := atI_lt hai
        obtain ⟨hk0, hkn⟩ := atI_lt hak
        have hix : idxF (isH name) g = (i0 : Int) := by rw [idxH_at hg, hai]
        have hkx : idxF (isH other) g = (k0 : Int) := by rw [idxH_at hg, hak]
        rw [hix, hkx]
        refine go ?_; intros
        refine stop (T_drawW GT_ok (by rfl) 11 (by decide) ?_)
        refine goS ?_; intros
        refine T_mid (mkT 133 [(0, HS g), (7, .bool true), (8, LS (linzP g name).1), (9, .int .i64 (linzP g name).2), (12, .int .i64 i0)]) E ?_ ?_
        · refine go ?_; intros
          refine stop (T_nilrow 14 1 16 rfl fun gq hgq => ?_)
          let st : List ByteArray → Store := fun o => upd E gq (.row o.length 1 16 (o.map eS))
          have hS : ∀ o, st o gq = some (.row o.length 1 16 (o.map eS)) := fun o => upd_same _ _ _
          refine T_loop (α := List ByteArray × Nat × Bool) (inv := fun x => x.2.1 < g.length ∧ x.1.length ≤ g.length + 1 ∧ (x.2.2 = true → lin g i0 = (lin g x.2.1).map (x.1 ++ ·)))
            (tm := fun x => mkT 133 [(0, HS g), (7, .bool true), (8, LS (linzP g name).1), (9, .int .i64 (linzP g name).2), (12, .int .i64 x.2.1), (14, .row gq x.1.length 0 x.1.length 1), (15, .bool x.2.2)])
            (st := fun x => st x.1) (μ := fun x => x.2.1) ([], i0, true) ⟨hi0, by simp, fun _ => by simp⟩ ?_ (sle_refl _) ?_
          · repeat' (first | exact trivial | exact rfl | refine And.intro ?_ ?_)
          rintro ⟨c, i, s⟩ ⟨hi, hcg, hs⟩
          dsimp only at hi hcg hs ⊢
          have hSc := hS c
          cases s with
          | false =>
            refine go ?_; intros
            exact ⟨E, sle_E _, rfl, rfl⟩
          | true =>
            have hs := hs rfl
            refine go ?_; intros
            refine ifD (fun hc => ?_) (fun hc => ?_)
            · have hcc := hc
              have hcl : c.length ≤ 120 := by rw [List.length_map] at hc; omega
              refine go ?_; intros
              refine ifD (fun hc => ?_) (fun hc => ?_)
              · have hi2 : g[i].2 = [] := by simpa using hc
                have hl : lin g i0 = some (c ++ [g[i].1]) := by rw [hs, lin_top hg hi hi2]; rfl
                have a1 : (linzP g name).1 = c ++ [g[i].1] := by rw [linz_some hn hai hl]
                have a2 : (linzP g name).2 = 0 := by rw [linz_some hn hai hl]
                rw [a1, a2]
                refine goS ?_; intros
                refine T_view (View.trans (View_slot (d := 14) (q := .list 16 (c.map eS ++ [[.str g[i].1]])) (upd_same _ _ _) (fz_row (by simp))) (View.weak (tle_refl _) (sle_E _))) ?_
                rw [show c.map eS ++ [[PV.str g[i].1]] = (c ++ [g[i].1]).map eS by simp]
                refine go ?_; intros
                exact ⟨E, sle_E _, by rw [decide_eq_true rfl], rfl⟩
              · have hne : 0 < g[i].2.length := by simp at hc; exact List.length_pos_iff.2 hc
                obtain ⟨k, hki, hak2⟩ := hg.atsup hi (List.getElem_mem hne)
                have hix2 : idxF (isH g[i].2[0]) g = (k : Int) := by rw [idxH_at hg, hak2]
                refine go ?_; intros
                rw [hix2]
                refine ⟨(c ++ [g[i].1], k, decide ((g[i].2.length : Int) = 1)), ⟨by dsimp only; omega, by simp only [List.length_append, List.length_cons, List.length_nil]; rw [List.length_map] at hcc; omega, fun h1 => ?_⟩, hki, ?_, ?_⟩
                · have h1 : g[i].2.length = 1 := by have := of_decide_eq_true h1; omega
                  obtain ⟨s, es⟩ := List.length_eq_one_iff.1 h1
                  have ek : atI g s = some k := by simpa [es] using hak2
                  rw [hs, lin_single hg hi es ek]
                  cases lin g k <;> simp
                · repeat' (first | exact trivial | exact rfl | refine And.intro ?_ ?_)
                  all_goals simp
                · simp only [st]; rw [upd_upd, List.map_append, List.length_append]; exact sle_refl _
            · refine go ?_; intros
              exact ⟨E, sle_E _, rfl, rfl⟩
        · refine go ?_; intros
          refine ifD (fun hs => ?_) (fun hs => ?_)
          · rcases same_sups hg hi0 hk0 hs with ⟨e1, e2⟩ | ⟨o, e1, e2⟩
            · rw [linz_none hn hai e1, linz_none hn hak e2]
              refine go ?_; intros
              refine stop (T_drawW GT_ok (by rfl) 25 (by decide) ?_)
              refine go ?_; intros
              exact ⟨by repeat' (first | exact trivial | exact rfl | refine And.intro ?_ ?_), sle_E _⟩
            · have a1 : (linzP g name).1 = g[i0].1 :: o := by rw [linz_some hn hai e1]
              have a2 : (linzP g name).2 = 0 := by rw [linz_some hn hai e1]
              have b1 : (linzP g other).1 = g[k0].1 :: o := by rw [linz_some hn hak e2]
              have b2 : (linzP g other).2 = 0 := by rw [linz_some hn hak e2]
              rw [a1, a2, b1, b2]
              obtain ⟨l1, h1⟩ : ∃ l1, l1 = g[i0].1 :: o := ⟨_, rfl⟩
              obtain ⟨l2, h2⟩ : ∃ l2, l2 = g[k0].1 :: o := ⟨_, rfl⟩
              rw [← h1, ← h2]
              have n1 : 1 ≤ l1.length := by rw [h1]; simp
              have n2 : 1 ≤ l2.length := by rw [h2]; simp
              have hd : l1.drop 1 = l2.drop 1 := by rw [h1, h2]; rfl
              refine go ?_; intros
              refine stop (T_drawW GT_ok (by rfl) 25 (by decide) ?_)
              refine go ?_; intros
              refine And.intro (fun _ => ?_) (fun h => absurd (of_decide_eq_true h) (by rw [List.length_map]; omega))
              refine go ?_; intros
              refine And.intro (fun _ => ?_) (fun h => absurd (of_decide_eq_true h) (by rw [List.length_map]; omega))
              refine go ?_; intros
              refine ifN (fun h => absurd hd h) (fun _ => ?_)
              refine go ?_; intros
              exact ⟨by repeat' (first | exact trivial | exact rfl | refine And.intro ?_ ?_), sle_E _⟩
          · refine go ?_; intros
            exact ⟨by repeat' (first | exact trivial | exact rfl | refine And.intro ?_ ?_), sle_E _⟩
    · refine go ?_; intros
      exact ⟨E, sle_E _, rfl, rfl⟩
  · refine go ?_; intros
    exact ⟨E, sle_E _, rfl, rfl⟩

end Go.Proofs.Ytohldellkddmoaa.L

namespace Go.Proofs.Ytohldellkddmoaa.L
open Go
set_option linter.unusedSimpArgs false
set_option linter.unnecessarySimpa false
set_option linter.unusedVariables false
attribute [local irreducible] T TL
set_option maxRecDepth 10000

theorem pre_inj {p : ByteArray} : ∀ a b : ByteArray, p ++ a = p ++ b → a = b := fun a b h => by
  have h1 := congrArg (fun x : ByteArray => x.data.toList) h
  simp only [ByteArray.data_append, Array.toList_append, List.append_cancel_left_eq] at h1
  cases a; cases b
  simp only [ByteArray.mk.injEq]
  exact Array.toList_inj.1 h1
theorem pre_full {p : ByteArray} : ∀ a : ByteArray, a ≠ ⟨#[]⟩ → p ++ a ≠ ⟨#[]⟩ := fun a ha h => ha (by
  have h1 := congrArg (fun x : ByteArray => x.data.toList) h
  simp only [ByteArray.data_append, Array.toList_append] at h1
  have h2 := List.append_eq_nil_iff.1 h1
  cases a
  simp only [ByteArray.mk.injEq]
  exact Array.toList_inj.1 h2.2)

theorem linz_size {g : List HeirT} (hn : checkV g = 0) (hgs : ∀ y ∈ g, y.1.size ≤ 140737488351232 ∧ ∀ s ∈ y.2, s.size ≤ 140737488351232) {name s : ByteArray} (hs : s ∈ (linzP g name).1) : s.size ≤ 140737488351232 := by
  have hg := heirs_of hn
  cases e : atI g name with
  | none => unfold linzP at hs; rw [if_neg (by simp [hn]), e] at hs; cases hs
  | some i =>
    cases e2 : lin g i with
    | none => rw [linz_none hn e e2] at hs; cases hs
    | some l =>
      rw [linz_some hn e e2] at hs
      obtain ⟨hi, _⟩ := atI_lt e
      obtain ⟨t, ht, _, hm⟩ := lin_names hg i hi l e2
      rw [ht] at hs
      rcases List.mem_cons.1 hs with rfl | hs
      · exact (hgs _ (List.getElem_mem hi)).1
      · obtain ⟨k, hk, rfl⟩ := hm s hs
        exact (hgs _ (List.getElem_mem (by omega))).1

set_option maxHeartbeats 4000000 in
theorem names_law (g : List HeirT) (name p : ByteArray) (hgb : g.length * 40 ≤ 140737488351232) (hgs : ∀ y ∈ g, y.1.size ≤ 140737488351232 ∧ ∀ s ∈ y.2, s.size ≤ 140737488351232) (hns : name.size ≤ 140737488351232) :
    FnP PP 7 [HS g, .str name, .str p] (.bool true) := by
  refine Fn_of_T GT_ok Go.Proofs.Try.func7 rfl (by rfl) (by rfl) ?_
  refine go ?_; intros
  conv => whnf
  refine go ?_; intros
  refine ifD (fun hc => ?_) (fun hc => ?_)
  · refine go ?_; intros
    exact ⟨E, sle_E _, rfl, rfl⟩
  · have hp : p.size ≤ 20 := by omega
    refine go ?_; intros
    refine stop (T_nilrow 8 2 40 rfl fun gq hgq => ?_)
    let st : List HeirT → Store := fun o => upd E gq (.row o.length 2 40 (o.map eH))
    have hS : ∀ o, st o gq = some (.row o.length 2 40 (o.map eH)) := fun o => upd_same _ _ _
    let o : Nat → List HeirT := fun i => ren (p ++ ·) (g.take i)
    refine T_loop (α := Nat) (inv := fun i => i ≤ g.length)
      (tm := fun i => mkT 74 [(0, HS g), (1, .str name), (2, .str p), (7, .bool true), (8, .row gq (o i).length 0 (o i).length 2), (9, .int .i64 i)]) (st := fun i => st (o i)) (μ := fun i => g.length - i) 0 (by omega) ?_ (sle_refl _) ?_
    · repeat' (first | exact trivial | exact rfl | refine And.intro ?_ ?_)
    intro i hi
    have hSo := hS (o i)
    have hol : (o i).length = i := by simp [o, ren]; omega
    refine go ?_; intros
    refine ifD (fun hc => ?_) (fun hc => ?_)
    · have hil : i < g.length := by simpa using hc
      obtain ⟨hb1, hb2⟩ := hgs _ (List.getElem_mem hil)
      have hbi : p.size + g[i].1.size ≤ cap47 := by unfold cap47; omega
      haveI : Spec 27 [LS g[i].2, .str p] (LS (g[i].2.map (p ++ ·))) := ⟨renamed_spec _ _ fun s hs => by have := hb2 s hs; unfold cap47; omega⟩
      have ho : o (i + 1) = o i ++ [(p ++ g[i].1, g[i].2.map (p ++ ·))] := by simp only [o, ren]; rw [List.take_succ_eq_append_getElem hil, List.map_append]; rfl
      refine go ?_; intros
      refine stop (T_drawF GT_ok (by rfl) 16 [0] (by kernel_rfl) (by decide) (fun _ _ _ _ _ h => h) ?_)
      refine go ?_; intros
      apply Exists.intro; apply And.intro
      · conv => whnf
        exact ⟨hbi, rfl⟩
      conv => whnf
      refine go ?_; intros
      refine ⟨i + 1, by omega, by omega, ?_, ?_⟩
      · repeat' (first | exact trivial | exact rfl | refine And.intro ?_ ?_)
        rw [ho]; simp
      · simp only [st]; rw [upd_upd, ho, List.map_append, List.length_append]; exact sle_refl _
    · have e : o i = ren (p ++ ·) g := by simp only [o]; rw [List.take_of_length_le (by simp at hc; omega)]
      refine goS ?_; intros
      refine T_view (View.trans (View_slot (d := 8) (q := HS (ren (p ++ ·) g)) (hS _) (by rw [← e]; exact fz_row (by simp))) (View.weak (tle_refl _) (sle_E _))) ?_
      refine go ?_; intros
      refine And.intro (by unfold cap47; omega) ?_
      refine go ?_; intros
      refine ifN (fun hn => ?_) (fun hn => ?_)
      · refine go ?_; intros
        exact ⟨E, sle_E _, rfl, rfl⟩
      · have hn : checkV g = 0 := by simpa using hn
        have hz := linz_ren (f := (p ++ ·)) pre_inj pre_full hn name
        have hz1 : (linzP (ren (p ++ ·) g) (p ++ name)).1 = (linzP g name).1.map (p ++ ·) := by rw [hz]
        have hz2 : (linzP (ren (p ++ ·) g) (p ++ name)).2 = (linzP g name).2 := by rw [hz]
        rw [hz1, hz2]
        haveI : Spec 27 [LS (linzP g name).1, .str p] (LS ((linzP g name).1.map (p ++ ·))) := ⟨renamed_spec _ _ fun s hs => by
          have hs' := linz_size hn hgs hs
          unfold cap47; omega⟩
        refine go ?_; intros
        refine And.intro (fun _ => ?_) (fun h => by simp at h)
        refine go ?_; intros
        exact ⟨E, sle_E _, by rw [decide_eq_true rfl], rfl⟩

end Go.Proofs.Ytohldellkddmoaa.L

namespace Go.Proofs.Ytohldellkddmoaa.L
open Go
set_option linter.unusedSimpArgs false
set_option linter.unnecessarySimpa false
set_option linter.unusedVariables false
attribute [local irreducible] T TL
set_option maxRecDepth 10000

theorem getT_getElem : ∀ {l : List PV} {i : Nat} (h : i < l.length), getT l i = l[i]
  | _ :: _, 0, _ => rfl
  | _ :: l, i + 1, h => by simp only [getT, List.getElem_cons_succ]; exact getT_getElem (by simpa using h)
theorem getT_past : ∀ {l : List PV} {i : Nat}, l.length ≤ i → getT l i = .any
  | [], _, _ => rfl
  | _ :: l, 0, h => by simp at h
  | _ :: l, i + 1, h => by simp only [getT]; exact getT_past (by simpa using h)

theorem Fn_freeze {P : Program} {f : Nat} {args args' : List PV} {S : Store} {g ver sz e : Nat} {xs : List (List PV)} {p : PV} (h : FnP P f args' p) (hg : S g = some (.row ver sz e xs)) (hl : args.length = args'.length)
    (hz : ∀ i, FzV g ver sz e xs (getT args i) (getT args' i)) : Fn P f args S fun o S' => o = .ret p ∧ S' = E := by
  refine ⟨h.1, fun w fr m vs rel ha => ?_⟩
  have hst : StR ({ tmps := vs, defers := [] } : Act) w fr m args S [] := ⟨rel, ha.1, fun i => by
    by_cases hi : i < args.length
    · rw [getT_getElem hi]
      have := ha.2 i (by rw [ha.1]; exact hi) hi
      simpa [Array.getD, ha.1, hi] using this
    · rw [getT_past (by omega)]; exact .any _, by simp [DsR]⟩
  obtain ⟨fr', m', h1, h2⟩ := View_freeze hg hl hz _ w fr m [] hst
  have h1' := h1.weak (tle_refl _) (sle_E _)
  have h2' := h2.trans (Step.weak w fr' m' (sle_E (del S g)))
  refine (h.2 w fr' m' vs h1'.rel ⟨h1'.len, fun i i1 i2 => ?_⟩).mono ?_
  · have := h1'.tmp i
    rw [getT_getElem i2] at this
    simpa [Array.getD, i1] using this
  · rintro e w' ⟨o, S', fr'', m'', hr, ho, r', st⟩
    exact ⟨o, S', fr'', m'', hr, ho, r', by obtain ⟨_, rfl⟩ := hr; exact h2'.trans st⟩

theorem callW_freeze {P : Program} {f : Nat} {args args' : List PV} {S : Store} {g ver sz e : Nat} {xs : List (List PV)} {p : PV} {kr kp : PV → Store → Prop} (h : FnP P f args' p) (hg : S g = some (.row ver sz e xs)) (hl : args.length = args'.length)
    (hz : ∀ i, FzV g ver sz e xs (getT args i) (getT args' i)) (hk : kr p (del S g)) : callW P f args S kr kp := by
  unfold callW
  refine ⟨upd E g (.row ver sz e xs), _, Fn_freeze h (upd_same _ _ _) hl hz, fun k x hx => ?_, ?_⟩
  · by_cases hkg : k = g
    · subst hkg; rw [upd_same] at hx; rw [hg, hx]
    · rw [upd_ne hkg] at hx; cases hx
  · rintro o S' ⟨rfl, rfl⟩ _
    have hm : mrg S (upd E g (.row ver sz e xs)) E = del S g := by
      funext k
      by_cases hkg : k = g
      · subst hkg; simp [mrg, del, E, upd_same]
      · have : upd E g (AO.row ver sz e xs) k = none := by rw [upd_ne hkg]; rfl
        simp [mrg, del, E, hkg, this]
    simpa [hm] using hk

abbrev ZS (q : List Int) : PV := .list 8 (q.map fun z => [.int .i64 z])

theorem merge1_eq (x : List ByteArray) (h : x.length ≤ 120) (hn : x.Nodup) : mergeP [x] = (x, true) := by
  have : lawL [x] = false := by simp [lawL, hn]; omega
  unfold mergeP
  rw [if_neg (by simp [this]), merge_one x hn]

theorem merge_okP {l : List (List ByteArray)} (h : (mergeP l).2 = true) : ∃ out, mergeX l = some out ∧ (mergeP l).1 = out := by
  unfold mergeP at h ⊢
  split at h
  · cases h
  · rename_i hl
    rw [if_neg hl]
    cases e : mergeX l with
    | none => rw [e] at h; cases h
    | some out => exact ⟨out, rfl, rfl⟩

theorem merge_add {l : List (List ByteArray)} {out c : List ByteArray} (hmx : mergeX l = some out) (hok : (mergeP l).2 = true) (hcs : c.Sublist out) (h20 : l.length < 20) (hcl : c.length ≤ 120) : mergeP (l ++ [c]) = (out, true) := by
  have hl : lawL l = false := by
    cases e : lawL l with
    | false => rfl
    | true => unfold mergeP at hok; rw [if_pos e] at hok; cases hok
  have hnd : out.Nodup := merge_nodup hmx
  have hl2 : lawL (l ++ [c]) = false := by
    have hl := hl
    unfold lawL at hl ⊢
    simp only [Bool.or_eq_false_iff, decide_eq_false_iff_not] at hl ⊢
    refine ⟨by simp; omega, ?_⟩
    rw [List.any_append, hl.2]
    have := hcs.nodup hnd
    simp [this]; omega
  unfold mergeP
  rw [if_neg (by simp [hl2]), merge_part l out c hmx hcs]

set_option maxHeartbeats 4000000 in
theorem merging_law (l : List (List ByteArray)) (q : List Int) (hq : ∀ z ∈ q, IntKind.i64.has z) : FnP PP 9 [LLS l, ZS q] (.bool true) := by
  refine Fn_of_T GT_ok Go.Proofs.Try.func9 rfl (by rfl) (by rfl) ?_
  refine T_fact (list_bound (d := 0) rfl) fun hlen => ?_
  refine T_fact (list_bound (d := 1) rfl) fun hlen2 => ?_
  rw [List.length_map] at hlen hlen2
  refine goS ?_; intros
  refine W_ok GT_ok (goS ?_); intros
  refine goS ?_; intros
  refine W_ok GT_ok (goS ?_); intros
  refine goS ?_; intros
  refine W_ok GT_ok (goS ?_); intros
  refine goS ?_; intros
  refine T_seq (T_mid (mkT 111 [(0, LLS l), (1, ZS q), (5, .bool true), (6, LS (mergeP l).1), (7, .bool (mergeP l).2)]) E ?_ ?_)
  · refine W_ok GT_ok (goS ?_); intros
    refine go ?_; intros
    refine And.intro (fun h1 => ?_) (fun h1 => ?_)
    · have hok : (mergeP l).2 = true := by simpa using h1
      obtain ⟨out, hmx, hout⟩ := merge_okP hok
      rw [hout, hok]
      refine go ?_; intros
      refine And.intro (fun h2 => ?_) (fun h2 => ?_)
      · have h120 : out.length ≤ 120 := by have := of_decide_eq_false h2; rw [List.length_map] at this; omega
        refine go ?_; intros
        refine And.intro (fun h3 => ?_) (fun h3 => ?_)
        · have h20 : l.length < 20 := by have := of_decide_eq_false h3; rw [List.length_map] at this; omega
          refine go ?_; intros
          refine ifD (fun hc => ?_) (fun hc => ?_)
          · refine go ?_; intros
            exact ⟨E, sle_E _, rfl, rfl⟩
          · have hq0 : 0 < q.length := by simp at hc; exact List.length_pos_iff.2 hc
            refine go ?_; intros
            refine stop (T_nilrow 10 1 16 rfl fun gq hgq => ?_)
            let st : List ByteArray → Store := fun o => upd E gq (.row o.length 1 16 (o.map eS))
            have hS : ∀ o, st o gq = some (.row o.length 1 16 (o.map eS)) := fun o => upd_same _ _ _
            refine T_loop (α := List ByteArray × Nat) (inv := fun x => x.2 ≤ out.length ∧ x.1.Sublist (out.take x.2))
              (tm := fun x => mkT 111 [(0, LLS l), (1, ZS q), (5, .bool true), (6, LS out), (10, .row gq x.1.length 0 x.1.length 1), (11, .int .i64 x.2)])
              (st := fun x => st x.1) (μ := fun x => out.length - x.2) ([], 0) ⟨by simp, by simp⟩ ?_ (sle_refl _) ?_
            · repeat' (first | exact trivial | exact rfl | refine And.intro ?_ ?_)
            rintro ⟨c, i⟩ ⟨hi, hcs⟩
            dsimp only at hi hcs ⊢
            have hSc := hS c
            have hcl : c.length ≤ 120 := by have := hcs.length_le; rw [List.length_take] at this; omega
            refine go ?_; intros
            refine ifD (fun hc => ?_) (fun hc => ?_)
            · have hil : i < out.length := by simpa using hc
              have hrl : i % q.length < q.length := Nat.mod_lt _ hq0
              have hrem : (i : Int).tmod ((q.map fun z => [PV.int .i64 z]).length : Nat) = ((i % q.length : Nat) : Int) := by rw [List.length_map]; exact (Int.ofNat_tmod i q.length).symm
              refine go ?_; intros
              rw [hrem]
              refine And.intro (by rw [List.length_map]; omega) (And.intro (fit64 (by omega)) ?_)
              refine go ?_; intros
              refine ifD (fun hc => ?_) (fun hc => ?_)
              · refine go ?_; intros
                refine ⟨(c ++ [out[i]], i + 1), ⟨by dsimp only; omega, by rw [List.take_succ_eq_append_getElem hil]; exact hcs.append (List.Sublist.refl _)⟩, by dsimp only; omega, ?_, ?_⟩
                · repeat' (first | exact trivial | exact rfl | refine And.intro ?_ ?_)
                  all_goals simp
                · simp only [st]; rw [upd_upd, List.map_append, List.length_append]; exact sle_refl _
              · refine go ?_; intros
                exact ⟨(c, i + 1), ⟨by omega, by rw [List.take_succ_eq_append_getElem hil]; exact hcs.trans (List.sublist_append_left _ _)⟩, by dsimp only; omega, by repeat' (first | exact trivial | exact rfl | refine And.intro ?_ ?_), sle_refl _⟩
            · have hcs' : c.Sublist out := hcs.trans (List.take_sublist _ _)
              refine goS ?_; intros
              refine T_view (View.trans (View_slot (d := 10) (q := LS c) (hS _) (fz_row (by simp))) (View.weak (tle_refl _) (sle_E _))) ?_
              refine W_ok GT_ok (goS ?_); intros
              refine W_ok GT_ok (goS ?_); intros
              refine .inr (newW_intro fun g1 hg1 => ?_)
              refine go ?_; intros
              refine And.intro (show (0 + (l.map eL).length) * 24 ≤ 140737488355328 by rw [List.length_map]; omega) ?_
              rw [upd_upd]
              refine go ?_; intros
              refine And.intro (by simp) (And.intro rfl (And.intro (show (0 + (l.map eL).length + 1) * 24 ≤ 140737488355328 by rw [List.length_map]; omega) ?_))
              rw [upd_upd, show [] ++ l.map eL ++ [[LS c]] = (l ++ [c]).map eL by simp]
              refine go ?_; intros
              have hfz := fz_row (g := g1) (ver := 0 + 1 + 1) (sz := 1) (e := 24) (n := 0 + (l.map eL).length + [[LS c]].length) (xs := (l ++ [c]).map eL) (by simp)
              refine callW_freeze (args' := [LLS (l ++ [c])]) (Spec.h (f := 14)) (upd_same _ _ _) rfl (fun i => ?_) ?_
              · match i with
                | 0 => exact hfz
                | i + 1 => exact .same _
              have hm1 : (mergeP (l ++ [c])).1 = out := by rw [merge_add hmx hok hcs' h20 hcl]
              have hm2 : (mergeP (l ++ [c])).2 = true := by rw [merge_add hmx hok hcs' h20 hcl]
              rw [hm1, hm2]
              refine go ?_; intros
              exact ⟨E, sle_E _, by rw [decide_eq_true rfl], rfl⟩
        · refine go ?_; intros
          exact ⟨E, sle_E _, rfl, rfl⟩
      · refine go ?_; intros
        exact ⟨E, sle_E _, rfl, rfl⟩
    · refine go ?_; intros
      exact ⟨E, sle_E _, rfl, rfl⟩
  · refine W_ok GT_ok (goS ?_); intros
    refine go ?_; intros
    refine And.intro (fun h => ?_) (fun h => ?_)
    · have hl0 : 0 < l.length := by simpa using of_decide_eq_true h
      refine go ?_; intros
      refine And.intro (fun h2 => ?_) (fun h2 => ?_)
      · have h120 : l[0].length ≤ 120 := Int.ofNat_le.1 (by simpa using of_decide_eq_true h2)
        have e1 : l.take 1 = [l[0]] := by rw [List.take_one, List.head?_eq_getElem?, List.getElem?_eq_getElem hl0]; rfl
        refine go ?_; intros
        refine ifD (fun hd => ?_) (fun hd => ?_)
        · have e2 := merge1_eq l[0] h120 hd
          refine go ?_; intros
          rw [e1, e2]
          refine go ?_; intros
          refine ifN (fun h => absurd rfl h) (fun _ => ?_)
          refine go ?_; intros
          exact ⟨by repeat' (first | exact trivial | exact rfl | refine And.intro ?_ ?_), sle_E _⟩
        · refine go ?_; intros
          exact ⟨by repeat' (first | exact trivial | exact rfl | refine And.intro ?_ ?_), sle_E _⟩
      · refine go ?_; intros
        exact ⟨by repeat' (first | exact trivial | exact rfl | refine And.intro ?_ ?_), sle_E _⟩
    · refine go ?_; intros
      exact ⟨by repeat' (first | exact trivial | exact rfl | refine And.intro ?_ ?_), sle_E _⟩

end Go.Proofs.Ytohldellkddmoaa.L

namespace Go.Proofs.Ytohldellkddmoaa.L
open Go
set_option linter.unusedSimpArgs false
set_option linter.unnecessarySimpa false
set_option linter.unusedVariables false
attribute [local irreducible] T TL
set_option maxRecDepth 10000

theorem at_app {g m : List HeirT} (hg : Heirs (g ++ m)) {b : ByteArray} {k : Nat} (h : atI g b = some k) : atI (g ++ m) b = some k := by
  obtain ⟨hk, e⟩ := atI_lt h
  have hk' : k < (g ++ m).length := by simp; omega
  have := hg.at hk'
  rw [List.getElem_append_left hk, e] at this
  exact this

theorem sups_app {g m : List HeirT} (hg : Heirs (g ++ m)) : ∀ (l : List ByteArray), (∀ s ∈ l, ∃ k, atI g s = some k ∧ lin (g ++ m) k = lin g k) → supsN (lin (g ++ m)) (g ++ m) l = supsN (lin g) g l
  | [], _ => rfl
  | s :: l, h => by
    obtain ⟨k, h1, h2⟩ := h s (by simp)
    simp only [supsN, at_app hg h1, h1, h2, sups_app hg l fun s' hs => h s' (by simp [hs])]

theorem lin_app {g m : List HeirT} (hg : Heirs g) (hg' : Heirs (g ++ m)) : ∀ i, i < g.length → lin (g ++ m) i = lin g i := by
  intro i
  induction i using Nat.strongRecOn with
  | _ i ih =>
    intro hi
    have hi' : i < (g ++ m).length := by simp; omega
    have e : (g ++ m)[i] = g[i] := List.getElem_append_left hi
    rw [lin_eq hg' hi', lin_eq hg hi, e]
    rw [sups_app hg' g[i].2 fun s hs => by
      obtain ⟨k, h1, h2⟩ := hg.atsup hi hs
      exact ⟨k, h2, ih k h1 (by omega)⟩]

theorem linz_app {g m : List HeirT} {name : ByteArray} (h : (linzP g name).2 = 0) : (linzP (g ++ m) name = ((linzP g name).1, 0)) ∨ (linzP (g ++ m) name).2 = 2 ∨ (linzP (g ++ m) name).2 = 70 := by
  obtain ⟨hn, i, hat, hl⟩ := linz_ok h
  by_cases hc : checkV (g ++ m) = 0
  · left
    have hg' := heirs_of hc
    rw [linz_some hc (at_app hg' hat) (lin_app (heirs_of hn) hg' i (atI_lt hat).1 ▸ hl)]
  · right
    have e : (linzP (g ++ m) name).2 = checkV (g ++ m) := by unfold linzP; rw [if_pos hc]
    rw [e]
    unfold checkV at hc ⊢
    split
    · left; rfl
    · split
      · rename_i h1 h2; rw [if_neg h1, if_pos h2] at hc; exact absurd rfl hc
      · right; rfl

theorem extends_law (g m : List HeirT) (name : ByteArray) (hb : g.length + m.length ≤ 1048576) : FnP PP 6 [HS g, HS m, .str name] (.bool true) := by
  refine Fn_of_T GT_ok Go.Proofs.Try.func6 rfl (by rfl) (by rfl) ?_
  refine goS ?_; intros
  refine W_ok GT_ok (goS ?_); intros
  refine goS ?_; intros
  refine W_ok GT_ok (goS ?_); intros
  refine goS ?_; intros
  refine W_ok GT_ok (goS ?_); intros
  refine goS ?_; intros
  refine W_ok GT_ok (goS ?_); intros
  refine .inr (newW_intro fun g1 hg1 => ?_)
  refine go ?_; intros
  refine And.intro (show (0 + (g.map eH).length) * 40 ≤ 140737488355328 by rw [List.length_map]; omega) ?_
  rw [upd_upd]
  refine go ?_; intros
  refine And.intro (by simp) (And.intro rfl (And.intro (show (0 + (g.map eH).length + (m.map eH).length) * 40 ≤ 140737488355328 by rw [List.length_map, List.length_map]; omega) ?_))
  rw [upd_upd, show [] ++ g.map eH ++ m.map eH = (g ++ m).map eH by simp]
  refine go ?_; intros
  have hfz := fz_row (g := g1) (ver := 0 + 1 + 1) (sz := 2) (e := 40) (n := 0 + (g.map eH).length + (m.map eH).length) (xs := (g ++ m).map eH) (by simp)
  refine callW_freeze (args' := [HS (g ++ m), .str name]) (Spec.h (f := 17)) (upd_same _ _ _) rfl (fun i => ?_) ?_
  · match i with
    | 0 => exact hfz
    | i + 1 => exact .same _
  by_cases he : (linzP g name).2 = 0
  · rcases linz_app (m := m) he with h | h | h
    · have h1 : (linzP (g ++ m) name).1 = (linzP g name).1 := by rw [h]
      have h2 : (linzP (g ++ m) name).2 = 0 := by rw [h]
      rw [h1, h2, he]
      refine go ?_; intros
      exact ⟨E, sle_E _, by rw [decide_eq_true rfl], rfl⟩
    · rw [h, he]
      refine go ?_; intros
      exact ⟨E, sle_E _, by simp, rfl⟩
    · rw [h, he]
      refine go ?_; intros
      exact ⟨E, sle_E _, rfl, rfl⟩
  · have hne : (!decide ((linzP g name).2 = 0)) = true := by simp [he]
    refine go ?_; intros
    refine And.intro (fun h => by rw [hne] at h; cases h) (fun _ => ?_)
    refine go ?_; intros
    refine And.intro (fun h => ?_) (fun h => ?_)
    · refine go ?_; intros
      refine And.intro (fun h => by rw [hne] at h; cases h) (fun _ => ?_)
      refine go ?_; intros
      exact ⟨E, sle_E _, rfl, rfl⟩
    · refine go ?_; intros
      exact ⟨E, sle_E _, rfl, rfl⟩

end Go.Proofs.Ytohldellkddmoaa.L

