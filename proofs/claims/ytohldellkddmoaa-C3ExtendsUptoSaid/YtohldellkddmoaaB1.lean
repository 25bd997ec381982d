/- A logic over the machine, and what the functions of the seat come to: part 1. No claim stands here; the theorems are used by the row. -/
import Derived.Test.YtohldellkddmoaaK3
import Derived.WalkKit
import Derived.ProofKit
import Derived.OpenShut
import Derived.ShutString
import Derived.ChangeOld
import Derived.ChangeArms
import Derived.Carry
import Derived.SizedLaws
namespace Go.Proofs.Ytohldellkddmoaa.L
open Go
set_option linter.unusedSimpArgs false
set_option linter.unnecessarySimpa false
set_option linter.unusedVariables false

/-- the cells of a struct, field by field -/
def ShF (sh : Nat → List PV → Prop) : List (Nat × Nat) → List PV → Prop
  | [], cs => cs = []
  | (_, ft) :: l, cs => ∃ c1 c2, cs = c1 ++ c2 ∧ sh ft c1 ∧ ShF sh l c2

/-- the cells of a value of a type -/
def Sh (G : List TI) : Nat → Nat → List PV → Prop
  | 0, _, _ => False
  | n + 1, t, cs => match (getG G t).kind with
    | .int k => ∃ v, cs = [.int k v] ∧ k.has v
    | .bool => ∃ b, cs = [.bool b]
    | .str => ∃ s : ByteArray, cs = [.str s] ∧ s.size ≤ 140737488351232
    | .slice e => (getG G e).size ≠ 0 → ∃ xs, cs = [.list (getG G e).bytes xs] ∧ xs.length * (getG G e).bytes ≤ 140737488351232 ∧ ∀ c ∈ xs, Sh G n e c
    | .struct fs => ShF (Sh G n) fs cs
    | _ => True

def layB (G : List TI) : List (Nat × Nat) → Nat → Nat → Bool
  | [], o, n => o == n
  | (off, ft) :: l, o, n => off == o && (match (getG G ft).kind with | .other => false | _ => true) && layB G l (o + (getG G ft).size) n

def layAll (G : List TI) : List TI → Bool
  | [] => true
  | i :: l => (match i.kind with | .struct fs => layB G fs 0 i.size | _ => true) && layAll G l

theorem layAll_get {G : List TI} : ∀ {l : List TI} (h : layAll G l = true) (t : Nat) {fs : List (Nat × Nat)}, (getG l t).kind = .struct fs → layB G fs 0 (getG l t).size = true
  | [], _, t, fs, hk => by simp [getG] at hk
  | i :: l, h, 0, fs, hk => by
    simp only [layAll, Bool.and_eq_true] at h
    have h1 := h.1
    simp only [getG] at hk ⊢
    rw [hk] at h1
    exact h1
  | i :: l, h, t + 1, fs, hk => by
    simp only [layAll, Bool.and_eq_true] at h
    exact layAll_get h.2 t hk

section
variable {H : Type} {enc : TypeId × Value → H} {P : Program} {G : List TI} {W : World} {base : Nat} {spare : Nat → Bool} {held : Bool}

abbrev frW (W : World) : Nat → Prop := fun b => b < W.heap.size
abbrev noN : Names := fun _ => none

theorem relS0 (W : World) : RelS W (frW W) noN (fun _ => none) :=
  ⟨fun g x h => by (cases h), fun b _ ⟨g, x, v, h, _⟩ => by (cases h), fun g g' x x' v v' b h => by (cases h), fun b h => h, ⟨0, fun _ _ => rfl⟩⟩

def CR (W : World) (cs : List Value) (pcs : List PV) : Prop := pcs.length = cs.length ∧ ∀ (i : Nat) (h1 : i < cs.length) (h2 : i < pcs.length), Rep W (frW W) noN cs[i] pcs[i]

theorem CR.one {v : Value} {p : PV} (h : Rep W (frW W) noN v p) : CR W [v] [p] := ⟨rfl, fun i h1 h2 => by
  have : i = 0 := by simp at h1; omega
  subst this; exact h⟩

theorem cellsOf_eq (hG : GOk P G) {t : Nat} (h : (getG G t).kind ≠ .other) : P.cellsOf t = (getG G t).size ∧ P.bytesOf t = (getG G t).bytes := by
  obtain ⟨f, h1, h2, h3⟩ := info_size hG h
  simp [Program.cellsOf, Program.bytesOf, h1, h2, h3]

theorem und_bool (hG : GOk P G) {t : Nat} (hk : (getG G t).kind = .bool) : P.underlying t = some .bool := by
  obtain ⟨d, f, h1, _, h3, _⟩ := (ti_of hG hk (by simp)).ok
  rw [hk] at h3
  cases d <;> simp only [kOk] at h3 <;> first | exact h1 | cases h3

theorem fields_ok {sh : Nat → List PV → Prop} : ∀ (fs : List (Nat × Nat)) (o : Nat) (cs : List Value), layB G fs o (o + cs.length) = true →
    (∀ x ∈ fs, ∀ k, x.1 = o + k → ∃ pf, CR W ((cs.drop k).take (getG G x.2).size) pf ∧ sh x.2 pf) → ∃ pcs, CR W cs pcs ∧ ShF sh fs pcs
  | [], o, cs, hl, _ => by
    simp only [layB, beq_iff_eq] at hl
    have : cs = [] := List.length_eq_zero_iff.1 (by omega)
    subst this
    exact ⟨[], ⟨rfl, fun i h1 => by simp at h1⟩, rfl⟩
  | (off, ft) :: l, o, cs, hl, h => by
    simp only [layB, Bool.and_eq_true, beq_iff_eq] at hl
    obtain ⟨⟨rfl, hk⟩, hl⟩ := hl
    have hge : ∀ (l : List (Nat × Nat)) (o n : Nat), layB G l o n = true → o ≤ n := by
      intro l
      induction l with
      | nil => intro o n h; simp only [layB, beq_iff_eq] at h; omega
      | cons x l ih => intro o n h; simp only [layB, Bool.and_eq_true] at h; have := ih _ _ h.2; omega
    have hsz := hge _ _ _ hl
    obtain ⟨p1, h1, h2⟩ := h (off, ft) (by simp) 0 rfl
    rw [List.drop_zero] at h1
    dsimp only at h1 h2
    have hlen : (cs.drop (getG G ft).size).length = cs.length - (getG G ft).size := List.length_drop
    obtain ⟨p2, h3, h4⟩ := fields_ok l (off + (getG G ft).size) (cs.drop (getG G ft).size) (by rw [hlen, show off + (getG G ft).size + (cs.length - (getG G ft).size) = off + cs.length by omega]; exact hl)
      (fun x hx k e => by
        obtain ⟨pf, h5, h6⟩ := h x (by simp [hx]) ((getG G ft).size + k) (by omega)
        exact ⟨pf, by rw [List.drop_drop]; exact h5, h6⟩)
    have hl1 : p1.length = (getG G ft).size := by rw [h1.1, List.length_take]; omega
    refine ⟨p1 ++ p2, ⟨?_, fun i h5 h6 => ?_⟩, p1, p2, rfl, h2, h4⟩
    · rw [List.length_append, hl1, h3.1, hlen]; omega
    · by_cases hi : i < p1.length
      · have := h1.2 i (by rw [List.length_take]; omega) hi
        rw [List.getElem_append_left hi]
        simpa using this
      · have := h3.2 (i - p1.length) (by rw [hlen]; omega) (by rw [h3.1, hlen]; omega)
        rw [List.getElem_append_right (by omega)]
        simp only [List.getElem_drop] at this
        have e : (getG G ft).size + (i - p1.length) = i := by omega
        simp only [e] at this
        exact this

theorem open_ok (hG : GOk P G) (hL : layAll G G = true) : ∀ (n t : Nat) (cs : List Value) (x : DataW H × List MemPlace), DataW.trod enc P W base spare held n t cs = some x → (∀ k ∈ x.1.weights P t, k ≤ reachBytes) →
    ∃ pcs, CR W cs pcs ∧ Sh G n t pcs
  | 0, t, cs, x, h, _ => by simp [DataW.trod] at h
  | n + 1, t, cs, x, h, hw => by
    have ih := fun t cs x => open_ok hG hL n t cs x
    have any : (∀ pcs, Sh G (n + 1) t pcs) → ∃ pcs, CR W cs pcs ∧ Sh G (n + 1) t pcs := fun ha =>
      ⟨List.replicate cs.length .any, ⟨by simp, fun i h1 h2 => by rw [List.getElem_replicate]; exact .any _⟩, ha _⟩
    cases hk : (getG G t).kind with
    | int k =>
      obtain ⟨v, rfl, rfl, hwf⟩ := DataW.trod_int (und_int hG hk) h
      have hh : k.has v := by simpa [Lit.wf, IntKind.has] using hwf
      exact ⟨[.int k v], .one (.int _ _ hh), by simp only [Sh, hk]; exact ⟨v, rfl, hh⟩⟩
    | bool =>
      obtain ⟨b, rfl, rfl⟩ := DataW.trod_bool (und_bool hG hk) h
      exact ⟨[.bool b], .one (.bool _), by simp only [Sh, hk]; exact ⟨b, rfl⟩⟩
    | str =>
      obtain ⟨s, rfl, rfl, hs⟩ := DataW.trod_string (und_str hG hk) h
      have hb : s.size ≤ 140737488351232 := by
        have := hw s.data.toList.length (by simp [DataW.weights])
        simpa [reachBytes] using this
      exact ⟨[.str s], .one (.str _ (by unfold cap47; omega)), by simp only [Sh, hk]; exact ⟨s, rfl, hb⟩⟩
    | struct fs =>
      obtain ⟨gs, hu, hgs⟩ := und_struct hG hk
      obtain ⟨xs, m, hm, rfl, hcl, hxl, hf⟩ := DataW.trod_struct hu h
      have : m = n := by omega
      subst this
      have hlay := layAll_get hL t hk
      have hct := (cellsOf_eq hG (t := t) (by rw [hk]; simp)).1
      obtain ⟨pcs, h1, h2⟩ := fields_ok (G := G) (W := W) (sh := Sh G m) fs 0 cs (by rw [Nat.zero_add, hcl, hct]; exact hlay) (fun y hy k e => by
        subst hgs
        obtain ⟨f, hfm, rfl⟩ := List.mem_map.1 hy
        obtain ⟨i, hi, rfl⟩ := List.getElem_of_mem hfm
        have hfk : (getG G gs.toList[i].type).kind ≠ .other := by
          intro hoth
          have : ∀ (l : List (Nat × Nat)) (o n : Nat), layB G l o n = true → ∀ z ∈ l, (getG G z.2).kind ≠ .other := by
            intro l
            induction l with
            | nil => intro _ _ _ z hz; cases hz
            | cons a l ih =>
              intro o n h z hz
              simp only [layB, Bool.and_eq_true] at h
              rcases List.mem_cons.1 hz with rfl | hz
              · intro e; rw [e] at h; simp at h
              · exact ih _ _ h.2 z hz
          exact this _ _ _ hlay _ hy hoth
        have hcf := (cellsOf_eq hG hfk).1
        have hgi : gs[i]? = some gs.toList[i] := by simp at hi; simp [hi]
        have hfi := hf i gs.toList[i] hgi
        have hix : i < xs.length := by rw [hxl]; simpa using hi
        rw [List.getElem?_eq_getElem hix] at hfi
        simp only [Nat.zero_add] at e
        rw [← e, ← hcf]
        refine ih _ _ _ hfi fun w hw' => hw w ?_
        simp only [DataW.weights, hu]
        exact DataW.weights_mem_each (j := i) (t := gs.toList[i].type) (d := xs[i].1) (by simp at hi; simp [hi]) (by simp [hix]) w hw')
      exact ⟨pcs, h1, by simp only [Sh, hk]; exact h2⟩
    | slice e =>
      have hu := und_slice hG hk
      by_cases hz : (getG G e).size = 0
      · exact any fun pcs => by simp only [Sh, hk]; exact fun h => absurd hz h
      have hce : P.cellsOf e ≠ 0 := by rw [(cellsOf_eq hG (kind_of_size hG hz)).1]; exact hz
      rcases DataW.trod_slice hu h with ⟨rfl, rfl⟩ | ⟨a, len, cap, elems, rest, m, hm, rfl, rfl, hb, hlc, hcm, hel, hget, _, _⟩
      · exact ⟨[.list (getG G e).bytes []], .one (.list0 _ _ _), by simp only [Sh, hk]; exact fun _ => ⟨[], rfl, by simp, fun c hc => by cases hc⟩⟩
      · have : m = n := by omega
        subst this
        have hbytes : len * (getG G e).bytes ≤ 140737488351232 := by
          by_cases hke : (getG G e).kind = .other
          · have := hG e; rw [hke] at this; rw [this.2]; simp
          · have := hw ((elems.map (·.1)).length + (rest.map (·.1)).length |> (· * P.bytesOf e)) (by simp [DataW.weights, hu])
            rw [(cellsOf_eq hG hke).2] at this
            simp only [List.length_map, hel, reachBytes] at this
            refine Nat.le_trans (Nat.mul_le_mul_right _ (Nat.le_add_right _ _)) this
        have hrow : ∀ i (hi : i < len), ∃ cs', W.cells? base (a.add (i * P.cellsOf e)) (P.cellsOf e) = some cs' ∧ ∃ pcs, CR W cs' pcs ∧ Sh G m e pcs := fun i hi => by
          have h1 := hget i hi
          have hie : i < elems.length := by omega
          rw [List.getElem?_eq_getElem hie, Option.bind_eq_some_iff] at h1
          obtain ⟨cs', h2, h3⟩ := h1
          refine ⟨cs', h2, ih _ _ _ h3 fun w hw' => hw w ?_⟩
          simp only [DataW.weights, hu, List.mem_cons, List.mem_append]
          refine .inr (.inl ?_)
          have hall : ∀ (l : List (DataW H)) (j : Nat) (hj : j < l.length), ∀ w ∈ l[j].weights P e, w ∈ DataW.weightsAll P e l := by
            intro l
            induction l with
            | nil => intro j hj; simp at hj
            | cons y l ih' =>
              intro j hj w hw
              simp only [DataW.weightsAll, List.mem_append]
              cases j with
              | zero => exact .inl hw
              | succ j => exact .inr (ih' j (by simpa using hj) w (by simpa using hw))
          exact hall _ i (by simpa using hie) w (by simpa using hw')
        -- the elements
        let f : Nat → List PV := fun i => if hi : i < len then Classical.choose (Classical.choose_spec (hrow i hi)).2 else []
        have hfspec : ∀ i (hi : i < len), ∃ cs', W.cells? base (a.add (i * P.cellsOf e)) (P.cellsOf e) = some cs' ∧ CR W cs' (f i) ∧ Sh G m e (f i) := fun i hi => by
          have h1 := Classical.choose_spec (hrow i hi)
          have h2 := Classical.choose_spec h1.2
          simp only [f, dif_pos hi]
          exact ⟨_, h1.1, h2⟩
        let xs := (List.range len).map f
        have hxl : xs.length = len := by simp [xs]
        have hxi : ∀ i (h : i < xs.length), xs[i] = f i := fun i h => by simp [xs]
        refine ⟨[.list (getG G e).bytes xs], .one ?_, by
          simp only [Sh, hk]
          refine fun _ => ⟨xs, rfl, by rw [hxl]; exact hbytes, fun c hc => ?_⟩
          obtain ⟨i, hi, rfl⟩ := List.getElem_of_mem hc
          rw [hxi]
          obtain ⟨_, _, _, h4⟩ := hfspec i (by omega)
          exact h4⟩
        by_cases h0 : len * P.cellsOf e = 0
        · -- no cells at all
          by_cases hl0 : len = 0
          · subst hl0
            have : xs = [] := List.length_eq_zero_iff.1 hxl
            rw [this]; exact .list0 _ _ _
          · have hc0 : P.cellsOf e = 0 := by
              rcases Nat.mul_eq_zero.1 h0 with h | h
              · exact absurd h hl0
              · exact h
            exact absurd hc0 hce
        · obtain ⟨hl0, hc0⟩ : len ≠ 0 ∧ P.cellsOf e ≠ 0 := ⟨fun h => h0 (by simp [h]), fun h => h0 (by simp [h])⟩
          obtain ⟨cs0, h1, h2, _⟩ := hfspec 0 (by omega)
          have hblk : a.block < W.heap.size := by
            have := World.cells?_block h1 (by omega)
            simpa [Addr.add] using this
          have hspot : a.spot = none := by
            obtain ⟨_, hl', hc'⟩ := World.cells?_some h1
            have := hc' 0 (by omega)
            rw [List.getElem?_eq_getElem (by omega)] at this
            simpa [Addr.add] using World.cell?_spot this
          obtain ⟨b, o, sp⟩ := a
          dsimp only at hspot
          subst hspot
          rw [← hxl]
          refine .list b o cap (getG G e).bytes (P.cellsOf e) xs (fun i j => (W.cell? ⟨b, o + (i * P.cellsOf e + j), none⟩).getD undef) hblk (by omega) (by rw [hxl]; unfold cap47; omega) (fun i hi => ?_) (fun i j hi hj => ?_) (fun i j hi hj => ?_)
          · rw [hxi]
            obtain ⟨cs', h3, h4, _⟩ := hfspec i (by omega)
            obtain ⟨_, hl', _⟩ := World.cells?_some h3
            rw [h4.1, hl']
          · obtain ⟨cs', h3, h4, _⟩ := hfspec i (by omega)
            obtain ⟨_, hl', hc'⟩ := World.cells?_some h3
            have := hc' j hj
            rw [List.getElem?_eq_getElem (by omega)] at this
            rw [add_mk, add_mk, Nat.add_assoc] at this
            rw [this]; rfl
          · obtain ⟨cs', h3, h4, _⟩ := hfspec i (by omega)
            obtain ⟨_, hl', hc'⟩ := World.cells?_some h3
            have hjl : j < cs'.length := by have := h4.1; rw [hxi] at hj; omega
            have := hc' j (by omega)
            rw [List.getElem?_eq_getElem hjl] at this
            rw [add_mk, add_mk, Nat.add_assoc] at this
            rw [this]
            have h5 := h4.2 j hjl (by rw [hxi] at hj; exact hj)
            simp only [Option.getD_some, hxi]
            exact h5
    | arr n' e => exact any fun pcs => by simp only [Sh, hk]
    | map k e => exact any fun pcs => by simp only [Sh, hk]
    | ptr e => exact any fun pcs => by simp only [Sh, hk]
    | func => exact any fun pcs => by simp only [Sh, hk]
    | iface => exact any fun pcs => by simp only [Sh, hk]
    | other => exact any fun pcs => by simp only [Sh, hk]

/-- a value of a type -/
def ShV (G : List TI) (n t : Nat) (p : PV) : Prop := match (getG G t).kind with
  | .struct _ => ∃ cs, p = .agg cs ∧ Sh G n t cs
  | _ => Sh G n t [p]

def argK : TK → Bool
  | .int _ | .bool | .str | .slice _ | .struct _ => true
  | _ => false

theorem CR.val {v : Value} {pcs : List PV} (h : CR W [v] pcs) : ∃ p, pcs = [p] ∧ Rep W (frW W) noN v p := by
  match pcs, h.1 with
  | [p], _ => exact ⟨p, rfl, h.2 0 (by simp) (by simp)⟩

theorem arg_ok (hG : GOk P G) (hL : layAll G G = true) {r : Reach} {b0 : Nat} {t : TypeId} {v : Value} {d : DataW H} {ps : List MemPlace} (hk : argK (getG G t).kind = true) (hv : Value.okWide P W r b0 t v)
    (h : DataW.Trod enc P W base spare held t v d ps) (hw : ∀ k ∈ d.weights P t, k ≤ reachBytes) : ∃ p n, Rep W (frW W) noN v p ∧ ShV G n t p := by
  obtain ⟨n, hn⟩ := h
  obtain ⟨pcs, h1, h2⟩ := open_ok hG hL n t _ _ hn hw
  have one : v.cells.toList = [v] → (∀ pcs, Sh G n t pcs → ∀ p, pcs = [p] → ShV G n t p) → ∃ p n, Rep W (frW W) noN v p ∧ ShV G n t p := fun e hs => by
    rw [e] at h1
    obtain ⟨p, rfl, hp⟩ := h1.val
    exact ⟨p, n, hp, hs _ h2 p rfl⟩
  cases e : (getG G t).kind with
  | int k =>
    refine one ?_ fun pcs h p hp => by subst hp; simp only [ShV, e]; exact h
    obtain ⟨n, rfl⟩ := WideShapes.okWide_int (und_int hG e) hv
    rfl
  | bool =>
    refine one ?_ fun pcs h p hp => by subst hp; simp only [ShV, e]; exact h
    obtain ⟨n, rfl⟩ := WideShapes.okWide_bool (und_bool hG e) hv
    rfl
  | str =>
    refine one ?_ fun pcs h p hp => by subst hp; simp only [ShV, e]; exact h
    obtain ⟨n, rfl⟩ := WideShapes.okWide_string (und_str hG e) hv
    rfl
  | slice el =>
    refine one ?_ fun pcs h p hp => by subst hp; simp only [ShV, e]; exact h
    obtain ⟨a, l, c, rfl⟩ := WideShapes.okWide_slice (und_slice hG e) hv
    rfl
  | struct fs =>
    obtain ⟨gs, hu, _⟩ := und_struct hG e
    obtain ⟨cs, rfl, _⟩ := WideShapes.okWide_struct hu hv
    refine ⟨.agg pcs, n, .agg _ _ (by rw [h1.1]; simp [Value.cells]) fun i h3 h4 => ?_, by simp only [ShV, e]; exact ⟨_, rfl, h2⟩⟩
    have := h1.2 i (by simpa [Value.cells] using h3) h4
    simpa [Value.cells] using this
  | arr _ _ => rw [e] at hk; cases hk
  | map _ _ => rw [e] at hk; cases hk
  | ptr _ => rw [e] at hk; cases hk
  | func => rw [e] at hk; cases hk
  | iface => rw [e] at hk; cases hk
  | other => rw [e] at hk; cases hk

theorem step_same {fr' : Nat → Prop} {m' : Names} {S' : Store} {W' : World} (st : Step W (frW W) noN (fun _ => none) W' fr' m' S') {b : Nat} (hb : b < W.heap.size) : W'.heap[b]? = W.heap[b]? :=
  st.same b hb fun ⟨g, x, v, h, _⟩ => by cases h

theorem step_frame {fr' : Nat → Prop} {m' : Names} {S' : Store} {W' : World} (st : Step W (frW W) noN (fun _ => none) W' fr' m' S') (may : MemPlace → Prop) : W.keptBut W' may := by
  refine ⟨st.io.1, st.io.2, fun i hi => ?_⟩
  rw [step_same st hi]
  split <;> simp_all

theorem arg_back (hl : laidOutB P = true) {t : TypeId} (hr : P.readableRec t = true) (hrow : t < P.types.size) {fr' : Nat → Prop} {m' : Names} {S' : Store} {W' : World} (st : Step W (frW W) noN (fun _ => none) W' fr' m' S') {v : Value} {d : DataW H} {ps : List MemPlace}
    (h : DataW.Trod enc P W 0 (fun _ => true) true t v d ps) : DataW.Trod enc P W' 0 (fun b => decide (b < W.heap.size)) true t v d ps := by
  have hlt : ∀ x ∈ ps, x.block < W.heap.size := by obtain ⟨m, hm⟩ := h; exact DataW.trod_lt m _ _ _ hm
  refine WideElems.Trod_stays hl hr hrow h (fun x hx => ?_) (fun x hx => by simpa using hlt x hx)
  have hx := hlt x hx
  cases x with
  | cell b o => exact World.cell?_of_block (w := W) (step_same st hx)
  | map b => exact step_same st hx

theorem exists_map {α β : Type} {f : α → β} {Q : α → Prop} : ∀ {xs : List β}, (∀ c ∈ xs, ∃ y, c = f y ∧ Q y) → ∃ l : List α, xs = l.map f ∧ ∀ y ∈ l, Q y
  | [], _ => ⟨[], rfl, fun y h => by cases h⟩
  | c :: xs, h => by
    obtain ⟨y, hy, hq⟩ := h c (by simp)
    obtain ⟨l, hl, hq'⟩ := exists_map (xs := xs) fun c hc => h c (by simp [hc])
    exact ⟨y :: l, by simp [hy, hl], fun z hz => by
      rcases List.mem_cons.1 hz with rfl | hz
      · exact hq
      · exact hq' z hz⟩

theorem sh_slice {α : Type} {f : α → List PV} {Q : α → Prop} {n t e : Nat} {cs : List PV} (hk : (getG G t).kind = .slice e) (hz : (getG G e).size ≠ 0) (h : Sh G n t cs) (hf : ∀ n c, Sh G n e c → ∃ y, c = f y ∧ Q y) :
    ∃ l : List α, cs = [.list (getG G e).bytes (l.map f)] ∧ l.length * (getG G e).bytes ≤ 140737488351232 ∧ ∀ y ∈ l, Q y := by
  cases n with
  | zero => exact h.elim
  | succ n =>
    simp only [Sh, hk] at h
    obtain ⟨xs, rfl, hb, hx⟩ := h hz
    obtain ⟨l, rfl, hq⟩ := exists_map fun c hc => hf n c (hx c hc)
    exact ⟨l, rfl, by simpa using hb, hq⟩
theorem sh_str {n t : Nat} {cs : List PV} (hk : (getG G t).kind = .str) (h : Sh G n t cs) : ∃ s : ByteArray, cs = [.str s] ∧ s.size ≤ 140737488351232 := by
  cases n with
  | zero => exact h.elim
  | succ n => simpa only [Sh, hk] using h
theorem sh_int {n t : Nat} {k : IntKind} {cs : List PV} (hk : (getG G t).kind = .int k) (h : Sh G n t cs) : ∃ v, cs = [.int k v] ∧ k.has v := by
  cases n with
  | zero => exact h.elim
  | succ n => simpa only [Sh, hk] using h
theorem sh_bool {n t : Nat} {cs : List PV} (hk : (getG G t).kind = .bool) (h : Sh G n t cs) : ∃ b, cs = [.bool b] := by
  cases n with
  | zero => exact h.elim
  | succ n => simpa only [Sh, hk] using h
theorem sh_struct {n t : Nat} {fs : List (Nat × Nat)} {cs : List PV} (hk : (getG G t).kind = .struct fs) (h : Sh G n t cs) : ∃ m, ShF (Sh G m) fs cs := by
  cases n with
  | zero => exact h.elim
  | succ n => exact ⟨n, by simpa only [Sh, hk] using h⟩

end
end Go.Proofs.Ytohldellkddmoaa.L

namespace Go.Proofs.Ytohldellkddmoaa.L
open Go
set_option linter.unusedVariables false
set_option maxRecDepth 10000

theorem GL_ok : layAll GT GT = true := by decide

theorem sh24 {n : Nat} {cs : List PV} (h : Sh GT n 24 cs) : ∃ l : List ByteArray, cs = [LS l] ∧ l.length * 16 ≤ 140737488351232 ∧ ∀ s ∈ l, s.size ≤ 140737488351232 :=
  sh_slice (G := GT) (f := eS) (e := 9) rfl (by decide) h fun n c hc => sh_str (t := 9) rfl hc
theorem sh22 {n : Nat} {p : PV} (h : ShV GT n 22 p) : ∃ l : List (List ByteArray), p = LLS l := by
  obtain ⟨l, hl, _⟩ := sh_slice (G := GT) (f := eL) (Q := fun _ => True) (e := 24) rfl (by decide) (show Sh GT n 22 [p] from h) fun n c hc => by
    obtain ⟨l, h1, _⟩ := sh24 hc; exact ⟨l, h1, trivial⟩
  exact ⟨l, by injection hl⟩
theorem sv24 {n : Nat} {p : PV} (h : ShV GT n 24 p) : ∃ l : List ByteArray, p = LS l := by
  obtain ⟨l, hl, _⟩ := sh24 (show Sh GT n 24 [p] from h)
  exact ⟨l, by injection hl⟩
theorem sv9 {n : Nat} {p : PV} (h : ShV GT n 9 p) : ∃ s : ByteArray, p = .str s := by
  obtain ⟨s, hs, _⟩ := sh_str (G := GT) (t := 9) rfl (show Sh GT n 9 [p] from h)
  exact ⟨s, by injection hs⟩
theorem sv9s {n : Nat} {p : PV} (h : ShV GT n 9 p) : ∃ s : ByteArray, p = .str s ∧ s.size ≤ 140737488351232 := by
  obtain ⟨s, hs, hb⟩ := sh_str (G := GT) (t := 9) rfl (show Sh GT n 9 [p] from h)
  exact ⟨s, by injection hs, hb⟩
theorem sh46 {n : Nat} {cs : List PV} (h : Sh GT n 46 cs) : ∃ y : HeirT, cs = eH y ∧ y.1.size ≤ 140737488351232 ∧ ∀ s ∈ y.2, s.size ≤ 140737488351232 := by
  obtain ⟨m, h⟩ := sh_struct (G := GT) (t := 46) rfl h
  obtain ⟨c1, c2, rfl, h1, c3, c4, rfl, h2, rfl⟩ := h
  obtain ⟨s, rfl, hs⟩ := sh_str (G := GT) (t := 9) rfl h1
  obtain ⟨l, rfl, _, hl⟩ := sh24 h2
  exact ⟨(s, l), rfl, hs, hl⟩
theorem sv29 {n : Nat} {p : PV} (h : ShV GT n 29 p) : ∃ g : List HeirT, p = HS g ∧ g.length * 40 ≤ 140737488351232 ∧ ∀ y ∈ g, y.1.size ≤ 140737488351232 ∧ ∀ s ∈ y.2, s.size ≤ 140737488351232 := by
  obtain ⟨l, hl, hb, hq⟩ := sh_slice (G := GT) (f := eH) (e := 46) rfl (by decide) (show Sh GT n 29 [p] from h) fun n c hc => sh46 hc
  exact ⟨l, by injection hl, hb, hq⟩
theorem sv57 {n : Nat} {p : PV} (h : ShV GT n 57 p) : ∃ a b c : ByteArray, p = .agg [.str a, .str b, .str c] := by
  obtain ⟨cs, rfl, h0⟩ := (show ∃ cs, p = .agg cs ∧ Sh GT n 57 cs from h)
  obtain ⟨m, h⟩ := sh_struct (G := GT) (t := 57) rfl h0
  obtain ⟨c1, c2, rfl, h1, c3, c4, rfl, h2, c5, c6, rfl, h3, rfl⟩ := h
  obtain ⟨a, rfl, _⟩ := sh_str (G := GT) (t := 9) rfl h1
  obtain ⟨b, rfl, _⟩ := sh_str (G := GT) (t := 9) rfl h2
  obtain ⟨c, rfl, _⟩ := sh_str (G := GT) (t := 9) rfl h3
  exact ⟨a, b, c, rfl⟩
theorem sv51 {n : Nat} {p : PV} (h : ShV GT n 51 p) : ∃ l : List Int, p = .list 8 (l.map fun z => [.int .i64 z]) ∧ ∀ z ∈ l, IntKind.i64.has z := by
  obtain ⟨l, hl, _, hq⟩ := sh_slice (G := GT) (f := fun z => [.int .i64 z]) (e := 3) rfl (by decide) (show Sh GT n 51 [p] from h) fun n c hc => sh_int (t := 3) (k := .i64) rfl hc
  exact ⟨l, by injection hl, hq⟩

end Go.Proofs.Ytohldellkddmoaa.L

