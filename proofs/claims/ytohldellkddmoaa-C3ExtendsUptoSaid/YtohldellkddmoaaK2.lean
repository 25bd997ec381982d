/- A logic over the machine, and what the functions of the seat come to: part 2. No claim stands here; the theorems are used by the row. -/
import Derived.Test.YtohldellkddmoaaK1
import Derived.OrdersIn
import Derived.ScopeJumps
import Derived.RecoverIn
import Derived.Test.YtohldellkddmoaaProg
import Derived.KernelRfl
namespace Go.Proofs.Ytohldellkddmoaa.L
open Go
set_option linter.unusedSimpArgs false
set_option linter.unnecessarySimpa false
set_option linter.unusedVariables false

variable {P : Program} {G : List TI} {r : Option Nat}

/-- an operation that gives one value and changes nothing -/
def Qt (P : Program) (r : Option Nat) (o : Oper) (p : PV) (t : List PV) (S : Store) (D : List DA) : Prop :=
  ∀ a w fr m, StR a w fr m t S D → ∀ next : Act → World → Prop, (∀ v w' fr' m', Rep w' fr' m' v p → RelS w' fr' m' S → Step w fr m S w' fr' m' S → next (a.put o.dst v) w') →
    o.uponIn (FR r) 0 P a next (fun _ _ _ => False) ((o.semAt (FR r).round a.eval).run P w)

theorem Qt_pure (hG : GOk P G) {o : Oper} {p : PV} {t : List PV} {S : Store} {D : List DA} (hq : quiet o.op = true) (h : pureW G o.op t S fun q => q = p) : Qt P r o p t S D := by
  intro a w fr m hs next hn
  obtain ⟨v, q, h1, h2, rfl⟩ := pureW_ok (w := w) (fr := fr) (m := m) hG hs h
  rw [semAt_pure hq, h1]
  exact hn v w fr m h2 hs.rel (.refl _ _ _ _)

theorem Qt_call {o : Oper} {p : PV} {t : List PV} {S : Store} {D : List DA} {f : Operand} {args : Array Operand} {at' : Array Nat} (ho : o.op = .call { callee := .value f, args := args, argTypes := at' })
    (h : evK t f fun c => evsK t args.toList fun vs => match c with
      | .fn (.func n) first cap => ∃ S1, sle S S1 ∧ Fn P n (first ++ vs ++ cap) S1 fun o S' => o = .ret p ∧ S' = S1
      | _ => False) : Qt P r o p t S D := by
  intro a w fr m hs next hn
  obtain ⟨q, hq, h⟩ := evK_ok hs h
  obtain ⟨ps, hps, h⟩ := evsK_A hs h
  split at h
  · rename_i n first cap
    revert hq; generalize he : a.eval f = vf; intro hq
    cases hq with
    | fn _ fa fc _ _ h1 h2 h3 h4 =>
      obtain ⟨S1, hsub, hc, hf⟩ := h
      rw [semAt_other (by rw [ho]; simp), call_run ho he hc]
      refine ⟨(fun h => by cases h), callsIn_wide.2 ((hf w fr m _ (hs.rel.weak hsub) (app_RepA ⟨h1, h3⟩ hps ⟨h2, h4⟩)).mono ?_)⟩
      rintro e w' ⟨out, S', fr', m', ⟨rfl, hSS⟩, h5, h6, h7⟩
      rw [hSS] at h6 h7
      obtain ⟨g1, g2, _⟩ := mrg_ok hs.rel hsub h6 h7
      have hm : mrg S S1 S1 = S := by
        funext g
        simp only [mrg]
        cases e1 : S1 g with
        | none => simp
        | some x => simp [hsub g x e1]
      rw [hm] at g1 g2
      cases e with
      | returned v => exact hn v w' fr' m' h5 g1 g2
      | panicked ch => exact (by unfold OutR at h5; split at h5 <;> simp_all)
      | outgrown => exact h5.elim
  · exact h.elim

def opTmps : List Operand → List Nat
  | [] => []
  | .tmp t :: l => t :: opTmps l
  | _ :: l => opTmps l

def guardTmp (ops : Array Oper) (o : Oper) : List Nat :=
  match o.guard with
  | some (j, _) => (match getO ops.toList j with | some oj => oj.dst.toList | none => [])
  | none => []

def deps (ops : Array Oper) (o : Oper) : List Nat := opTmps o.op.operands.toList ++ guardTmp ops o

def maskT (l : List Nat) : Nat → List PV → List PV
  | _, [] => []
  | n, x :: t => (match l.elem n with | true => x | false => .any) :: maskT l (n + 1) t

theorem maskT_len (l : List Nat) : ∀ (n : Nat) (t : List PV), (maskT l n t).length = t.length
  | _, [] => rfl
  | n, x :: t => by simp [maskT, maskT_len l (n + 1) t]

theorem maskT_get (l : List Nat) : ∀ (n : Nat) (t : List PV) (i : Nat), getT (maskT l n t) i = if l.elem (n + i) = true then getT t i else .any
  | _, [], i => by simp [maskT, getT]
  | n, x :: t, 0 => by simp only [maskT, getT, Nat.add_zero]; cases l.elem n <;> simp
  | n, x :: t, i + 1 => by
    simp only [maskT, getT]
    rw [maskT_get l (n + 1) t i, show n + 1 + i = n + (i + 1) by omega]

theorem list_ext_get : ∀ {l l' : List PV}, l.length = l'.length → (∀ i, getT l i = getT l' i) → l = l'
  | [], [], _, _ => rfl
  | x :: l, y :: l', hl, h => by
    have h0 := h 0
    simp only [getT] at h0
    rw [h0, list_ext_get (by simpa using hl) (fun i => h (i + 1))]
  | [], _ :: _, hl, _ => by simp at hl
  | _ :: _, [], hl, _ => by simp at hl

theorem mask_congr {l : List Nat} {t t' : List PV} (hl : t.length = t'.length) (h : ∀ i, l.elem i = true → getT t i = getT t' i) : maskT l 0 t = maskT l 0 t' := by
  refine list_ext_get (by simp [maskT_len, hl]) fun i => ?_
  rw [maskT_get, maskT_get, Nat.zero_add]
  split
  · exact h i (by assumption)
  · rfl

theorem tle_mask (l : List Nat) : ∀ (n : Nat) (t : List PV), tle t (maskT l n t)
  | _, [] => trivial
  | n, x :: t => by
    simp only [maskT]
    cases l.elem n with
    | true => cases x <;> first | exact tle_mask l (n + 1) t | exact ⟨rfl, tle_mask l (n + 1) t⟩
    | false => exact tle_mask l (n + 1) t

theorem putT_len (t : List PV) (d : Option Nat) (p : PV) : (putT t d p).length = t.length := by cases d <;> simp [putT]

/-- the quiet operation in a state that holds more -/
theorem Qt_use {o : Oper} {p : PV} {t : List PV} {S : Store} {D : List DA} {l : List Nat} (h : Qt P r o p (maskT l 0 t) S D) : Qt P r o p t S D :=
  fun a w fr m hs => h a w fr m (hs.weak (tle_mask l 0 t) (sle_refl S))

/-- one operation of the head, in the order of the text -/
def StepD (P : Program) (r : Option Nat) (ops : Array Oper) (S : Store) (D : List DA) (ts : Nat → List PV) (ps : Nat → PV) (i : Nat) : Prop :=
  ∃ o, ops[i]? = some o ∧ ts (i + 1) = putT (ts i) o.dst (ps i) ∧
    match o.guard with
    | none => Qt P r o (ps i) (maskT (deps ops o) 0 (ts i)) S D
    | some (j, b) => ∃ oj d, ops[j]? = some oj ∧ oj.dst = some d ∧ ((getT (ts i) d = .bool b ∧ Qt P r o (ps i) (maskT (deps ops o) 0 (ts i)) S D) ∨ ((getT (ts i) d = .bool (!b) ∨ getT (ts i) d = .tup []) ∧ ps i = .tup []))

/-- the operations that have to stand ahead of each one -/
def prs (ops : Array Oper) : Nat → List Oper → List (List Nat) → List (List Nat)
  | _, [], acc => acc
  | j, o :: l, acc => prs ops (j + 1) l (acc ++ [(o.after.toList.filter fun e => Region.binds .any e && Nat.blt e.on j).flatMap fun e => e.on :: acc.getD e.on []])

def clash (ops : Array Oper) (i j : Oper) : Bool :=
  (match i.dst with | some u => (deps ops j).elem u || j.dst == some u | none => false) || (match j.dst with | some u => (deps ops i).elem u | none => false)

def drawEdge (j : Nat) (e : Edge) : Bool := !Region.binds .any e || Nat.blt e.on j

def drawPair (k : Nat) (fs : List Nat) (ops : Array Oper) (pr : List (List Nat)) (i j : Nat) : Bool :=
  match ops[i]?, ops[j]? with
  | some oi, some oj => fs.elem i || fs.elem j || (!(clash ops oi oj) || (pr.getD j []).elem i) && (Nat.blt j k || (pr.getD j []).elem i)
  | _, _ => false

def drawEdges (ops : Array Oper) (j : Nat) : Bool :=
  match ops[j]? with
  | some oj => oj.after.toList.all (drawEdge j)
  | none => false

/-- the head may be run in any order, and what is behind it comes in the order of the text; `fs`: what has been run ahead of all -/
def drawOk (k : Nat) (fs : List Nat) (ops : Array Oper) : Bool :=
  Nat.ble k ops.size && fs.all (fun i => Nat.blt i k) && ((List.range ops.size).all fun j => drawEdges ops j && (List.range j).all fun i => drawPair k fs ops (prs ops 0 ops.toList []) i j)

/-- what is done is closed under what has to stand ahead -/
def Closed (ops : Array Oper) (listed : Array Bool) : Prop := ∀ j oj, ops[j]? = some oj → listed.getD j false = true → ∀ e ∈ oj.after, Region.binds .any e = true → listed.getD e.on false = true

theorem prs_spec {ops : Array Oper} {listed : Array Bool} (hc : Closed ops listed) : ∀ (l : List Oper) (j : Nat) (acc : List (List Nat)), acc.length = j → l = ops.toList.drop j →
    (∀ n, n < j → listed.getD n false = true → ∀ i ∈ acc.getD n [], listed.getD i false = true) → ∀ n, listed.getD n false = true → ∀ i ∈ (prs ops j l acc).getD n [], listed.getD i false = true
  | [], j, acc, hl, hd, h, n, hn, i, hi => by
    by_cases hlt : n < j
    · exact h n hlt hn i hi
    · simp only [prs] at hi
      rw [List.getD_eq_getElem?_getD, List.getElem?_eq_none (by omega)] at hi
      simp at hi
  | o :: l, j, acc, hl, hd, h, n, hn, i, hi => by
    have ho : ops[j]? = some o := by
      have : (ops.toList.drop j)[0]? = some o := by rw [← hd]; rfl
      simpa using this
    refine prs_spec hc l (j + 1) _ (by simp [hl]) (by have := congrArg List.tail hd; simpa using this) ?_ n hn i hi
    intro n hn' hln i hi
    by_cases hnj : n = j
    · subst hnj
      rw [List.getD_eq_getElem?_getD, List.getElem?_append_right (by omega)] at hi
      simp only [hl, Nat.sub_self, List.getElem?_cons_zero, Option.getD_some, List.mem_flatMap, List.mem_filter, Bool.and_eq_true] at hi
      obtain ⟨e, ⟨he, hb, hlt⟩, hi⟩ := hi
      have h1 := hc n o ho hln e (Array.mem_toList_iff.1 he) hb
      rcases List.mem_cons.1 hi with rfl | hi
      · exact h1
      · exact h e.on (by have := Nat.le_of_ble_eq_true hlt; omega) h1 i hi
    · have hnj' : n < j := by omega
      have h2 : (acc ++ [(o.after.toList.filter fun e => Region.binds .any e && Nat.blt e.on j).flatMap fun e => e.on :: acc.getD e.on []]).getD n [] = acc.getD n [] := by
        rw [List.getD_eq_getElem?_getD, List.getD_eq_getElem?_getD, List.getElem?_append_left (by omega)]
      rw [h2] at hi
      exact h n hnj' hln i hi

theorem prs_done {ops : Array Oper} {listed : Array Bool} (hc : Closed ops listed) {j i : Nat} (hj : listed.getD j false = true) (hi : ((prs ops 0 ops.toList []).getD j []).elem i = true) : listed.getD i false = true :=
  prs_spec hc ops.toList 0 [] rfl (by simp) (fun n hn => absurd hn (by simp)) j hj i (by simpa using hi)

section
variable {k : Nat} {fs : List Nat} {ops : Array Oper} (hk : drawOk k fs ops = true)
include hk

theorem drawOk_spec {i j : Nat} {oi oj : Oper} (hfi : fs.elem i = false) (hfj : fs.elem j = false) (hij : i < j) (hoi : ops[i]? = some oi) (hoj : ops[j]? = some oj) {listed : Array Bool} (hc : Closed ops listed) (hd : listed.getD j false = true) :
    (clash ops oi oj = true → listed.getD i false = true) ∧ (k ≤ j → listed.getD i false = true) := by
  have hj : j < ops.size := (Array.getElem?_eq_some_iff.1 hoj).1
  have h0 := List.all_eq_true.1 (Bool.and_eq_true_iff.1 hk).2 j (List.mem_range.2 hj)
  have h1 := List.all_eq_true.1 (Bool.and_eq_true_iff.1 h0).2 i (List.mem_range.2 hij)
  unfold drawPair at h1
  rw [hoi, hoj] at h1
  dsimp only at h1
  rw [hfi, hfj, Bool.false_or, Bool.false_or] at h1
  obtain ⟨h2, h3⟩ := Bool.and_eq_true_iff.1 h1
  refine ⟨fun hcl => ?_, fun hkj => ?_⟩
  · rw [hcl, Bool.not_true, Bool.false_or] at h2
    exact prs_done hc hd h2
  · rcases Bool.or_eq_true_iff.1 h3 with h2 | h2
    · have := Nat.le_of_ble_eq_true h2; omega
    · exact prs_done hc hd h2

theorem drawOk_le : k ≤ ops.size := Nat.le_of_ble_eq_true (Bool.and_eq_true_iff.1 (Bool.and_eq_true_iff.1 hk).1).1
theorem drawOk_fs {i : Nat} (hi : k ≤ i) : fs.elem i = false := by
  cases e : fs.elem i with
  | false => rfl
  | true =>
    have := List.all_eq_true.1 (Bool.and_eq_true_iff.1 (Bool.and_eq_true_iff.1 hk).1).2 i (by simpa using e)
    have := Nat.le_of_ble_eq_true this
    omega

theorem drawOk_lt {j : Nat} {oj : Oper} (hoj : ops[j]? = some oj) {e : Edge} (he : e ∈ oj.after) (hb : Region.binds .any e = true) : e.on < j := by
  have hj : j < ops.size := (Array.getElem?_eq_some_iff.1 hoj).1
  have h0 := List.all_eq_true.1 (Bool.and_eq_true_iff.1 hk).2 j (List.mem_range.2 hj)
  have h1 := (Bool.and_eq_true_iff.1 h0).1
  unfold drawEdges at h1
  rw [hoj] at h1
  have h2 := List.all_eq_true.1 h1 e (Array.mem_toList_iff.2 he)
  unfold drawEdge at h2
  rw [hb, Bool.not_true, Bool.false_or] at h2
  exact Nat.le_of_ble_eq_true h2
end

/-- the state that what is done of the head has left -/
def doneT (ops : Array Oper) (ps : Nat → PV) (f : Nat → Bool) (t : List PV) : Nat → List PV
  | 0 => t
  | k + 1 => if f k then putT (doneT ops ps f t k) ((ops[k]?).bind (·.dst)) (ps k) else doneT ops ps f t k

theorem doneT_len {ops : Array Oper} {ps : Nat → PV} {f : Nat → Bool} {t : List PV} : ∀ k, (doneT ops ps f t k).length = t.length
  | 0 => rfl
  | k + 1 => by simp only [doneT]; split <;> simp [putT_len, doneT_len k]

theorem getT_put {t : List PV} {d : Option Nat} {p : PV} {u : Nat} (h : d ≠ some u) : getT (putT t d p) u = getT t u := by
  cases d with
  | none => rfl
  | some d =>
    simp only [putT, getT_set]
    rw [if_neg]
    rintro ⟨rfl, _⟩; exact h rfl

theorem getT_put_congr {t t' : List PV} {d : Option Nat} {p : PV} {u : Nat} (hl : t.length = t'.length) (h : getT t u = getT t' u) : getT (putT t d p) u = getT (putT t' d p) u := by
  cases d with
  | none => exact h
  | some d => simp only [putT, getT_set, hl, h]

/-- a slot reads alike in two such states, if those that write it are done alike -/
theorem doneT_congr {ops : Array Oper} {ps : Nat → PV} {f f' : Nat → Bool} {t : List PV} {u : Nat} : ∀ k, (∀ j, j < k → (ops[j]?).bind (·.dst) = some u → f j = f' j) → getT (doneT ops ps f t k) u = getT (doneT ops ps f' t k) u
  | 0, _ => rfl
  | k + 1, h => by
    have ih := doneT_congr k (fun j hj => h j (by omega)) (f := f) (f' := f') (ps := ps) (t := t)
    simp only [doneT]
    by_cases hd : (ops[k]?).bind (·.dst) = some u
    · have := h k (by omega) hd
      rw [this]
      split
      · exact getT_put_congr (by rw [doneT_len, doneT_len]) ih
      · exact ih
    · have e1 : ∀ g : Nat → Bool, getT (if g k then putT (doneT ops ps g t k) ((ops[k]?).bind (·.dst)) (ps k) else doneT ops ps g t k) u = getT (doneT ops ps g t k) u := by
        intro g; split
        · exact getT_put hd
        · rfl
      rw [e1 f, e1 f', ih]

theorem doneT_below {ops : Array Oper} {ps : Nat → PV} {t : List PV} {q : Nat → Bool} {i : Nat} : ∀ k, i ≤ k → doneT ops ps (fun j => decide (j < i) && q j) t k = doneT ops ps q t i
  | 0, h => by have : i = 0 := by omega
               subst this; rfl
  | k + 1, h => by
    by_cases e : i = k + 1
    · subst e
      have : ∀ n, n ≤ k + 1 → doneT ops ps (fun j => decide (j < k + 1) && q j) t n = doneT ops ps q t n := by
        intro n
        induction n with
        | zero => intro _; rfl
        | succ n ih =>
          intro hn
          have e : (decide (n < k + 1) && q n) = q n := by rw [decide_eq_true (by omega)]; simp
          simp only [doneT, e, ih (by omega)]
      exact this _ (Nat.le_refl _)
    · simp only [doneT]
      rw [if_neg (by simp; omega)]
      exact doneT_below k (by omega)

theorem getT_out : ∀ (l : List PV) (u : Nat), ¬ u < l.length → getT l u = .any
  | [], _, _ => rfl
  | _ :: _, 0, h => absurd (by simp) h
  | _ :: l, u + 1, h => getT_out l u (by simpa using h)

/-- the last one that writes a slot tells what it holds -/
theorem doneT_last {ops : Array Oper} {ps : Nat → PV} {f : Nat → Bool} {t : List PV} {i u : Nat} (hf : f i = true) (hd : (ops[i]?).bind (·.dst) = some u) : ∀ k, i < k → (∀ j, i < j → j < k → (ops[j]?).bind (·.dst) = some u → f j = false) →
    getT (doneT ops ps f t k) u = if u < t.length then ps i else getT t u
  | 0, h, _ => absurd h (by simp)
  | k + 1, h, hj => by
    simp only [doneT]
    by_cases e : i = k
    · subst e
      rw [if_pos hf, hd]
      simp only [putT, getT_set, doneT_len, true_and]
      split
      · rfl
      · rename_i hu
        rw [getT_out _ _ (by rw [doneT_len]; exact hu), getT_out _ _ hu]
    · have ih := doneT_last hf hd k (by omega) (fun j h1 h2 => hj j h1 (by omega)) (t := t) (ps := ps)
      split
      · rename_i hfk
        have hdk : (ops[k]?).bind (·.dst) ≠ some u := fun h' => by have := hj k (by omega) (by omega) h'; rw [hfk] at this; cases this
        rw [getT_put hdk]; exact ih
      · exact ih

theorem getD_set_true_d {listed : Array Bool} {i : Nat} (h : i < listed.size) {d : Bool} : (listed.setIfInBounds i true).getD i d = true := by
  simp [Array.getD_eq_getD_getElem?, Array.getElem?_setIfInBounds, h]

def undone (n : Nat) (listed : Array Bool) : Nat := ((List.range n).filter fun i => !listed.getD i true).length

theorem undone_set {n i : Nat} {listed : Array Bool} (hn : listed.size = n) (hi : i < n) (hu : listed.getD i true = false) : undone n (listed.setIfInBounds i true) + 1 ≤ undone n listed := by
  unfold undone
  have key : ∀ (l : List Nat), l.Nodup → i ∈ l → ((l.filter fun j => !(listed.setIfInBounds i true).getD j true).length + 1 ≤ (l.filter fun j => !listed.getD j true).length) := by
    intro l
    induction l with
    | nil => intro _ h; simp at h
    | cons x l ih =>
      intro hnd hm
      rw [List.nodup_cons] at hnd
      by_cases hx : x = i
      · subst hx
        have h1 : (listed.setIfInBounds x true).getD x true = true := getD_set_true_d (by omega)
        have h2 : (l.filter fun j => !(listed.setIfInBounds x true).getD j true) = (l.filter fun j => !listed.getD j true) := by
          apply List.filter_congr
          intro j hj
          rw [getD_set_ne true (by rintro rfl; exact hnd.1 hj)]
        simp only [List.filter_cons, h1, hu, h2, Bool.not_true, Bool.not_false, Bool.false_eq_true, if_true, if_false, List.length_cons]
        exact Nat.le_refl _
      · have h1 : (listed.setIfInBounds i true).getD x true = listed.getD x true := getD_set_ne true (Ne.symm hx)
        have h2 := ih hnd.2 (by simpa [Ne.symm hx] using hm)
        simp only [List.filter_cons, h1]
        split
        · simp only [List.length_cons]; omega
        · exact h2
  exact key _ List.nodup_range (List.mem_range.2 hi)

theorem undone_pos {n i : Nat} {listed : Array Bool} (hi : i < n) (hu : listed.getD i true = false) : 0 < undone n listed :=
  List.length_pos_of_mem (List.mem_filter.2 ⟨List.mem_range.2 hi, by rw [hu]; rfl⟩)

theorem getD_flip {listed : Array Bool} {i : Nat} (hi : i < listed.size) (d d' : Bool) : listed.getD i d = listed.getD i d' := by
  simp [Array.getD_eq_getD_getElem?, hi]

theorem Closed.set {ops : Array Oper} {listed : Array Bool} {i : Nat} (hc : Closed ops listed) (hi : i ∈ Region.ready .any ops listed) : Closed ops (listed.setIfInBounds i true) := by
  obtain ⟨hu, o, ho, hall⟩ := mem_ready.1 hi
  intro j oj hoj hj e he hb
  refine getD_set_true ?_
  by_cases hij : j = i
  · subst hij
    rw [ho] at hoj; cases hoj
    exact hall e he hb
  · rw [getD_set_ne false (Ne.symm hij)] at hj
    exact hc j oj hoj hj e he hb

section
variable {k : Nat} {fs : List Nat} {ops : Array Oper} (hk : drawOk k fs ops = true)
include hk

/-- while something is undone, something is ready -/
theorem ready_some {listed : Array Bool} (hs : listed.size = ops.size) : ∀ i, i < ops.size → listed.getD i false = false → ∃ j, j ≤ i ∧ j ∈ Region.ready .any ops listed := by
  intro i
  induction i using Nat.strongRecOn with
  | _ i ih =>
    intro hi hu
    have ho : ops[i]? = some ops[i] := by simp [hi]
    by_cases h : ∀ e ∈ ops[i].after, Region.binds .any e = true → listed.getD e.on false = true
    · exact ⟨i, Nat.le_refl _, mem_ready.2 ⟨(getD_flip (by omega) _ _).trans hu, _, ho, h⟩⟩
    · obtain ⟨e, h⟩ := Classical.not_forall.1 h
      obtain ⟨he, h⟩ := Classical.not_imp.1 h
      obtain ⟨hb, hn⟩ := Classical.not_imp.1 h
      have hlt := drawOk_lt hk ho he hb
      obtain ⟨j, h1, h2⟩ := ih e.on hlt (by omega) (by simpa using hn)
      exact ⟨j, by omega, h2⟩

/-- what is left stands in the order of the text -/
theorem any_tail {F : Fence} {n : Nat} {R : Exit → Act → World → Prop} : ∀ (fuel j : Nat) (listed : Array Bool) (a : Act) (w : World), listed.size = ops.size → Closed ops listed → (∀ i, i < ops.size → listed.getD i false = decide (i < j)) → k ≤ j → j ≤ ops.size →
    undone ops.size listed ≤ fuel → wpOpsIn F n P ops R (List.range' j (ops.size - j)) a w → wpAnyIn F n P .any ops R fuel listed a w := by
  intro fuel
  induction fuel with
  | zero =>
    intro j listed a w hs hc hd hkj hj hu h
    by_cases e : j = ops.size
    · subst e
      refine wpAnyIn_done ?_ (by simpa [wpOpsIn] using h) 0
      refine List.eq_nil_iff_forall_not_mem.2 fun i hi => ?_
      obtain ⟨h1, o, ho, _⟩ := mem_ready.1 hi
      have hlt : i < ops.size := (Array.getElem?_eq_some_iff.1 ho).1
      have := hd i hlt
      rw [getD_flip (by omega) false true, h1] at this
      simp [hlt] at this
    · have := undone_pos (n := ops.size) (i := j) (listed := listed) (by omega) (by rw [getD_flip (by omega) true false, hd j (by omega)]; simp)
      omega
  | succ fuel ih =>
    intro j listed a w hs hc hd hkj hj hu h
    by_cases e : j = ops.size
    · subst e
      refine wpAnyIn_done ?_ (by simpa [wpOpsIn] using h) _
      refine List.eq_nil_iff_forall_not_mem.2 fun i hi => ?_
      obtain ⟨h1, o, ho, _⟩ := mem_ready.1 hi
      have hlt : i < ops.size := (Array.getElem?_eq_some_iff.1 ho).1
      have := hd i hlt
      rw [getD_flip (by omega) false true, h1] at this
      simp [hlt] at this
    · have hlt : j < ops.size := by omega
      have hju : listed.getD j false = false := by rw [hd j hlt]; simp
      obtain ⟨j', hj', hr'⟩ := ready_some hk hs j hlt hju
      refine ⟨fun h0 => absurd hr' (by rw [h0]; simp), fun i hi => ?_⟩
      obtain ⟨h1, o, ho, hall⟩ := mem_ready.1 hi
      have hil : i < ops.size := (Array.getElem?_eq_some_iff.1 ho).1
      have hge : j ≤ i := by
        have := hd i hil
        rw [getD_flip (by omega) false true, h1] at this
        simpa using this
      have hc' := hc.set hi
      have hij : i = j := by
        by_cases hne : i = j
        · exact hne
        · have h2 := (drawOk_spec hk (i := j) (j := i) (oi := ops[j]) (drawOk_fs hk (by omega)) (drawOk_fs hk (by omega)) (by omega) (by simp [hlt]) ho hc' (getD_set_true_d (by omega))).2 (by omega)
          rw [getD_set_ne false hne, hju] at h2; cases h2
      subst hij
      rw [show ops.size - i = (ops.size - (i + 1)) + 1 by omega, List.range'_succ, wpOpsIn_cons] at h
      refine wpOpIn_mono (fun a' w' h' => ih (i + 1) _ a' w' (by simpa using hs) hc' (fun u hu' => ?_) (by omega) (by omega) ?_ h') h
      · by_cases e2 : i = u
        · subst e2; rw [getD_set_true_d (by omega)]; simp
        · rw [getD_set_ne false e2, hd u hu']; simp; omega
      · have := undone_set hs hil h1; omega
/-- the head in any order, then the tail -/
theorem any_head {ps : Nat → PV} {ts : Nat → List PV} {t : List PV} {S : Store} {D : List DA} (ht : ∀ i, i ≤ k → ts i = doneT ops ps (fun j => !fs.elem j) t i) (hst : ∀ i, i < k → fs.elem i = false → StepD P r ops S D ts ps i)
    {w0 : World} {fr0 : Nat → Prop} {m0 : Names} {R : Exit → Act → World → Prop}
    (hR : ∀ a w fr m, StR a w fr m (ts k) S D → Step w0 fr0 m0 S w fr m S → wpOpsIn (FR r) 0 P ops R (List.range' k (ops.size - k)) a w) :
    ∀ (fuel : Nat) (listed : Array Bool) (a : Act) (w : World) (fr : Nat → Prop) (m : Names), listed.size = ops.size → Closed ops listed → (∀ i, k ≤ i → listed.getD i false = false) → (∀ i, fs.elem i = true → listed.getD i false = true) →
      undone ops.size listed ≤ fuel → StR a w fr m (doneT ops ps (fun j => listed.getD j false && !fs.elem j) t k) S D → Step w0 fr0 m0 S w fr m S → wpAnyIn (FR r) 0 P .any ops R fuel listed a w := by
  intro fuel
  have fin : ∀ (fuel : Nat) (listed : Array Bool) (a : Act) (w : World) (fr : Nat → Prop) (m : Names), listed.size = ops.size → Closed ops listed → (∀ i, k ≤ i → listed.getD i false = false) →
      undone ops.size listed ≤ fuel → StR a w fr m (doneT ops ps (fun j => listed.getD j false && !fs.elem j) t k) S D → Step w0 fr0 m0 S w fr m S → (∀ i, i < k → listed.getD i false = true) → wpAnyIn (FR r) 0 P .any ops R fuel listed a w := by
    intro fuel listed a w fr m hs hc htl hu hstr hstep hall
    have hkl := drawOk_le hk
    refine any_tail hk fuel k listed a w hs hc (fun i hi => ?_) (Nat.le_refl _) hkl hu (hR a w fr m ?_ hstep)
    · by_cases e : i < k
      · rw [hall i e]; simp [e]
      · rw [htl i (by omega)]; simp [e]
    · rw [ht k (Nat.le_refl _)]
      have : doneT ops ps (fun j => listed.getD j false && !fs.elem j) t k = doneT ops ps (fun j => !fs.elem j) t k :=
        list_ext_get (by rw [doneT_len, doneT_len]) fun u => doneT_congr k fun j hj _ => by rw [hall j hj, Bool.true_and]
      rw [← this]; exact hstr
  have hkl := drawOk_le hk
  induction fuel with
  | zero =>
    intro listed a w fr m hs hc htl hfl hu hstr hstep
    refine fin 0 listed a w fr m hs hc htl hu hstr hstep fun i hi => ?_
    by_cases e : listed.getD i false = true
    · exact e
    · have := undone_pos (n := ops.size) (i := i) (listed := listed) (by omega) (by rw [getD_flip (by omega) true false]; simpa using e)
      omega
  | succ fuel ih =>
    intro listed a w fr m hs hc htl hfl hu hstr hstep
    by_cases hall : ∀ i, i < k → listed.getD i false = true
    · exact fin _ listed a w fr m hs hc htl hu hstr hstep hall
    have hnf : ∀ i, listed.getD i false = false → fs.elem i = false := fun i hi => by
      cases e : fs.elem i with
      | false => rfl
      | true => rw [hfl i e] at hi; cases hi
    obtain ⟨i0, hall'⟩ := Classical.not_forall.1 hall
    obtain ⟨hi0, hu0⟩ := Classical.not_imp.1 hall'
    have hf0 := hnf i0 (by simpa using hu0)
    obtain ⟨j', hj', hr'⟩ := ready_some hk hs i0 (by omega) (by simpa using hu0)
    refine ⟨fun h0 => absurd hr' (by rw [h0]; simp), fun i hi => ?_⟩
    obtain ⟨h1, o, ho, hafter⟩ := mem_ready.1 hi
    have hil : i < ops.size := (Array.getElem?_eq_some_iff.1 ho).1
    have hc' := hc.set hi
    have hui : listed.getD i false = false := (getD_flip (by omega) _ _).trans h1
    have hfi := hnf i hui
    have hik : i < k := by
      by_cases e : i < k
      · exact e
      · have h2 := (drawOk_spec hk (i := i0) (j := i) (oi := ops[i0]'(by omega)) hf0 hfi (by omega) (Array.getElem?_eq_getElem _) ho hc' (getD_set_true_d (by omega))).2 (by omega)
        rw [getD_set_ne false (by omega)] at h2
        exact absurd h2 hu0
    obtain ⟨o', ho', hts, hg⟩ := hst i hik hfi
    rw [ho] at ho'; cases ho'
    -- what stands ahead or behind is done or not, where it matters
    have hbefore : ∀ j oj, fs.elem j = false → ops[j]? = some oj → j < i → clash ops oj o = true → listed.getD j false = true := fun j oj hfj hoj hlt hcl => by
      have h2 := (drawOk_spec hk hfj hfi hlt hoj ho hc' (getD_set_true_d (by omega))).1 hcl
      rwa [getD_set_ne false (by omega)] at h2
    have hbehind : ∀ j oj, fs.elem j = false → ops[j]? = some oj → i < j → clash ops o oj = true → listed.getD j false = false := fun j oj hfj hoj hlt hcl => by
      cases e : listed.getD j false with
      | false => rfl
      | true =>
        have h2 := (drawOk_spec hk hfi hfj hlt ho hoj hc e).1 hcl
        rw [hui] at h2; cases h2
    have hdeps : ∀ u, (deps ops o).elem u = true → getT (doneT ops ps (fun j => listed.getD j false && !fs.elem j) t k) u = getT (ts i) u := fun u hu' => by
      rw [ht i (by omega), ← doneT_below (q := fun j => !fs.elem j) (i := i) k (by omega)]
      refine doneT_congr k fun j hj hd => ?_
      cases hoj : ops[j]? with
      | none => rw [hoj] at hd; simp at hd
      | some oj =>
        rw [hoj] at hd
        simp only [Option.bind_some] at hd
        cases hfj : fs.elem j with
        | true => simp
        | false =>
          simp only [Bool.not_false, Bool.and_true]
          by_cases e : j < i
          · rw [hbefore j oj hfj hoj e (by simp only [clash, hd, hu', Bool.true_or])]; simp [e]
          · by_cases e2 : j = i
            · subst e2; rw [hui]; simp
            · rw [hbehind j oj hfj hoj (by omega) (by simp only [clash, hd, hu', Bool.or_true])]; simp [e]
    have hlen : (doneT ops ps (fun j => listed.getD j false && !fs.elem j) t k).length = (ts i).length := by rw [doneT_len, ht i (by omega), doneT_len]
    have hmask : maskT (deps ops o) 0 (ts i) = maskT (deps ops o) 0 (doneT ops ps (fun j => listed.getD j false && !fs.elem j) t k) := mask_congr hlen.symm fun u hu' => (hdeps u hu').symm
    have hnew : putT (doneT ops ps (fun j => listed.getD j false && !fs.elem j) t k) o.dst (ps i) = doneT ops ps (fun j => (listed.setIfInBounds i true).getD j false && !fs.elem j) t k := by
      refine list_ext_get (by rw [putT_len, doneT_len, doneT_len]) fun u => ?_
      by_cases hd : o.dst = some u
      · rw [doneT_last (i := i) (by rw [getD_set_true_d (by omega), hfi]; rfl) (by rw [ho]; exact hd) k hik]
        · rw [hd]
          simp only [putT, getT_set, doneT_len, true_and]
          split
          · rfl
          · rename_i hlt
            rw [getT_out _ _ (by rw [doneT_len]; exact hlt), getT_out _ _ hlt]
        · intro j hij hjk hdj
          rw [getD_set_ne false (by omega)]
          cases hoj : ops[j]? with
          | none => rw [hoj] at hdj; simp at hdj
          | some oj =>
            rw [hoj] at hdj
            simp only [Option.bind_some] at hdj
            cases hfj : fs.elem j with
            | true => simp
            | false => rw [hbehind j oj hfj hoj hij (by simp [clash, hd, hdj])]; rfl
      · rw [getT_put hd]
        refine doneT_congr k fun j hj hdj => ?_
        have hne : i ≠ j := by rintro rfl; rw [ho] at hdj; exact hd hdj
        rw [getD_set_ne false hne]
    have hundo : undone ops.size (listed.setIfInBounds i true) ≤ fuel := by
      have := undone_set hs hil h1; omega
    have htl' : ∀ j, k ≤ j → (listed.setIfInBounds i true).getD j false = false := fun j hj => by rw [getD_set_ne false (by omega)]; exact htl j hj
    have hfl' : ∀ j, fs.elem j = true → (listed.setIfInBounds i true).getD j false = true := fun j hj => getD_set_true (hfl j hj)
    have hgo : ∀ {a' w' fr' m'}, StR a' w' fr' m' (putT (doneT ops ps (fun j => listed.getD j false && !fs.elem j) t k) o.dst (ps i)) S D → Step w0 fr0 m0 S w' fr' m' S → wpAnyIn (FR r) 0 P .any ops R fuel (listed.setIfInBounds i true) a' w' :=
      fun h hs' => ih _ _ _ _ _ (by simpa using hs) hc' htl' hfl' hundo (hnew ▸ h) hs'
    have hrun : Qt P r o (ps i) (maskT (deps ops o) 0 (ts i)) S D → Oper.wpIn (FR r) 0 P o a w (wpAnyIn (FR r) 0 P .any ops R fuel (listed.setIfInBounds i true)) R := fun hq => by
      rw [hmask] at hq
      refine ⟨fun _ _ => trivial, uponIn_mono (Qt_use hq a w fr m hstr (wpAnyIn (FR r) 0 P .any ops R fuel (listed.setIfInBounds i true)) fun v w' fr' m' hv hrel hst' => ?_) (fun _ _ h => h) (fun _ _ _ h => h.elim)⟩
      exact hgo ((hstr.step hst' hrel).put o.dst hv) (hstep.trans hst')
    unfold wpOpIn
    rw [ho]
    dsimp only
    cases hgd : o.guard with
    | none =>
      rw [hgd] at hg
      simp only [Region.wanted, hgd, if_true]
      exact hrun hg
    | some jb =>
      obtain ⟨j, b⟩ := jb
      rw [hgd] at hg
      obtain ⟨oj, d, hoj, hdj, hg⟩ := hg
      have h4 := hstr.tmp d
      rw [hdeps d (by simp [deps, guardTmp, hgd, getO_eq, hoj, hdj])] at h4
      rcases hg with ⟨hv, h2⟩ | ⟨hv, h3⟩
      · rw [hv] at h4
        have hy := yielded_bool hoj hdj h4
        simp only [Region.wanted, hgd, hy, BEq.rfl, if_true]
        exact hrun h2
      · have hne : (yielded ops a.tmps j == some b) = false := by
          rcases hv with hv | hv
          · rw [hv] at h4; rw [yielded_bool hoj hdj h4]; cases b <;> rfl
          · rw [hv] at h4; rw [yielded_undef hoj hdj h4]; rfl
        simp only [Region.wanted, hgd, hne, Bool.false_eq_true, if_false]
        refine ⟨fun _ _ => trivial, hgo ?_ hstep⟩
        rw [h3]
        exact hstr.put o.dst rep_undef

end

/-- what is left of a region that draws its order -/
def TA (P : Program) (r : Option Nat) (ops : Array Oper) (fuel : Nat) (listed : Array Bool) (Q : Post) (t : List PV) (S : Store) (D : List DA) : Prop :=
  ∀ a w fr m, StR a w fr m t S D → wpAnyIn (FR r) 0 P .any ops (post w fr m S Q) fuel listed a w

theorem T_any {id : Nat} {ops : Array Oper} {Q : Post} {t : List PV} {S : Store} {D : List DA} (hm : P.follows .mixedOrders = true) (h : TA P r ops ops.size (Array.replicate ops.size false) Q t S D) : T P r (.region id ops true) Q t S D := by
  intro a w fr m hs
  refine wpIn_region_any hm ?_
  have hk0 : Keep w fr m { w with drawn := w.drawn + 1 } fr m := ⟨fun _ h => h, fun _ _ => rfl, fun _ _ h => h, Nle.refl m⟩
  have hst0 : Step w fr m S { w with drawn := w.drawn + 1 } fr m S := ⟨Nat.le_refl _, fun _ h => h, fun _ h => .inl h, fun _ h => .inl h, fun _ h => .inl h, fun _ _ _ => rfl, fun _ _ h => h, Nle.refl m, fun _ _ _ => rfl, rfl, rfl⟩
  have hrel : RelS { w with drawn := w.drawn + 1 } fr m S :=
    { hs.rel with
      obj := fun g x hx => by
        obtain ⟨ob, h1, h2⟩ := hs.rel.obj g x hx
        refine ⟨ob, h1, ?_⟩
        cases ob with
        | none => exact h2
        | some b => obtain ⟨o, h3, h4⟩ := h2; exact ⟨o, h3, h4.keep hk0⟩ }
  have h1 := h a _ fr m (hs.step hst0 hrel)
  have key : ∀ (fuel : Nat) (listed : Array Bool) (a : Act) (w' : World) {Q Q' : Exit → Act → World → Prop}, (∀ e a w, Q e a w → Q' e a w) → wpAnyIn (FR r) 0 P .any ops Q fuel listed a w' → wpAnyIn (FR r) 0 P .any ops Q' fuel listed a w' := by
    intro fuel
    induction fuel with
    | zero => exact fun _ _ _ _ _ hq h => ⟨h.1, hq _ _ _ h.2⟩
    | succ fuel ih =>
      intro listed a w' Q Q' hq h
      refine ⟨fun h0 => hq _ _ _ (h.1 h0), fun i hi => ?_⟩
      have h2 := h.2 i hi
      unfold wpOpIn at h2 ⊢
      split
      · rename_i e; rw [e] at h2; exact ih _ _ _ hq h2
      · rename_i o e
        rw [e] at h2
        dsimp only at h2
        split
        · rename_i hw
          rw [if_pos hw] at h2
          exact ⟨h2.1, uponIn_mono h2.2 (fun _ _ h => ih _ _ _ hq h) hq⟩
        · rename_i hw
          rw [if_neg hw] at h2
          exact ⟨h2.1, ih _ _ _ hq h2.2⟩
  exact key _ _ _ _ (fun _ _ _ h => post.trans hst0 h) h1

theorem TA_draw {k : Nat} {fs : List Nat} {ops : Array Oper} (hk : drawOk k fs ops = true) {Q : Post} {ps : Nat → PV} {ts : Nat → List PV} {t : List PV} {S : Store} {D : List DA} {fuel : Nat} {listed : Array Bool} (hs : listed.size = ops.size) (hc : Closed ops listed)
    (hl : ∀ i, listed.getD i false = fs.elem i) (hu : undone ops.size listed ≤ fuel) (h0 : ts 0 = t) (hst : ∀ i, i < k → fs.elem i = false → StepD P r ops S D ts ps i) (hsk : ∀ i, i < k → fs.elem i = true → ts (i + 1) = ts i)
    (h : TL P r ops k Q (ts k) S D) : TA P r ops fuel listed Q t S D := by
  intro a w fr m hs'
  have hkl := drawOk_le hk
  have ht : ∀ i, i ≤ k → ts i = doneT ops ps (fun j => !fs.elem j) t i := by
    intro i
    induction i with
    | zero => intro _; exact h0
    | succ i ih =>
      intro hi
      cases hf : fs.elem i with
      | true =>
        rw [hsk i (by omega) hf, ih (by omega), doneT, if_neg (by rw [hf]; simp)]
      | false =>
        obtain ⟨o, ho, hts, _⟩ := hst i (by omega) hf
        rw [hts, ih (by omega), doneT, if_pos (by rw [hf]; rfl)]
        simp [ho]
  refine any_head hk (P := P) (r := r) (ps := ps) (ts := ts) (t := t) (S := S) (D := D) ht hst (w0 := w) (fr0 := fr) (m0 := m) (R := post w fr m S Q) ?_ fuel listed a w fr m hs hc ?_ ?_ hu ?_ (.refl _ _ _ _)
  · intro a' w' fr' m' hs' hst'
    exact wpOpsIn_mono (fun _ _ _ h => post.trans hst' h) (h a' w' fr' m' hs')
  · intro i hi; rw [hl i]; exact drawOk_fs hk hi
  · intro i hi; rw [hl i]; exact hi
  · have : doneT ops ps (fun j => listed.getD j false && !fs.elem j) t k = t := by
      have : ∀ n, doneT ops ps (fun j => listed.getD j false && !fs.elem j) t n = t := by
        intro n
        induction n with
        | zero => rfl
        | succ n ih =>
          rw [doneT, if_neg (by rw [hl]; cases fs.elem n <;> simp)]; exact ih
      exact this k
    rw [this]
    exact hs'

/-- a move that may be run ahead of all -/
theorem TA_take {ops : Array Oper} {i : Nat} {o : Oper} {x : Operand} {Q : Post} {t : List PV} {p : PV} {S : Store} {D : List DA} {fuel : Nat} {listed : Array Bool} (hi : ops[i]? = some o) (ho : o.op = .move x ∨ o.op = .assign x) (hg : o.guard = none)
    (hs : Region.noSelect ops = true) (hf : Region.free .any ops listed i = true) (hr : (Region.ready .any ops listed).contains i = true) (hQ : ∀ p t t' S D, Q (.panic p) t S D → Q (.panic p) t' S D)
    (hx : evK t x fun q => q = p) (h : TA P none ops fuel (listed.setIfInBounds i true) Q (putT t o.dst p) S D) : TA P none ops (fuel + 1) listed Q t S D := by
  intro a w fr m hst
  obtain ⟨q, hq, rfl⟩ := evK_ok hst hx
  refine wpAnyIn_take (oi := o) (v := a.eval x) rfl hi hs hf hr ?_ ?_ (h _ w fr m (hst.put o.dst hq))
  · rintro c a' w' ⟨y, t', S', D', fr', m', h1, h2, h3, h4⟩
    obtain ⟨p', rfl⟩ : ∃ p', y = .panic p' := by
      cases y with
      | panic p' => exact ⟨p', rfl⟩
      | normal => exact absurd h2.not_normal (by simp)
      | exit i => exact absurd h2.not_exit (by simp)
      | goto i => exact (by simp [XR] at h2 : False).elim
      | ret => exact (by simp [XR] at h2 : False).elim
    refine ⟨_, List.replicate a'.tmps.size .any, S', D', fr', m', hQ _ _ _ _ _ h1, h2, ⟨h3.rel, by simp, fun i => ?_, ?_⟩, h4⟩
    · have : ∀ (n i : Nat), getT (List.replicate n PV.any) i = .any := by
        intro n
        induction n with
        | zero => intro i; rfl
        | succ n ih => intro i; cases i with
          | zero => rfl
          | succ i => exact ih i
      rw [this]; exact .any _
    · have := h3.dfr
      cases hd : o.dst with
      | none => rw [hd] at this; exact this
      | some d => rw [hd] at this; exact this
  · refine ⟨.inl ⟨by simp [Region.wanted, hg], fun w' => ?_⟩, fun w' => ?_⟩
    · rcases ho with ho | ho <;> simp [execOp, ho]
    · rcases ho with ho | ho <;> simp [Oper.about, ho]

end Go.Proofs.Ytohldellkddmoaa.L

namespace Go.Proofs.Ytohldellkddmoaa.L
open Go
set_option linter.unusedSimpArgs false
set_option linter.unnecessarySimpa false
set_option linter.unusedVariables false

variable {P : Program} {G : List TI} {r : Option Nat}

def View (t : List PV) (S : Store) (t' : List PV) (S' : Store) : Prop :=
  ∀ a w fr m D, StR a w fr m t S D → ∃ fr' m', StR a w fr' m' t' S' D ∧ Step w fr m S w fr' m' S'

theorem T_view {c : Code} {Q : Post} {t t' : List PV} {S S' : Store} {D : List DA} (hv : View t S t' S') (h : T P r c Q t' S' D) : T P r c Q t S D := by
  intro a w fr m hs
  obtain ⟨fr', m', h1, h2⟩ := hv a w fr m D hs
  exact wpIn_mono (h a w fr' m' h1) fun _ _ _ h => post.trans h2 h

theorem TO_view {ops : Array Oper} {idx : List Nat} {Q : Post} {t t' : List PV} {S S' : Store} {D : List DA} (hv : View t S t' S') (h : TO P r ops idx Q t' S' D) : TO P r ops idx Q t S D := by
  intro a w fr m hs
  obtain ⟨fr', m', h1, h2⟩ := hv a w fr m D hs
  exact wpOpsIn_mono (fun _ _ _ h => post.trans h2 h) (h a w fr' m' h1)

theorem TL_view {ops : Array Oper} {n : Nat} {Q : Post} {t t' : List PV} {S S' : Store} {D : List DA} (hv : View t S t' S') (h : TL P r ops n Q t' S' D) : TL P r ops n Q t S D := TO_view hv h

theorem View.weak {t t' : List PV} {S S' : Store} (ht : tle t t') (hS : sle S S') : View t S t' S' :=
  fun a w fr m D hs => ⟨fr, m, hs.weak ht hS, Step.weak w fr m hS⟩

theorem View.trans {t t' t'' : List PV} {S S' S'' : Store} (h : View t S t' S') (k : View t' S' t'' S'') : View t S t'' S'' := by
  intro a w fr m D hs
  obtain ⟨fr', m', h1, h2⟩ := h a w fr m D hs
  obtain ⟨fr'', m'', k1, k2⟩ := k a w fr' m' D h1
  exact ⟨fr'', m'', k1, h2.trans k2⟩

/-- the store without a name -/
def del (S : Store) (g : Nat) : Store := fun h => if h = g then none else S h

theorem del_sle (S : Store) (g : Nat) : sle S (del S g) := fun h x hx => by
  unfold del at hx; split at hx
  · cases hx
  · exact hx

/-- what a value becomes where a row is frozen -/
inductive FzV (g ver sz e : Nat) (xs : List (List PV)) : PV → PV → Prop
  | same (p : PV) : FzV g ver sz e xs p p
  | row (off len : Nat) (h : off + len ≤ xs.length) : FzV g ver sz e xs (.row g ver off len sz) (.list e ((xs.drop off).take len))
  | nils (e' : Nat) : FzV g ver sz e xs .nils (.list e' [])
  | agg (ps qs : List PV) (hl : ps.length = qs.length) (h : ∀ (i : Nat) (h1 : i < ps.length) (h2 : i < qs.length), FzV g ver sz e xs ps[i] qs[i]) : FzV g ver sz e xs (.agg ps) (.agg qs)
  | tup (ps qs : List PV) (hl : ps.length = qs.length) (h : ∀ (i : Nat) (h1 : i < ps.length) (h2 : i < qs.length), FzV g ver sz e xs ps[i] qs[i]) : FzV g ver sz e xs (.tup ps) (.tup qs)
  | iface (t : Nat) (p q : PV) (h : FzV g ver sz e xs p q) : FzV g ver sz e xs (.iface t p) (.iface t q)

theorem fz_row {g ver sz e n : Nat} {xs : List (List PV)} (hn : n = xs.length) : FzV g ver sz e xs (.row g ver 0 n sz) (.list e xs) := by
  have := FzV.row (g := g) (ver := ver) (sz := sz) (e := e) (xs := xs) 0 n (by omega)
  rw [hn] at this
  simpa [hn] using this

theorem list_nil {w : World} {fr : Nat → Prop} {m : Names} {base : Option Addr} {cap e : Nat} : Rep w fr m (.slice base 0 cap) (.list e []) := .list0 base cap e

/-- a row's window becomes a frozen list -/
theorem row_list {w : World} {fr : Nat → Prop} {m : Names} {S : Store} {g ver sz e off len : Nat} {xs : List (List PV)} (rel : RelS w fr m S) (hg : S g = some (.row ver sz e xs))
    {fr' : Nat → Prop} (hup : ∀ b, fr b → fr' b) (hfr : ∀ b v, m g = some (v, some b) → fr' b) {v : Value} (hv : Rep w fr m v (.row g ver off len sz)) (hl : off + len ≤ xs.length) : Rep w fr' m v (.list e ((xs.drop off).take len)) := by
  obtain ⟨ob, h1, h2⟩ := rel.obj g _ hg
  have hk : Keep w fr m w fr' m := ⟨hup, fun _ _ => rfl, fun _ _ h => h, Nle.refl m⟩
  cases hv with
  | row _ _ _ _ _ _ h =>
    obtain ⟨v', b', e1, e2, e3⟩ := h
    rw [h1] at e1; cases e1
    have h4 := e3 rfl
    cases ob with
    | none => obtain ⟨rfl, rfl, rfl⟩ := h4; rw [List.take_zero]; exact .list0 _ _ _
    | some b =>
      obtain ⟨cap, N, rfl, hlc, hN, hoc⟩ := h4
      obtain ⟨o, ho, hle, arr, el, rfl, k1, k2, k3⟩ := h2
      have hll : ((xs.drop off).take len).length = len := by simp; omega
      have hget : ∀ i (hi : i < ((xs.drop off).take len).length), ((xs.drop off).take len)[i] = xs[off + i]'(by simp at hi; omega) := fun i hi => by simp
      have hfull : Rep w fr' m (.slice (some ⟨b, off * sz, none⟩) ((xs.drop off).take len).length cap) (.list e ((xs.drop off).take len)) := by
        refine .list b (off * sz) cap e sz _ (fun i j => (arr[(off + i) * sz + j]?).getD undef) (hfr b _ h1) (by rw [hll]; exact hlc) (by rw [hll]; exact Nat.le_trans (Nat.mul_le_mul_right _ (by omega)) hle) (fun i hi => by rw [hget i hi]; exact k1 _ _) (fun i j hi hj => ?_) (fun i j hi hj => ?_)
        · rw [hll] at hi
          have hx : off + i < xs.length := by omega
          obtain ⟨v, hv, _⟩ := k3 (off + i) j hx (by rw [k1 _ hx]; exact hj)
          have e4 : off * sz + (i * sz + j) = (off + i) * sz + j := by rw [Nat.add_mul]; omega
          rw [e4, hv]
          simp [World.cell?, ho, hv]
        · have hi' : i < len := by rw [hll] at hi; exact hi
          have hx : off + i < xs.length := by omega
          have hj' : j < (xs[off + i]).length := by rw [hget i hi] at hj; exact hj
          obtain ⟨v, hv, hr⟩ := k3 (off + i) j hx hj'
          have : ((xs.drop off).take len)[i][j] = xs[off + i][j] := by simp [hget i hi]
          rw [this, hv]
          exact hr.keep hk
      rw [hll] at hfull; exact hfull

theorem FzV.rep {w : World} {fr : Nat → Prop} {m : Names} {S : Store} {g ver sz e : Nat} {xs : List (List PV)} (rel : RelS w fr m S) (hg : S g = some (.row ver sz e xs)) {fr' : Nat → Prop} (hup : ∀ b, fr b → fr' b) (hfr : ∀ b v, m g = some (v, some b) → fr' b)
    {p q : PV} (h : FzV g ver sz e xs p q) : ∀ {v : Value}, Rep w fr m v p → Rep w fr' m v q := by
  have hk : Keep w fr m w fr' m := ⟨hup, fun _ _ => rfl, fun _ _ h => h, Nle.refl m⟩
  induction h with
  | same p => exact fun hv => hv.keep hk
  | row off len hl => exact fun hv => row_list rel hg hup hfr hv hl
  | nils e' => intro v hv; cases hv; exact .list0 _ _ _
  | agg ps qs hl _ ih =>
    intro v hv
    cases hv with
    | agg cs _ hc hr => exact .agg cs qs (hc.trans hl) fun i h1 h2 => ih i (by omega) h2 (hr i h1 (by omega))
  | tup ps qs hl _ ih =>
    intro v hv
    cases hv with
    | tup cs _ hc hr => exact .tup cs qs (hc.trans hl) fun i h1 h2 => ih i (by omega) h2 (hr i h1 (by omega))
  | iface t p q _ ih =>
    intro v hv
    cases hv with
    | iface _ v _ h => exact .iface t v q (ih h)

/-- the view that freezes a row -/
theorem View_freeze {t t' : List PV} {S : Store} {g ver sz e : Nat} {xs : List (List PV)} (hg : S g = some (.row ver sz e xs)) (hl : t.length = t'.length) (ht : ∀ i, FzV g ver sz e xs (getT t i) (getT t' i)) : View t S t' (del S g) := by
  intro a w fr m D hs
  have rel := hs.rel
  let fr' : Nat → Prop := fun b => fr b ∨ ∃ v, m g = some (v, some b)
  have hup : ∀ b, fr b → fr' b := fun b h => .inl h
  have hfr : ∀ b v, m g = some (v, some b) → fr' b := fun b v h => .inr ⟨v, h⟩
  have hk : Keep w fr m w fr' m := ⟨hup, fun _ _ => rfl, fun _ _ h => h, Nle.refl m⟩
  have hdel : ∀ {h x}, del S g h = some x → h ≠ g ∧ S h = some x := fun {h x} hx => by
    unfold del at hx; split at hx
    · cases hx
    · exact ⟨by assumption, hx⟩
  have hown : ∀ b, Own m (del S g) b → Own m S b := fun b ⟨h, x, v, h1, h2⟩ => ⟨h, x, v, (hdel h1).2, h2⟩
  have hst : Step w fr m S w fr' m (del S g) :=
    ⟨Nat.le_refl _, hup, fun b hb => by
      rcases hb with hb | ⟨v, hb⟩
      · exact .inl hb
      · exact .inr (.inl ⟨g, _, v, hg, hb⟩), fun b hb => .inl (hown b hb), fun h hh => by
        obtain ⟨x, hx⟩ := Option.isSome_iff_exists.1 hh
        exact .inl (by rw [(hdel hx).2]; rfl), fun _ _ _ => rfl, fun _ _ h => h, Nle.refl m, fun _ _ _ => rfl, rfl, rfl⟩
  refine ⟨fr', m, ⟨⟨fun h x hx => ?_, fun b hb ho => ?_, fun h h' x x' v v' b e1 e2 => rel.inj h h' x x' v v' b (hdel e1).2 (hdel e2).2, fun b hb => ?_, rel.bnd⟩, hs.len.trans hl, fun i => (ht i).rep rel hg hup hfr (hs.tmp i), hs.dfr.keep hk⟩, hst⟩
  · obtain ⟨ob, h1, h2⟩ := rel.obj h x (hdel hx).2
    refine ⟨ob, h1, ?_⟩
    cases ob with
    | none => exact h2
    | some b => obtain ⟨o, h3, h4⟩ := h2; exact ⟨o, h3, h4.keep hk⟩
  · rcases hb with hb | ⟨v, hb⟩
    · exact rel.apart b hb (hown b ho)
    · obtain ⟨h, x, v', h1, h2⟩ := ho
      exact (hdel h1).1 (rel.inj h g x _ v' v b (hdel h1).2 hg h2 hb)
  · rcases hb with hb | ⟨v, hb⟩
    · exact rel.frz b hb
    · exact rel.lt ⟨g, _, v, hg, hb⟩

/-- one slot's row is frozen -/
theorem View_slot {t : List PV} {S : Store} {d : Nat} {q : PV} {g ver sz e : Nat} {xs : List (List PV)} (hg : S g = some (.row ver sz e xs)) (h : FzV g ver sz e xs (getT t d) q) : View t S (t.set d q) (del S g) :=
  View_freeze hg (by simp) fun i => by
    rw [getT_set]
    split
    · rename_i e; rw [e.1]; exact h
    · exact .same _

/-- a nil slice becomes a frozen list without elements -/
theorem View_nils {t : List PV} {S : Store} {d e : Nat} (h : getT t d = .nils) : View t S (t.set d (.list e [])) S := by
  intro a w fr m D hs
  refine ⟨fr, m, ⟨hs.rel, by simpa using hs.len, fun i => ?_, hs.dfr⟩, .refl _ _ _ _⟩
  rw [getT_set]
  split
  · rename_i e'
    have := hs.tmp i
    rw [e'.1] at this ⊢
    rw [h] at this
    revert this
    generalize a.tmps.getD d undef = v
    intro hv; cases hv; exact .list0 _ _ _
  · exact hs.tmp i

theorem fn_view {f : Nat} {args : List PV} {S : Store} {R R' : Out → Store → Prop} (h : Fn P f args S R) (hr : ∀ o S', R o S' → R' o S') : Fn P f args S R' :=
  ⟨h.1, fun w fr m vs h1 h2 => (h.2 w fr m vs h1 h2).mono fun _ _ ⟨o, S', fr', m', k1, k2⟩ => ⟨o, S', fr', m', hr _ _ k1, k2⟩⟩

/-- a call that leaves the part of the store that it uses as it is -/
theorem callW_same {f : Nat} {args : List PV} {S S1 : Store} {p : PV} {kr kp : PV → Store → Prop} (h : Fn P f args S1 fun o S' => o = .ret p ∧ S' = S1) (hs : sle S S1) (hk : kr p S) : callW P f args S kr kp := by
  unfold callW
  refine ⟨S1, _, h, hs, ?_⟩
  rintro o S' ⟨rfl, rfl⟩ _
  have hm : mrg S S' S' = S := by
    funext g
    simp only [mrg]
    cases e1 : S' g with
    | none => simp
    | some x => simp [hs g x e1]
  rw [hm]; exact hk

/-- what is asked of the answer of a call -/
def ansW (S S1 : Store) (kr kp : PV → Store → Prop) (o : Out) (S' : Store) : Prop := match o with
  | .ret p => kr p (mrg S S1 S')
  | .pan p => kp p (mrg S S1 S')

theorem callW_intro {f : Nat} {args : List PV} {S S1 : Store} {R : Out → Store → Prop} {kr kp : PV → Store → Prop} (h : Fn P f args S1 R) (hs : sle S S1)
    (hk : ∀ o S', R o S' → (∀ g, (S' g).isSome = true → (S1 g).isSome = true ∨ S g = none) → ansW S S1 kr kp o S') : callW P f args S kr kp := by
  unfold callW
  exact ⟨S1, R, h, hs, fun o S' h1 h2 => by have := hk o S' h1 h2; cases o <;> exact this⟩

/-- a scope that no goto leaves -/
def scopeX (Q : Post) : Post
  | .goto _ => fun _ _ _ => False
  | x => Q x

theorem T_scope {c : Code} {Q : Post} {t : List PV} {S : Store} {D : List DA} (h : T P none c (scopeX Q) t S D) : T P none (.scope c) Q t S D := by
  intro a w fr m hs
  refine wpIn_wide.2 (wp_scope_straight (wp_mono (wpIn_wide.1 (h a w fr m hs)) ?_))
  rintro e a' w' ⟨x, t', S', D', fr', m', h1, h2, h3, h4⟩
  cases x with
  | goto l => exact h1.elim
  | normal => have := h2.not_normal; subst this; exact ⟨_, _, _, _, _, _, h1, h2, h3, h4⟩
  | exit i => have := h2.not_exit; subst this; exact ⟨_, _, _, _, _, _, h1, h2, h3, h4⟩
  | ret =>
    cases e with
    | goto l => simp [XR] at h2
    | _ => exact ⟨_, _, _, _, _, _, h1, h2, h3, h4⟩
  | panic p =>
    cases e with
    | goto l => simp [XR] at h2
    | _ => exact ⟨_, _, _, _, _, _, h1, h2, h3, h4⟩

/-- a state out of its known slots -/
def mkT : Nat → List (Nat × PV) → List PV
  | n, [] => padT [] n
  | n, (d, v) :: l => (mkT n l).set d v

def E : Store := fun _ => none
theorem sle_E (S : Store) : sle S E := fun _ _ h => by cases h

/-- a quiet operation of a region that draws its order -/
def QtW (G : List TI) (P : Program) (o : Oper) (p : PV) (t : List PV) (S : Store) : Prop :=
  match quiet o.op with
  | true => pureW G o.op t S fun q => q = p
  | false => match o.op with
    | .call { callee := .value f, args, .. } => evK t f fun c => evsK t args.toList fun vs => match c with
      | .fn (.func n) first cap => app2K first vs fun l1 => app2K l1 cap fun l2 => ∃ S1, sle S S1 ∧ Fn P n l2 S1 fun o S' => o = .ret p ∧ S' = S1
      | _ => False
    | _ => False

theorem QtW_ok (hG : GOk P G) {o : Oper} {p : PV} {t : List PV} {S : Store} {D : List DA} (h : QtW G P o p t S) : Qt P r o p t S D := by
  unfold QtW at h
  split at h
  · exact Qt_pure hG (by assumption) h
  · split at h
    · rename_i f args at' he
      simp only [app2K_eq] at h
      exact Qt_call he h
    · exact h.elim

def natsK : List Nat → (List Nat → Prop) → Prop
  | [], k => k []
  | x :: l, k => natsK l fun l' => k (x :: l')
theorem natsK_eq : ∀ (l : List Nat) (k : List Nat → Prop), natsK l k = k l
  | [], _ => rfl
  | x :: l, k => by simp only [natsK, natsK_eq l]

def maskK (l : List Nat) : Nat → List PV → (List PV → Prop) → Prop
  | _, [], k => k []
  | n, x :: t, k => match l.elem n with
    | true => maskK l (n + 1) t fun t' => k (x :: t')
    | false => maskK l (n + 1) t fun t' => k (.any :: t')
theorem maskK_eq (l : List Nat) : ∀ (n : Nat) (t : List PV) (k : List PV → Prop), maskK l n t k = k (maskT l n t)
  | _, [], _ => rfl
  | n, x :: t, k => by
    simp only [maskK, maskT]
    cases l.elem n <;> simp only [maskK_eq l (n + 1) t]

def QtK (G : List TI) (P : Program) (ops : Array Oper) (o : Oper) (p : PV) (t : List PV) (S : Store) : Prop := natsK (deps ops o) fun l => maskK l 0 t fun t' => QtW G P o p t' S

/-- the head of a region that draws its order, by the text's order -/
def DrawW (G : List TI) (P : Program) (r : Option Nat) (ops : Array Oper) (Q : Post) (S : Store) (D : List DA) (fs : List Nat) : Nat → Nat → List PV → Prop
  | 0, i, t => TL P r ops i Q t S D
  | n + 1, i, t => match fs.elem i with
    | true => DrawW G P r ops Q S D fs n (i + 1) t
    | false => match getO ops.toList i with
    | none => False
    | some o => match o.guard with
      | none => ∃ p, QtK G P ops o p t S ∧ putK t o.dst p fun t' => DrawW G P r ops Q S D fs n (i + 1) t'
      | some (j, b) => match getO ops.toList j with
        | some oj => match oj.dst with
          | some d => getK t d fun v => match v with
            | .bool g => (g = b → setK t d (.bool b) fun t => ∃ p, QtK G P ops o p t S ∧ putK t o.dst p fun t' => DrawW G P r ops Q S D fs n (i + 1) t') ∧
              (g = !b → setK t d (.bool (!b)) fun t => putK t o.dst (.tup []) fun t' => DrawW G P r ops Q S D fs n (i + 1) t')
            | .tup [] => putK t o.dst (.tup []) fun t' => DrawW G P r ops Q S D fs n (i + 1) t'
            | _ => False
          | none => False
        | none => False

theorem QtK_ok (hG : GOk P G) {ops : Array Oper} {o : Oper} {p : PV} {t : List PV} {S : Store} {D : List DA} (h : QtK G P ops o p t S) : Qt P r o p (maskT (deps ops o) 0 t) S D := by
  unfold QtK at h
  rw [natsK_eq, maskK_eq] at h
  exact QtW_ok hG h

theorem DrawW_ok (hG : GOk P G) {ops : Array Oper} {Q : Post} {S : Store} {D : List DA} {fs : List Nat} : ∀ {n i : Nat} {t : List PV}, DrawW G P r ops Q S D fs n i t →
    ∃ (ps : Nat → PV) (ts : Nat → List PV), ts i = t ∧ (∀ j, i ≤ j → j < i + n → fs.elem j = false → StepD P r ops S D ts ps j) ∧ (∀ j, i ≤ j → j < i + n → fs.elem j = true → ts (j + 1) = ts j) ∧ TL P r ops (i + n) Q (ts (i + n)) S D
  | 0, i, t, h => ⟨fun _ => .any, fun _ => t, rfl, fun j h1 h2 => by omega, fun j h1 h2 => by omega, h⟩
  | n + 1, i, t, h => by
    simp only [DrawW] at h
    cases hfi : fs.elem i with
    | true =>
      rw [hfi] at h
      obtain ⟨ps, ts, h1, h2, h2', h3⟩ := DrawW_ok hG h
      refine ⟨ps, fun j => if j = i then t else ts j, by simp, fun j hij hj hf => ?_, fun j hij hj hf => ?_, ?_⟩
      · have e : j ≠ i := by rintro rfl; rw [hfi] at hf; cases hf
        obtain ⟨o', k1, k2, k3⟩ := h2 j (by omega) (by omega) hf
        refine ⟨o', k1, ?_, ?_⟩
        · dsimp only; rw [if_neg (by omega), if_neg e]; exact k2
        · dsimp only; rw [if_neg e]; exact k3
      · by_cases e : j = i
        · subst e; dsimp only; rw [if_neg (by omega), if_pos rfl, h1]
        · dsimp only; rw [if_neg (by omega), if_neg e]; exact h2' j (by omega) (by omega) hf
      · dsimp only; rw [if_neg (by omega), show i + (n + 1) = i + 1 + n by omega]; exact h3
    | false =>
    rw [hfi] at h
    dsimp only at h
    cases ho : getO ops.toList i with
    | none => rw [ho] at h; exact h.elim
    | some o =>
      rw [ho] at h
      dsimp only at h
      have hoi : ops[i]? = some o := by rw [getO_eq] at ho; simpa using ho
      -- what is common to both ways
      have fin : ∀ p, DrawW G P r ops Q S D fs n (i + 1) (putT t o.dst p) →
          (match o.guard with
          | none => Qt P r o p (maskT (deps ops o) 0 t) S D
          | some (j, b) => ∃ oj d, ops[j]? = some oj ∧ oj.dst = some d ∧ ((getT t d = .bool b ∧ Qt P r o p (maskT (deps ops o) 0 t) S D) ∨ ((getT t d = .bool (!b) ∨ getT t d = .tup []) ∧ p = .tup []))) →
          ∃ (ps : Nat → PV) (ts : Nat → List PV), ts i = t ∧ (∀ j, i ≤ j → j < i + (n + 1) → fs.elem j = false → StepD P r ops S D ts ps j) ∧ (∀ j, i ≤ j → j < i + (n + 1) → fs.elem j = true → ts (j + 1) = ts j) ∧ TL P r ops (i + (n + 1)) Q (ts (i + (n + 1))) S D := by
        intro p hd hg
        obtain ⟨ps, ts, h1, h2, h2', h3⟩ := DrawW_ok hG hd
        refine ⟨fun j => if j = i then p else ps j, fun j => if j = i then t else ts j, by simp, fun j hij hj hf => ?_, fun j hij hj hf => ?_, ?_⟩
        · by_cases e : j = i
          · subst e
            refine ⟨o, hoi, ?_, ?_⟩
            · simp only [if_true]
              rw [if_neg (by omega), h1]
            · simp only [if_true]
              exact hg
          · obtain ⟨o', k1, k2, k3⟩ := h2 j (by omega) (by omega) hf
            refine ⟨o', k1, ?_, ?_⟩
            · dsimp only; rw [if_neg (by omega), if_neg e, if_neg e]; exact k2
            · dsimp only; rw [if_neg e, if_neg e]; exact k3
        · have e : j ≠ i := by rintro rfl; rw [hfi] at hf; cases hf
          dsimp only; rw [if_neg (by omega), if_neg e]; exact h2' j (by omega) (by omega) hf
        · dsimp only; rw [if_neg (by omega), show i + (n + 1) = i + 1 + n by omega]; exact h3
      cases hgd : o.guard with
      | none =>
        rw [hgd] at h fin
        obtain ⟨p, h1, h2⟩ := h
        rw [putK_eq] at h2
        exact fin p h2 (QtK_ok hG h1)
      | some jb =>
        obtain ⟨j, b⟩ := jb
        rw [hgd] at h fin
        dsimp only at h
        cases hj : getO ops.toList j with
        | none => rw [hj] at h; exact h.elim
        | some oj =>
          rw [hj] at h
          dsimp only at h
          cases hd : oj.dst with
          | none => rw [hd] at h; exact h.elim
          | some d =>
            rw [hd] at h
            dsimp only at h
            rw [getK_eq] at h
            have hoj : ops[j]? = some oj := by rw [getO_eq] at hj; simpa using hj
            split at h
            · rename_i g hv
              by_cases e : g = b
              · have h3 := h.1 e
                rw [setK_eq, set_same (by rw [hv, e])] at h3
                obtain ⟨p, h1, h2⟩ := h3
                rw [putK_eq] at h2
                exact fin p h2 ⟨oj, d, hoj, hd, .inl ⟨by rw [hv, e], QtK_ok hG h1⟩⟩
              · have e' : g = !b := by cases g <;> cases b <;> simp_all
                have h2 := h.2 e'
                rw [setK_eq, set_same (by rw [hv, e']), putK_eq] at h2
                exact fin _ h2 ⟨oj, d, hoj, hd, .inr ⟨.inl (by rw [hv, e']), rfl⟩⟩
            · rename_i hv
              rw [putK_eq] at h
              exact fin _ h ⟨oj, d, hoj, hd, .inr ⟨.inr hv, rfl⟩⟩
            · exact h.elim

theorem repl_false {n i : Nat} : (Array.replicate n false).getD i false = false := by
  simp only [Array.getD_eq_getD_getElem?, Array.getElem?_replicate]; split <;> rfl

theorem TA_drawW (hG : GOk P G) {ops : Array Oper} {Q : Post} {t : List PV} {S : Store} {D : List DA} {k : Nat} {fs : List Nat} (hk : drawOk k fs ops = true) {fuel : Nat} {listed : Array Bool} (hs : listed.size = ops.size) (hc : Closed ops listed)
    (hl : ∀ i, listed.getD i false = fs.elem i) (hu : undone ops.size listed ≤ fuel) (h : DrawW G P r ops Q S D fs k 0 t) : TA P r ops fuel listed Q t S D := by
  obtain ⟨ps, ts, h1, h2, h2', h3⟩ := DrawW_ok hG h
  rw [Nat.zero_add] at h3
  exact TA_draw hk hs hc hl hu h1 (fun i hi => h2 i (Nat.zero_le _) (by omega)) (fun i hi => h2' i (Nat.zero_le _) (by omega)) h3

theorem undone_le {n : Nat} {listed : Array Bool} : undone n listed ≤ n := by
  unfold undone
  exact Nat.le_trans (List.length_filter_le _ _) (by simp)

theorem T_drawW (hG : GOk P G) (hm : P.follows .mixedOrders = true) {id : Nat} {ops : Array Oper} {Q : Post} {t : List PV} {S : Store} {D : List DA} (k : Nat) (hk : drawOk k [] ops = true) (h : DrawW G P r ops Q S D [] k 0 t) : T P r (.region id ops true) Q t S D :=
  T_any hm (TA_drawW hG hk (by simp) (fun j oj _ hj => by rw [repl_false] at hj; cases hj) (fun i => by rw [repl_false]; rfl) undone_le h)

/-- what may be run ahead of all -/
def takeOk (ops : Array Oper) : Array Bool → List Nat → Bool
  | _, [] => true
  | listed, i :: l => (match getO ops.toList i with | some o => (match o.op with | .move _ | .assign _ => true | _ => false) && o.guard.isNone | none => false) && (Region.noSelect ops && Region.free .any ops listed i && (Region.ready .any ops listed).contains i) && takeOk ops (listed.setIfInBounds i true) l

def TakeW (ops : Array Oper) (K : List PV → Prop) : List Nat → List PV → Prop
  | [], t => K t
  | i :: l, t => match getO ops.toList i with
    | some o => (match o.op with
      | .move x => evK t x fun p => putK t o.dst p fun t' => TakeW ops K l t'
      | .assign x => evK t x fun p => putK t o.dst p fun t' => TakeW ops K l t'
      | _ => False)
    | none => False

theorem constK_det {v : Value} {K : PV → Prop} (h : constK v K) : ∃ p, constK v (fun q => q = p) ∧ K p := by
  unfold constK at h ⊢
  split at h
  · split at h
    · rename_i e; simp only [e]; exact ⟨_, rfl, h⟩
    · exact h.elim
  · exact ⟨_, rfl, h⟩
  · split at h
    · rename_i e; simp only [e]; exact ⟨_, rfl, h⟩
    · exact h.elim
  all_goals exact ⟨_, rfl, h⟩

theorem evK_det {t : List PV} {x : Operand} {K : PV → Prop} (h : evK t x K) : ∃ p, evK t x (fun q => q = p) ∧ K p := by
  cases x with
  | tmp n => simp only [evK, getK_eq] at h ⊢; exact ⟨_, rfl, h⟩
  | const v => exact constK_det h
  | func f => exact ⟨_, rfl, h⟩
  | global g => exact ⟨_, rfl, h⟩

theorem Take_ok {ops : Array Oper} {Q : Post} {S : Store} {D : List DA} {K : List PV → Prop} (hQ : ∀ p t t' S D, Q (.panic p) t S D → Q (.panic p) t' S D) : ∀ {fs : List Nat} {t : List PV} {listed : Array Bool} {fuel : Nat} {g : List Nat}, takeOk ops listed fs = true → listed.size = ops.size → Closed ops listed →
    (∀ i, listed.getD i false = g.elem i) → undone ops.size listed ≤ fuel → TakeW ops K fs t →
    (∀ (t : List PV) (listed : Array Bool) (fuel : Nat), listed.size = ops.size → Closed ops listed → (∀ i, listed.getD i false = (g.elem i || fs.elem i)) → undone ops.size listed ≤ fuel → K t → TA P none ops fuel listed Q t S D) → TA P none ops fuel listed Q t S D
  | [], t, listed, fuel, g, _, hs, hc, hl, hu, hk, h => h t listed fuel hs hc (fun i => by rw [hl i]; simp) hu hk
  | i :: l, t, listed, fuel, g, ht, hs, hc, hl, hu, hk, h => by
    simp only [takeOk, Bool.and_eq_true] at ht
    obtain ⟨⟨hmv, ⟨hsel, hfree⟩, hready⟩, hrest⟩ := ht
    cases ho : getO ops.toList i with
    | none => rw [ho] at hmv; cases hmv
    | some o =>
      have hoi : ops[i]? = some o := by rw [getO_eq] at ho; simpa using ho
      rw [ho] at hmv
      simp only [TakeW, ho] at hk
      dsimp only at hmv
      obtain ⟨hmv, hgd⟩ := Bool.and_eq_true_iff.1 hmv
      have hg : o.guard = none := by simpa using hgd
      have hir : i ∈ Region.ready .any ops listed := by simpa using hready
      have hiu : listed.getD i true = false := (mem_ready.1 hir).1
      have hil : i < ops.size := (Array.getElem?_eq_some_iff.1 hoi).1
      have hus := undone_set hs hil hiu
      have key : ∀ x, (o.op = .move x ∨ o.op = .assign x) → evK t x (fun p => putK t o.dst p fun t' => TakeW ops K l t') → TA P none ops fuel listed Q t S D := by
        intro x hx hk
        obtain ⟨p, hp, hk⟩ := evK_det hk
        rw [putK_eq] at hk
        cases fuel with
        | zero => omega
        | succ fuel =>
          refine TA_take hoi hx hg hsel hfree hready hQ hp ?_
          refine Take_ok hQ (g := i :: g) hrest (by simpa using hs) (hc.set hir) (fun j => ?_) (by omega) hk fun t' listed' fuel' h1 h2 h3 h4 h5 => h t' listed' fuel' h1 h2 (fun j => ?_) h4 h5
          · by_cases e : i = j
            · subst e; rw [getD_set_true_d (by omega)]; simp
            · rw [getD_set_ne false e, hl j]; simp [Ne.symm e]
          · rw [h3 j]; simp only [List.elem_cons]; cases (j == i) <;> cases g.elem j <;> simp
      split at hk
      · rename_i x e; exact key x (.inl e) hk
      · rename_i x e; exact key x (.inr e) hk
      · exact hk.elim

/-- a region that draws its order, of which some moves may be run ahead of all -/
theorem T_drawF (hG : GOk P G) (hm : P.follows .mixedOrders = true) {id : Nat} {ops : Array Oper} {Q : Post} {t : List PV} {S : Store} {D : List DA} (k : Nat) (fs : List Nat) (hf : takeOk ops (Array.replicate ops.size false) fs = true) (hk : drawOk k fs ops = true)
    (hQ : ∀ p t t' S D, Q (.panic p) t S D → Q (.panic p) t' S D) (h : TakeW ops (fun t => DrawW G P none ops Q S D fs k 0 t) fs t) : T P none (.region id ops true) Q t S D :=
  T_any hm (Take_ok hQ (g := []) hf (by simp) (fun j oj _ hj => by rw [repl_false] at hj; cases hj) (fun i => by rw [repl_false]; rfl) undone_le h
    fun t listed fuel h1 h2 h3 h4 h5 => TA_drawW hG hk h1 h2 (fun i => by rw [h3 i]; simp) h4 h5)

end Go.Proofs.Ytohldellkddmoaa.L

namespace Go.Proofs.Ytohldellkddmoaa.L
open Go
set_option linter.unusedSimpArgs false
set_option linter.unnecessarySimpa false
set_option linter.unusedVariables false

variable {P : Program} {G : List TI} {r : Option Nat}

theorem setN_eq {m : Names} {g : Nat} {x : Nat × Option Nat} (h : m g = some x) : setN m g x = m := by
  funext k
  unfold setN
  split
  · rename_i e; rw [e]; exact h.symm
  · rfl

theorem put_ok {w : World} {fr : Nat → Prop} {m : Names} {S : Store} (r : RelS w fr m S) {g l : Nat} {x x' : AO} {o o' : Obj} (hm : m g = some (0, some l)) (hS : S g = some x) (ho : w.heap[l]? = some o) (hsh : w.shape? l = none) (hv : x'.ver = 0)
    (hobj : Keep w fr m (w.putObj l o') fr m → ObjR (w.putObj l o') fr m o' x') : RelS (w.putObj l o') fr m (upd S g x') ∧ Step w fr m S (w.putObj l o') fr m (upd S g x') := by
  have hl : l < w.heap.size := (Array.getElem?_eq_some_iff.1 ho).1
  have e : setN m g (x'.ver, some l) = m := by rw [hv]; exact setN_eq hm
  have hold : ∀ b, b < w.heap.size → (∀ v, m g ≠ some (v, some b)) → (w.putObj l o').heap[b]? = w.heap[b]? := fun b _ hb => World.putObj_heap_other (by rintro rfl; exact hb 0 hm)
  have hshape : ∀ b N, (w.shape? b).map (·.2) = some N → ((w.putObj l o').shape? b).map (·.2) = some N := fun b N hN => by
    by_cases e : b = l
    · subst e; rw [hsh] at hN; cases hN
    · unfold World.shape? at hN ⊢; rw [World.putObj_heap_other e]; exact hN
  have hk : Keep w fr m (w.putObj l o') fr m := ⟨fun _ h => h, fun b hb => hold b (r.frz b hb) fun v e => r.apart b hb ⟨g, x, v, hS, e⟩, hshape, Nle.refl m⟩
  have := upd_ok (x' := x') (ob' := some l) (w' := w.putObj l o') (g := g) r (by simp) hold hshape
    (fun v ob e => by rw [hm] at e; cases e; exact ⟨by rw [hS]; rfl, Nat.zero_le _, fun _ => rfl⟩) (fun b e => by cases e; exact .inl ⟨0, hm⟩)
    ⟨o', World.putObj_heap_same hl, by rw [e]; exact hobj hk⟩
  rw [e] at this
  exact this

def zipT : List PV → List Nat → List PV → List PV
  | t, p :: ps, v :: vs => zipT (t.set p v) ps vs
  | t, _, _ => t

theorem set_RepA {w : World} {fr : Nat → Prop} {m : Names} {tmps : Array Value} {t : List PV} (h : RepA w fr m tmps t) {d : Nat} {v : Value} {p : PV} (hv : Rep w fr m v p) : RepA w fr m (tmps.setIfInBounds d v) (t.set d p) := by
  refine ⟨by simp [h.1], fun i h1 h2 => ?_⟩
  simp only [Array.size_setIfInBounds, List.length_set] at h1 h2
  rw [Array.getElem_setIfInBounds, List.getElem_set]
  split
  · exact hv
  · exact h.2 i h1 h2
  
theorem zip_RepA {w : World} {fr : Nat → Prop} {m : Names} : ∀ {ps : List Nat} {args : List Value} {vs : List PV} {tmps : Array Value} {t : List PV}, RepA w fr m tmps t → args.length = vs.length → (∀ (i : Nat) (h1 : i < args.length) (h2 : i < vs.length), Rep w fr m args[i] vs[i]) →
    RepA w fr m ((ps.zip args).foldl (fun tmps (t, a) => tmps.setIfInBounds t a) tmps) (zipT t ps vs)
  | [], _, _, _, _, h, _, _ => by simpa [zipT] using h
  | p :: ps, [], [], _, _, h, _, _ => by simpa [zipT] using h
  | p :: ps, a :: args, v :: vs, tmps, t, h, hl, hr => by
    simp only [List.zip_cons_cons, List.foldl_cons, zipT]
    exact zip_RepA (set_RepA h (hr 0 (by simp) (by simp))) (by simpa using hl) fun i h1 h2 => hr (i + 1) (by simpa using h1) (by simpa using h2)
  | _ :: _, [], _ :: _, _, _, _, hl, _ => by simp at hl
  | _ :: _, _ :: _, [], _, _, _, hl, _ => by simp at hl

theorem RepA.tmp {w : World} {fr : Nat → Prop} {m : Names} {tmps : Array Value} {t : List PV} (h : RepA w fr m tmps t) (i : Nat) : Rep w fr m (tmps.getD i undef) (getT t i) := by
  by_cases hi : i < t.length
  · have h1 : i < tmps.size := by rw [h.1]; exact hi
    have e : getT t i = t[i] := by
      clear h h1
      induction t generalizing i with
      | nil => simp at hi
      | cons x l ih =>
        cases i with
        | zero => rfl
        | succ i => simpa [getT] using ih i (by simpa using hi)
    rw [e]
    have := h.2 i h1 hi
    simpa [Array.getD, h1] using this
  · rw [getT_out _ _ hi]; exact .any _

theorem getT_elem : ∀ {t : List PV} {i : Nat} (hi : i < t.length), getT t i = t[i]
  | _ :: _, 0, _ => rfl
  | _ :: l, i + 1, hi => by simpa [getT] using getT_elem (t := l) (i := i) (by simpa using hi)

theorem StR.RepA {a : Act} {w : World} {fr : Nat → Prop} {m : Names} {t : List PV} {S : Store} {D : List DA} (h : StR a w fr m t S D) : RepA w fr m a.tmps t :=
  ⟨h.len, fun i h1 h2 => by
    have := h.tmp i
    rw [getT_elem h2] at this
    simpa [Array.getD, h1] using this⟩

theorem XR.panic {w : World} {fr : Nat → Prop} {m : Names} {ch : List PanicEntry} {x : AX} (h : XR w fr m (.panic ch) x) : ∃ p, x = .panic p := by
  cases x with
  | panic p => exact ⟨p, rfl⟩
  | normal => exact absurd h.not_normal (by simp)
  | exit i => exact absurd h.not_exit (by simp)
  | goto i => exact (by simp [XR] at h : False).elim
  | ret => exact (by simp [XR] at h : False).elim

theorem XR.ret {w : World} {fr : Nat → Prop} {m : Names} {x : AX} (h : XR w fr m .ret x) : x = .ret := by
  cases x <;> simp_all [XR]
theorem XR.goto {w : World} {fr : Nat → Prop} {m : Names} {i : Nat} {x : AX} (h : XR w fr m (.goto i) x) : x = .goto i := by
  cases x <;> simp_all [XR]
theorem XR.outgrown {w : World} {fr : Nat → Prop} {m : Names} {x : AX} (h : XR w fr m .outgrown x) : False := by
  cases x <;> exact (by simpa [XR] using h : False).elim

/-- what stands behind a round's assignments, and behind its body -/
def roundX (g : Nat) (R : Out → Store → Prop) : Post := fun x _ S _ => match x with
  | .normal => ∃ st pd fn tt ps asg bd d S', S g = some (.loop st pd fn tt ps asg bd d) ∧ sle (upd S g (.loop .ready none fn tt ps asg bd d)) S' ∧ R (.ret (.bool true)) S'
  | .ret => ∃ st pd fn tt ps asg bd d S', S g = some (.loop st pd fn tt ps asg bd d) ∧ sle (upd S g (.loop .done (some .ret) fn tt ps asg bd d)) S' ∧ R (.ret (.bool false)) S'
  | .exit i => ∃ st pd fn tt ps asg bd d S', S g = some (.loop st pd fn tt ps asg bd d) ∧ sle (upd S g (.loop .done (some (.exit i)) fn tt ps asg bd d)) S' ∧ R (.ret (.bool false)) S'
  | .goto i => ∃ st pd fn tt ps asg bd d S', S g = some (.loop st pd fn tt ps asg bd d) ∧ sle (upd S g (.loop .done (some (.goto i)) fn tt ps asg bd d)) S' ∧ R (.ret (.bool false)) S'
  | .panic _ => False

def roundA (P : Program) (l g : Nat) (bd : Code) (R : Out → Store → Prop) : Post := fun x t S D => match x with
  | .normal => ∃ pd fn tt ps asg bd' d, S g = some (.loop .ready pd fn tt ps asg bd' d) ∧ T P (some l) bd (roundX g R) t (upd S g (.loop .busy pd fn tt ps asg bd' d)) D
  | _ => False

theorem loop_shape {w : World} {l : Nat} {x : Loop} (h : w.heap[l]? = some (.loop x)) : w.shape? l = none := by
  unfold World.shape?; rw [h]

/-- a loop's record where the store has it -/
theorem loop_at {w : World} {fr : Nat → Prop} {m : Names} {S : Store} (rel : RelS w fr m S) {g l : Nat} {st : LoopState} {pd : Option Code} {fn : FuncId} {t : List PV} {ps : Array Tmp} {asg bd : Code} {d : Nat} (hS : S g = some (.loop st pd fn t ps asg bd d)) {ob : Option Nat} {v : Nat} (hm : m g = some (v, ob)) :
    v = 0 ∧ ∃ l, ob = some l ∧ ∃ tmps db, At m d 0 (fun ob => ob = some db) ∧ w.heap[l]? = some (.loop { state := st, pending := pd, fn, tmps, params := ps, assign := asg, body := bd, defers := db }) ∧ RepA w fr m tmps t := by
  obtain ⟨ob', h1, h2⟩ := rel.obj g _ hS
  rw [hm] at h1
  simp only [AO.ver, Option.some.injEq, Prod.mk.injEq] at h1
  obtain ⟨rfl, rfl⟩ := h1
  refine ⟨rfl, ?_⟩
  cases ob with
  | none => obtain ⟨_, _, _, e⟩ := h2; cases e
  | some l =>
    obtain ⟨o, ho, tmps, db, hd, rfl, hr⟩ := h2
    exact ⟨l, rfl, tmps, db, hd, ho, hr⟩

theorem YFn_of_T {g : Nat} {fn : FuncId} {t : List PV} {ps : Array Tmp} {asg bd : Code} {d : Nat} {args : List PV} {S : Store} {R : Out → Store → Prop} {pd : Option Code} (hS : S g = some (.loop .ready pd fn t ps asg bd d)) (hn : args.length = ps.size)
    (h : ∀ l, T P (some l) asg (roundA P l g bd R) (zipT t ps.toList args) S []) : YFn P g args S R := by
  refine ⟨⟨_, _, _, _, _, _, _, _, hS⟩, fun r w fr m vs l rel hv hm => ?_⟩
  obtain ⟨_, l', e, tmps, db, hd, ho, hr⟩ := loop_at (l := l) rel hS hm
  cases e
  refine ⟨fn, _, asg, bd, run_yield ho (by rw [hv.1]; exact hn), ?_⟩
  refine roundIn_of_wpIn trivial ?_
  have e : (ps.zip vs).foldl (fun tmps (t, a) => tmps.setIfInBounds t a) tmps = (ps.toList.zip vs.toList).foldl (fun tmps (t, a) => tmps.setIfInBounds t a) tmps := by
    rw [← Array.foldl_toList, Array.toList_zip]
  have hz := zip_RepA (ps := ps.toList) (args := vs.toList) (vs := args) hr (by simpa using hv.1) (fun i h1 h2 => by simpa using hv.2 i (by simpa using h1) h2)
  rw [← e] at hz
  have hst : StR { tmps := (ps.zip vs).foldl (fun tmps (t, a) => tmps.setIfInBounds t a) tmps, defers := [] } w fr m (zipT t ps.toList args) S [] := ⟨rel, hz.1, hz.tmp, trivial⟩
  refine wpIn_mono (h l _ w fr m hst) ?_
  rintro e a₁ w₁ ⟨x, t₁, S₁, D₁, fr₁, m₁, hq, hx, hs₁, hst₁⟩
  have hat : ∀ {w' fr' m' S'}, Step w fr m S w' fr' m' S' → ∀ {v ob}, m' g = some (v, ob) → v = 0 → ob = some l := fun st v ob e e0 => by
    obtain ⟨v', b', k1, k2, k3⟩ := st.nam g 0 (some l) hm
    rw [k1] at e; cases e
    exact k3 e0
  cases e with
  | normal =>
    have := hx.normal; subst this
    obtain ⟨pd1, fn1, tt1, ps1, as1, bd1, d1, hS1, hbody⟩ := hq
    obtain ⟨ob, hm1, _⟩ := hs₁.rel.obj g _ hS1
    obtain ⟨_, l1, e1, tmps1, db1, hd1, ho1, hr1⟩ := loop_at (l := l) hs₁.rel hS1 hm1
    have hl := hat hst₁ hm1 rfl
    subst e1; cases hl
    refine ⟨_, run_beginRound ho1 rfl, ?_⟩
    obtain ⟨k1, k2⟩ := put_ok (x' := .loop .busy pd1 fn1 tt1 ps1 as1 bd1 d1) (o' := .loop { state := .busy, pending := pd1, fn := fn1, tmps := tmps1, params := ps1, assign := as1, body := bd1, defers := db1 }) hs₁.rel hm1 hS1 ho1 (loop_shape ho1) rfl
      (fun hk => ⟨tmps1, db1, hd1, rfl, hr1.keep hk⟩)
    refine wpIn_mono (hbody _ _ _ _ (hs₁.step k2 k1)) ?_
    rintro e a₂ w₂ ⟨x, t₂, S₂, D₂, fr₂, m₂, hq, hx, hs₂, hst₂⟩
    have hst := (hst₁.trans k2).trans hst₂
    -- the record is set to what the body's end asks
    have fin : ∀ (j : Option Code) (b : Bool), j.isNone = b → (∃ st pd fn tt ps asg bd d S', S₂ g = some (.loop st pd fn tt ps asg bd d) ∧ sle (upd S₂ g (.loop (if b then .ready else .done) j fn tt ps asg bd d)) S' ∧ R (.ret (.bool b)) S') →
        ∃ v w', (Instr.endRound l j).run P w₂ = .ok v w' ∧ ∃ o S' fr' m', R o S' ∧ OutR w' fr' m' (.returned v) o ∧ RelS w' fr' m' S' ∧ Step w fr m S w' fr' m' S' := by
      rintro j b rfl ⟨st, pd, fn2, tt2, ps2, as2, bd2, d2, S', hS2, hsle, hR⟩
      obtain ⟨ob, hm2, _⟩ := hs₂.rel.obj g _ hS2
      obtain ⟨_, l2, e2, tmps2, db2, hd2, ho2, hr2⟩ := loop_at (l := l) hs₂.rel hS2 hm2
      have hl := hat hst hm2 rfl
      subst e2; cases hl
      obtain ⟨k1, k2⟩ := put_ok (x' := .loop (if j.isNone then .ready else .done) j fn2 tt2 ps2 as2 bd2 d2) (o' := .loop { state := if j.isNone then .ready else .done, pending := j, fn := fn2, tmps := tmps2, params := ps2, assign := as2, body := bd2, defers := db2 }) hs₂.rel hm2 hS2 ho2 (loop_shape ho2) rfl
        (fun hk => ⟨tmps2, db2, hd2, rfl, hr2.keep hk⟩)
      exact ⟨_, _, run_endRound j ho2, _, S', fr₂, m₂, hR, .bool _, k1.weak hsle, (hst.trans k2).trans (Step.weak _ _ _ hsle)⟩
    cases e with
    | normal => have := hx.normal; subst this; exact fin none true rfl hq
    | ret => have := hx.ret; subst this; exact fin (some .ret) false rfl hq
    | exit i => have := hx.exit; subst this; exact fin (some (.exit i)) false rfl hq
    | goto i => have := hx.goto; subst this; exact fin (some (.goto i)) false rfl hq
    | panic ch =>
      obtain ⟨p, rfl⟩ := hx.panic
      exact hq.elim
    | outgrown => exact hx.outgrown.elim
  | ret => have := hx.ret; subst this; exact hq.elim
  | exit i => have := hx.exit; subst this; exact hq.elim
  | goto i => have := hx.goto; subst this; exact hq.elim
  | panic ch =>
    obtain ⟨p, rfl⟩ := hx.panic
    exact hq.elim
  | outgrown => exact hx.outgrown.elim

end Go.Proofs.Ytohldellkddmoaa.L

namespace Go.Proofs.Ytohldellkddmoaa.L
open Go
set_option linter.unusedSimpArgs false
set_option linter.unnecessarySimpa false
set_option linter.unusedVariables false

variable {P : Program} {G : List TI} {r : Option Nat}

/-- what is asked where the function that was ranged over has ended -/
def rfX (P : Program) (Q : Post) (t : List PV) (S : Store) (gl gd : Nat) (D : List DA) : Out → Prop
  | .ret _ => ∃ st pd fn tt ps asg bd d S', S gl = some (.loop st pd fn tt ps asg bd d) ∧ st ≠ .busy ∧ sle (upd S gl (.loop .exhausted pd fn tt ps asg bd d)) S' ∧ (match pd with
    | none => Q .normal t S' (.mark gd :: D)
    | some c => T P none c Q t S' (.mark gd :: D))
  | .pan p => Q (.panic p) t S (.mark gd :: D)

theorem T_rangeFunc {g : Operand} {ps : Array Tmp} {asg bd : Code} {Q : Post} {t : List PV} {S : Store} {D : List DA}
    (h : evK t g fun c => match c with
      | .fn (.func f) first cap => ∀ fn gd gl, S gd = none → S gl = none → gd ≠ gl →
        ∃ S1 R, Fn P f (first ++ [.yld gl] ++ cap) S1 R ∧ sle (upd (upd S gd .dfr) gl (.loop .ready none fn t ps asg bd gd)) S1 ∧
          ∀ o S', R o S' → (∀ g, (S' g).isSome = true → (S1 g).isSome = true ∨ upd (upd S gd .dfr) gl (.loop .ready none fn t ps asg bd gd) g = none) →
            rfX P Q t (mrg (upd (upd S gd .dfr) gl (.loop .ready none fn t ps asg bd gd)) S1 S') gl gd D o
      | _ => False) : T P none (.rangeFunc g ps asg bd) Q t S D := by
  intro a w fr m hs
  obtain ⟨p, hp, h⟩ := evK_ok hs h
  split at h
  · rename_i f first cap
    revert hp; generalize he : a.eval g = vf; intro hp
    cases hp with
    | fn _ fa fc _ _ a1 a2 a3 a4 =>
      refine wpIn_rangeFunc fun fn _ => ?_
      -- the block for the rounds' deferred calls, and the record
      obtain ⟨gd, hgm, hgS⟩ := fresh_name hs.rel
      obtain ⟨r1, s1⟩ := push_ok (x' := .dfr) (o := .deferred (some [])) hs.rel hgm (fun _ _ => rfl)
      have hs1 := hs.step s1 r1
      obtain ⟨gl, hlm, hlS⟩ := fresh_name r1
      have hne : gl ≠ gd := by rintro rfl; rw [setN_same] at hlm; cases hlm
      have hlS' : S gl = none := by rw [upd_ne hne] at hlS; exact hlS
      have hat : ∀ m', Nle (setN m gd (0, some w.heap.size)) m' → At m' gd 0 fun ob => ob = some w.heap.size := fun m' hn => by
        obtain ⟨v', b', k1, k2, k3⟩ := hn gd 0 (some w.heap.size) (setN_same _ _ _)
        exact ⟨v', b', k1, Nat.zero_le _, fun e => k3 e⟩
      obtain ⟨r2, s2⟩ := push_ok (x' := .loop .ready none fn t ps asg bd gd) (o := .loop { state := .ready, pending := none, fn := fn, tmps := a.tmps, params := ps, assign := asg, body := bd, defers := w.heap.size }) r1 hlm
        (fun m' hn => ⟨a.tmps, w.heap.size, hat m' hn, rfl, hs1.RepA.keep (keep_push r1 _ hn)⟩)
      have hs2 := hs1.step s2 r2
      obtain ⟨S1, R, ⟨hc, hf⟩, hsub, hk⟩ := h fn gd gl hgS hlS' (Ne.symm hne)
      have s12 := s1.trans s2
      have hsz : (w.heap.push (Obj.deferred (some []))).size = w.heap.size + 1 := by simp
      let w2 : World := (w.alloc (.deferred (some []))).alloc (.loop { state := .ready, pending := none, fn := fn, tmps := a.tmps, params := ps, assign := asg, body := bd, defers := w.heap.size })
      have hml : setN (setN m gd (0, some w.heap.size)) gl (0, some (w.heap.size + 1)) gl = some (0, some (w.heap.size + 1)) := setN_same _ _ _
      have e2 : (setN (setN m gd ((AO.dfr).ver, some w.heap.size)) gl ((AO.loop .ready none fn t ps asg bd gd).ver, some (w.heap.push (Obj.deferred (some []))).size)) = setN (setN m gd (0, some w.heap.size)) gl (0, some (w.heap.size + 1)) := by rw [hsz]; rfl
      rw [e2] at r2 s2 hs2 s12
      generalize hm2 : setN (setN m gd (0, some w.heap.size)) gl (0, some (w.heap.size + 1)) = m2 at r2 s2 hs2 s12 hml
      have hw2 : w2 = { ({ w with heap := w.heap.push (Obj.deferred (some [])) } : World) with heap := (w.heap.push (Obj.deferred (some []))).push (.loop { state := .ready, pending := none, fn := fn, tmps := a.tmps, params := ps, assign := asg, body := bd, defers := w.heap.size }) } := rfl
      rw [← hw2] at r2 s2 hs2 s12
      have hyl : RepA w2 fr m2 #[.func (.yield (w.heap.size + 1)) #[] #[]] [.yld gl] := ⟨rfl, fun i h1 h2 => by
        have : i = 0 := by simp at h1; omega
        subst this
        exact .yld _ gl ⟨0, some (w.heap.size + 1), hml, Nat.le_refl _, fun _ => ⟨_, rfl, rfl⟩⟩⟩
      have hk12 := s12.keep hs.rel
      have hargs := app_RepA (RepA.keep ⟨a1, a3⟩ hk12) hyl (RepA.keep ⟨a2, a4⟩ hk12)
      have hmark : DsR w2 fr m2 ({ target := .collected w.heap.size, args := #[] } :: a.defers) (.mark gd :: D) := ⟨by
        have hd : m2 gd = some (0, some w.heap.size) := by rw [← hm2, setN_ne (Ne.symm hne), setN_same]
        exact ⟨0, _, hd, Nat.le_refl _, fun _ => ⟨_, rfl, rfl⟩⟩, hs2.dfr⟩
      refine ⟨w.heap.size + 1, _, w2, { target := .fn (.func f) fc, args := fa ++ #[.func (.yield (w.heap.size + 1)) #[] #[]] }, w2, f, fa ++ #[.func (.yield (w.heap.size + 1)) #[] #[]] ++ fc, w2, run_enterLoop_outer .., ?_, fun _ _ => trivial, ?_, (fun h => by cases h), ?_⟩
      · simp only [resolve, rangeCall, he, Deferred.ofValue]
        simp [Act.eval]
      · obtain ⟨fn', h1, h2, h3⟩ := hc
        have h2' : ¬ fn'.name = "runtime.NumGoroutine" := by simpa using h2
        have h3' : ¬ fn'.body = none := by intro e; rw [e] at h3; cases h3
        simp [invoke, callFunc, h1, h2', h3']
      · refine callsIn_wide.2 ((hf w2 fr m2 _ (r2.weak hsub) hargs).mono ?_)
        rintro e w3 ⟨out, S', fr3, m3, hR, ho, r3, s3⟩
        obtain ⟨g1, g2, g3⟩ := mrg_ok r2 hsub r3 s3
        have hq := hk out S' hR g3
        have hs3 : StR { a with defers := { target := .collected w.heap.size, args := #[] } :: a.defers } w3 fr3 m3 t _ (.mark gd :: D) :=
          StR.step ⟨r2, hs2.len, hs2.tmp, hmark⟩ g2 g1
        have s13 := s12.trans g2
        cases e with
        | returned v =>
          cases out with
          | pan p => exact ho.elim
          | ret p =>
            obtain ⟨st, pd, fn', tt, ps', as', bd', d, S4, hS2, hb, hsle, hq⟩ := hq
            obtain ⟨ob, hm3, _⟩ := g1.obj gl _ hS2
            obtain ⟨_, l', e1, tmps', db', hd', ho', hr'⟩ := loop_at (l := 0) g1 hS2 hm3
            obtain ⟨v', b', k1, k2, k3⟩ := g2.nam gl 0 _ hml
            rw [k1] at hm3
            simp only [AO.ver, Option.some.injEq, Prod.mk.injEq] at hm3
            obtain ⟨rfl, rfl⟩ := hm3
            have := k3 rfl
            subst e1; cases this
            obtain ⟨p1, p2⟩ := put_ok (x' := .loop .exhausted pd fn' tt ps' as' bd' d) (o' := .loop { state := .exhausted, pending := pd, fn := fn', tmps := tmps', params := ps', assign := as', body := bd', defers := db' }) g1 k1 hS2 ho' (loop_shape ho') rfl
              (fun hk => ⟨tmps', db', hd', rfl, hr'.keep hk⟩)
            have s14 := (s13.trans p2).trans (Step.weak _ _ _ hsle)
            have hs4 := hs3.step (p2.trans (Step.weak _ _ _ hsle)) (p1.weak hsle)
            refine ⟨pd, _, run_endLoop ho' hb, ?_⟩
            cases pd with
            | none => exact ⟨.normal, t, S4, _, fr3, m3, hq, trivial, hs4, s14⟩
            | some c => exact wpIn_mono (hq _ _ _ _ hs4) fun _ _ _ h => post.trans s14 h
        | panicked ch =>
          cases out with
          | ret p => exact (by unfold OutR at ho; split at ho <;> simp_all)
          | pan p =>
            refine ⟨.panic p, t, _, _, fr3, m3, hq, ?_, hs3, s13⟩
            unfold OutR at ho
            split at ho
            · rename_i e1 e2; cases e1
            · rename_i e1 e2; cases e1; cases e2; exact ho
            · exact ho.elim
        | outgrown => cases out <;> exact ho.elim
  · exact h.elim

/-- how a function is on its way out -/
inductive AM where
  | ret
  | pan (p : PV)
  | done

def ModeR (w : World) (fr : Nat → Prop) (m : Names) : FrameMode → AM → Prop
  | .returning, .ret => True
  | .panicking [{ v, recovered := false, goexit := false }], .pan p => Rep w fr m v p
  | .panicking [{ recovered := true, goexit := false, .. }], .done => True
  | _, _ => False

theorem ModeR.ret {w : World} {fr : Nat → Prop} {m : Names} {u : FrameMode} (h : ModeR w fr m u .ret) : u = .returning := by
  unfold ModeR at h; split at h <;> first | rfl | (rename_i e; cases e) | exact h.elim
theorem ModeR.pan {w : World} {fr : Nat → Prop} {m : Names} {u : FrameMode} {p : PV} (h : ModeR w fr m u (.pan p)) : ∃ v, u = .panicking [{ v, recovered := false, goexit := false }] ∧ Rep w fr m v p := by
  unfold ModeR at h; split at h
  · rename_i e; cases e
  · rename_i e; cases e; exact ⟨_, rfl, h⟩
  · rename_i e; cases e
  · exact h.elim
theorem ModeR.done {w : World} {fr : Nat → Prop} {m : Names} {u : FrameMode} (h : ModeR w fr m u .done) : ∃ v, u = .panicking [{ v, recovered := true, goexit := false }] := by
  unfold ModeR at h; split at h
  · rename_i e; cases e
  · rename_i e; cases e
  · exact ⟨_, rfl⟩
  · exact h.elim

theorem OutR.pan {w : World} {fr : Nat → Prop} {m : Names} {e : Ending} {p : PV} (h : OutR w fr m e (.pan p)) : ∃ v, e = .panicked [{ v, recovered := false, goexit := false }] ∧ Rep w fr m v p := by
  unfold OutR at h; split at h
  · rename_i e; cases e
  · rename_i e; cases e; exact ⟨_, rfl, h⟩
  · exact h.elim
theorem OutR.ret {w : World} {fr : Nat → Prop} {m : Names} {e : Ending} {p : PV} (h : OutR w fr m e (.ret p)) : ∃ v, e = .returned v ∧ Rep w fr m v p := by
  unfold OutR at h; split at h
  · rename_i e; cases e; exact ⟨_, rfl, h⟩
  · rename_i e; cases e
  · exact h.elim

/-- a function's contract where it is entered as a deferred call -/
def FnD (P : Program) (f : Nat) (args : List PV) (u : AM) (S : Store) (R : Out → AM → Store → Prop) : Prop :=
  Callable P f ∧ ∀ w fr m vs um, RelS w fr m S → RepA w fr m vs args → ModeR w fr m um u →
    CallsDIn (FR none) 0 P f vs um w fun e um' w' => ∃ o u' S' fr' m', R o u' S' ∧ OutR w' fr' m' e o ∧ ModeR w' fr' m' um' u' ∧ RelS w' fr' m' S' ∧ Step w fr m S w' fr' m' S'

@[irreducible] def callDW (P : Program) (f : Nat) (args : List PV) (u : AM) (S : Store) (k : Out → AM → Store → Prop) : Prop :=
  ∃ S1 R, FnD P f args u S1 R ∧ sle S S1 ∧ ∀ o u' S', R o u' S' → (∀ g, (S' g).isSome = true → (S1 g).isSome = true ∨ S g = none) → k o u' (mrg S S1 S')

@[irreducible] def dfrW (S : Store) (g : Nat) : Prop := S g = some .dfr

/-- what a function's deferred calls have to come to -/
def leaveX (G : List TI) (P : Program) (rs : List ResultVar) (R : Out → Store → Prop) (t : List PV) : List DA → AM → Store → Prop
  | [], .ret, S => resK G t S rs fun vs => oneK vs fun v => ∃ S', sle S S' ∧ R (.ret v) S'
  | [], .pan p, S => ∃ S', sle S S' ∧ R (.pan p) S'
  | [], .done, _ => False
  | .mark g :: D, u, S => dfrW S g ∧ leaveX G P rs R t D u (del S g)
  | .call f args :: D, u, S => callDW P f args u S fun o u' S' => match o, u' with
    | .ret _, .ret => leaveX G P rs R t D .ret S'
    | .ret _, .done => leaveX G P rs R t D .ret S'
    | .ret _, .pan p => leaveX G P rs R t D (.pan p) S'
    | .pan p, .ret => leaveX G P rs R t D (.pan p) S'
    | .pan _, _ => False

def endDX (G : List TI) (P : Program) (rs : List ResultVar) (R : Out → Store → Prop) : Post
  | .normal, t, S, D => leaveX G P rs R t D .ret S
  | .ret, t, S, D => leaveX G P rs R t D .ret S
  | .panic p, t, S, D => leaveX G P rs R t D (.pan p) S
  | _, _, _, _ => False

theorem ModeR.keep {w w' : World} {fr fr' : Nat → Prop} {m m' : Names} {um : FrameMode} {u : AM} (h : ModeR w fr m um u) (k : Keep w fr m w' fr' m') : ModeR w' fr' m' um u := by
  cases u with
  | ret => have := h.ret; subst this; trivial
  | pan p => obtain ⟨v, rfl, hv⟩ := h.pan; exact hv.keep k
  | done => obtain ⟨v, rfl⟩ := h.done; trivial

/-- a mark's block is shut -/
theorem del_ok {w : World} {fr : Nat → Prop} {m : Names} {S : Store} (r : RelS w fr m S) {g b : Nat} {x : AO} {v : Nat} {o : Obj} (hS : S g = some x) (hm : m g = some (v, some b)) (hsh : w.shape? b = none) :
    RelS (w.putObj b o) fr m (del S g) ∧ Step w fr m S (w.putObj b o) fr m (del S g) := by
  have hdel : ∀ {h x}, del S g h = some x → h ≠ g ∧ S h = some x := fun {h x} hx => by
    unfold del at hx; split at hx
    · cases hx
    · exact ⟨by assumption, hx⟩
  have hown : ∀ b, Own m (del S g) b → Own m S b := fun b ⟨h, x, v, h1, h2⟩ => ⟨h, x, v, (hdel h1).2, h2⟩
  have hold : ∀ c, c ≠ b → (w.putObj b o).heap[c]? = w.heap[c]? := fun c hc => World.putObj_heap_other hc
  have hshape : ∀ c N, (w.shape? c).map (·.2) = some N → ((w.putObj b o).shape? c).map (·.2) = some N := fun c N hN => by
    by_cases e : c = b
    · subst e; rw [hsh] at hN; cases hN
    · unfold World.shape? at hN ⊢; rw [hold c e]; exact hN
  have hbo : Own m S b := ⟨g, x, v, hS, hm⟩
  have hk : Keep w fr m (w.putObj b o) fr m := ⟨fun _ h => h, fun c hc => hold c (by rintro rfl; exact r.apart _ hc hbo), hshape, Nle.refl m⟩
  refine ⟨⟨fun h y hy => ?_, fun c hc ho => r.apart c hc (hown c ho), fun h h' x x' v v' b e1 e2 => r.inj h h' x x' v v' b (hdel e1).2 (hdel e2).2, fun c hc => by simpa using r.frz c hc, r.bnd⟩,
    ⟨by simp, fun _ h => h, fun _ h => .inl h, fun c hc => .inl (hown c hc), fun h hh => ?_, fun c hc hn => hold c (by rintro rfl; exact hn hbo), hshape, Nle.refl m, fun _ _ _ => rfl, rfl, rfl⟩⟩
  · obtain ⟨hne, hy'⟩ := hdel hy
    obtain ⟨ob, h1, h2⟩ := r.obj h y hy'
    refine ⟨ob, h1, ?_⟩
    cases ob with
    | none => exact h2
    | some c =>
      obtain ⟨o', h3, h4⟩ := h2
      refine ⟨o', ?_, h4.keep hk⟩
      rw [hold c ?_]; exact h3
      rintro rfl
      exact hne (r.inj h g y x _ v c hy' hS h1 hm)
  · obtain ⟨y, hy⟩ := Option.isSome_iff_exists.1 hh
    exact .inl (by rw [(hdel hy).2]; rfl)

theorem leave_ok (hG : GOk P G) {fn : Func} {t : List PV} {R : Out → Store → Prop} {w0 : World} {fr0 : Nat → Prop} {m0 : Names} {S0 : Store} {tmps : Array Value} : ∀ {D : List DA} {ds : List Deferred} {u : AM} {um : FrameMode} {w : World} {fr : Nat → Prop} {m : Names} {S : Store},
    leaveX G P fn.results.toList R t D u S → RelS w fr m S → RepA w fr m tmps t → DsR w fr m ds D → ModeR w fr m um u → u ≠ .done → Step w0 fr0 m0 S0 w fr m S →
    LeavesInM (FR none) 0 P fn tmps (fun e w' => ∃ o S' fr' m', R o S' ∧ OutR w' fr' m' e o ∧ RelS w' fr' m' S' ∧ Step w0 fr0 m0 S0 w' fr' m' S') ds um w
  | [], [], u, um, w, fr, m, S, h, rel, ht, hd, hu, hne, hst => by
    cases u with
    | ret =>
      have := hu.ret; subst this
      have hs : StR { tmps := tmps, defers := [] } w fr m t S [] := ⟨rel, ht.1, ht.tmp, trivial⟩
      obtain ⟨v, p, e1, e2, S'', e3, e4⟩ := results_ok (P := P) hG hs fn h
      exact ⟨v, e1, .ret p, S'', fr, m, e4, e2, rel.weak e3, hst.trans (Step.weak _ _ _ e3)⟩
    | pan p =>
      obtain ⟨v, rfl, hv⟩ := hu.pan
      obtain ⟨S'', e3, e4⟩ := h
      exact ⟨.pan p, S'', fr, m, e4, hv, rel.weak e3, hst.trans (Step.weak _ _ _ e3)⟩
    | done => exact absurd rfl hne
  | .mark g :: D, d :: ds, u, um, w, fr, m, S, h, rel, ht, hd, hu, hne, hst => by
    obtain ⟨hS, h⟩ := h
    unfold dfrW at hS
    obtain ⟨ob, hm, hob⟩ := rel.obj g _ hS
    obtain ⟨⟨v', b', e1, e2, e3⟩, hds⟩ := hd
    have hm0 : m g = some (0, ob) := hm
    rw [hm0] at e1
    cases e1
    obtain ⟨b, rfl, rfl⟩ := e3 rfl
    obtain ⟨o, ho, rfl⟩ := hob
    have hsh : w.shape? b = none := by unfold World.shape?; rw [ho]
    obtain ⟨k1, k2⟩ := del_ok (o := .deferred none) rel hS hm0 hsh
    have hk := k2.keep rel
    refine ⟨?_, .inl ⟨b, _, rfl, run_takeDeferred ho, leave_ok hG h k1 (ht.keep hk) (hds.keep hk) (hu.keep hk) hne (hst.trans k2)⟩⟩
    cases u with
    | ret => rw [hu.ret]; simp
    | pan p => obtain ⟨v, e, _⟩ := hu.pan; rw [e]; simp
    | done => exact absurd rfl hne
  | .call f args :: D, d :: ds, u, um, w, fr, m, S, h, rel, ht, hd, hu, hne, hst => by
    simp only [leaveX] at h
    unfold callDW at h
    obtain ⟨S1, RR, ⟨hc, hf⟩, hsub, h⟩ := h
    obtain ⟨⟨cap, htar, hargs⟩, hds⟩ := hd
    have hrun : um ≠ .run := by
      cases u with
      | ret => rw [hu.ret]; simp
      | pan p => obtain ⟨v, e, _⟩ := hu.pan; rw [e]; simp
      | done => exact absurd rfl hne
    refine ⟨hrun, .inr ⟨(fun h => by cases h), .func f, cap, f, d.args ++ cap, htar, ?_, fun _ _ => trivial, ?_⟩⟩
    · obtain ⟨fn', h1, h2, h3⟩ := hc
      have h2' : ¬ fn'.name = "runtime.NumGoroutine" := by simpa using h2
      have h3' : ¬ fn'.body = none := by intro e; rw [e] at h3; cases h3
      simp [htar, invoke, callFunc, h1, h2', h3']
    · refine (hf w fr m _ um (rel.weak hsub) hargs hu).mono ?_
      rintro e um' w' ⟨o, u', S', fr', m', hR, ho, hu', r', s'⟩
      obtain ⟨g1, g2, g3⟩ := mrg_ok rel hsub r' s'
      have hq := h o u' S' hR g3
      have hk := g2.keep rel
      cases o with
      | ret p =>
        obtain ⟨v, rfl, hv⟩ := ho.ret
        dsimp only
        cases u' with
        | ret => have := hu'.ret; subst this; exact leave_ok hG hq g1 (ht.keep hk) (hds.keep hk) (um := .returning) (u := .ret) trivial (by simp) (hst.trans g2)
        | pan p =>
          obtain ⟨v', rfl, hv'⟩ := hu'.pan
          exact leave_ok hG hq g1 (ht.keep hk) (hds.keep hk) (u := .pan p) hv' (by simp) (hst.trans g2)
        | done => obtain ⟨v', rfl⟩ := hu'.done; exact leave_ok hG hq g1 (ht.keep hk) (hds.keep hk) (um := .returning) (u := .ret) trivial (by simp) (hst.trans g2)
      | pan p =>
        obtain ⟨v, rfl, hv⟩ := ho.pan
        dsimp only
        cases u' with
        | ret => have := hu'.ret; subst this; exact leave_ok hG hq g1 (ht.keep hk) (hds.keep hk) (u := .pan p) hv (by simp) (hst.trans g2)
        | pan p => exact hq.elim
        | done => exact hq.elim
  | [], _ :: _, _, _, _, _, _, _, _, _, _, hd, _, _, _ => hd.elim
  | _ :: _, [], _, _, _, _, _, _, _, _, _, hd, _, _, _ => hd.elim

/-- the temporaries at the start -/
theorem start_ok {w : World} {fr : Nat → Prop} {m : Names} {S : Store} {vs : Array Value} {args : List PV} {n : Nat} (hr : RelS w fr m S) (ha : RepA w fr m vs args) (hl : args.length ≤ n) :
    StR { tmps := vs ++ Array.replicate (n - vs.size) undef, defers := [] } w fr m (padT args n) S [] := by
  have hpl := padT_len args n hl
  refine ⟨hr, by simp [hpl, ha.1]; omega, fun i => ?_, trivial⟩
  rw [padT_get _ _ _ hpl]
  split
  · rename_i hi
    have h2 := ha.2 i (by rw [ha.1]; exact hi) hi
    have : (vs ++ Array.replicate (n - vs.size) undef).getD i undef = vs[i]'(by rw [ha.1]; exact hi) := by
      rw [Array.getD_eq_getD_getElem?, Array.getElem?_append_left (by rw [ha.1]; exact hi), Array.getElem?_eq_getElem (by rw [ha.1]; exact hi)]
      rfl
    rw [this]; exact h2
  · exact .any _

/-- a function's contract out of its body, deferred calls and all -/
theorem Fn_of_TD (hG : GOk P G) {f : Nat} {fn : Func} {c : Code} {args : List PV} {S : Store} {R : Out → Store → Prop} (hf : P.funcs[f]? = some fn) (hb : fn.body = some c) (hn : (fn.name == "runtime.NumGoroutine") = false)
    (hl : Nat.ble args.length fn.ntmps = true) (h : T P none c (endDX G P fn.results.toList R) (padT args fn.ntmps) S []) : Fn P f args S R := by
  refine ⟨⟨fn, hf, hn, by rw [hb]; rfl⟩, fun w fr m vs hr ha => ?_⟩
  have hst := start_ok (n := fn.ntmps) hr ha (Nat.le_of_ble_eq_true hl)
  refine callsIn_wide.1 (callsIn_of_wp_marks (F := FR none) (n := 0) hf hb trivial ?_)
  refine wpIn_mono (h _ w fr m hst) ?_
  rintro e a' w' ⟨x, t', S', D', fr', m', hq, hx, hs, hst'⟩
  cases e with
  | normal => have := hx.normal; subst this; exact leave_ok hG hq hs.rel hs.RepA hs.dfr (u := .ret) (um := .returning) trivial (by simp) hst'
  | ret => have := hx.ret; subst this; exact leave_ok hG hq hs.rel hs.RepA hs.dfr (u := .ret) (um := .returning) trivial (by simp) hst'
  | panic ch =>
    obtain ⟨p, rfl⟩ := hx.panic
    have hm : ModeR w' fr' m' (.panicking ch) (.pan p) := by
      unfold XR at hx
      split at hx
      · rename_i e1 e2; cases e1
      · rename_i e1 e2; cases e1
      · rename_i e1 e2; cases e1
      · rename_i e1 e2; cases e1
      · rename_i e1 e2; cases e1; cases e2; exact hx
      · exact hx.elim
    exact leave_ok hG hq hs.rel hs.RepA hs.dfr (u := .pan p) hm (by simp) hst'
  | exit i => have := hx.exit; subst this; exact hq.elim
  | goto i => have := hx.goto; subst this; exact hq.elim
  | outgrown => exact hx.outgrown.elim

/-- what a body without deferred calls has to come to, for a post of a body -/
theorem endX_body (hG : GOk P G) {fn : Func} {R : Out → Store → Prop} {w : World} {fr : Nat → Prop} {m : Names} {S : Store} {RR : Ending → World → Prop}
    (hR : ∀ e w' o S' fr' m', R o S' → OutR w' fr' m' e o → RelS w' fr' m' S' → Step w fr m S w' fr' m' S' → RR e w') :
    ∀ e a' w', post w fr m S (endX G fn.results.toList R) e a' w' → bodyPost P fn RR e a' w' := by
  rintro e a' w' ⟨x, t', S', D', fr', m', hq, hx, hs, hst⟩
  have hend : ∀ {D' : List DA}, DsR w' fr' m' a'.defers D' → D' = [] → a'.defers = [] := by
    intro D' hd e
    subst e
    cases hd' : a'.defers with
    | nil => rfl
    | cons d ds => rw [hd'] at hd; exact hd.elim
  have hret : (D' = [] ∧ resK G t' S' fn.results.toList fun vs => oneK vs fun v => ∃ S'', sle S' S'' ∧ R (.ret v) S'') → a'.defers = [] ∧ ∃ v, (results fn a'.tmps).run P w' = .ok v w' ∧ RR (.returned v) w' := by
    rintro ⟨hD, hk⟩
    obtain ⟨v, p, e1, e2, S'', e3, e4⟩ := results_ok (P := P) hG hs fn hk
    exact ⟨hend hs.dfr hD, v, e1, hR _ _ (.ret p) S'' fr' m' e4 e2 (hs.rel.weak e3) (hst.trans (Step.weak _ _ _ e3))⟩
  cases e with
  | normal => have := hx.normal; subst this; exact hret hq
  | ret => have := hx.ret; subst this; exact hret hq
  | panic ch =>
    obtain ⟨p, rfl⟩ := hx.panic
    obtain ⟨hD, S'', e3, e4⟩ := hq
    refine ⟨hend hs.dfr hD, hR _ _ (.pan p) S'' fr' m' e4 ?_ (hs.rel.weak e3) (hst.trans (Step.weak _ _ _ e3))⟩
    unfold XR at hx
    split at hx
    · rename_i e1 e2; cases e1
    · rename_i e1 e2; cases e1
    · rename_i e1 e2; cases e1
    · rename_i e1 e2; cases e1
    · rename_i e1 e2; cases e1; cases e2; exact hx
    · exact hx.elim
  | exit i => have := hx.exit; subst this; exact hq.elim
  | goto i => have := hx.goto; subst this; exact hq.elim
  | outgrown => exact hx.outgrown.elim

/-- a function that does not recover, as a deferred call -/
theorem FnD_of_T (hG : GOk P G) {f : Nat} {fn : Func} {c : Code} {args : List PV} {u : AM} {S : Store} {R : Out → Store → Prop} (hf : P.funcs[f]? = some fn) (hb : fn.body = some c) (hn : (fn.name == "runtime.NumGoroutine") = false)
    (hl : Nat.ble args.length fn.ntmps = true) (h : T P none c (endX G fn.results.toList R) (padT args fn.ntmps) S []) : FnD P f args u S fun o u' S' => u' = u ∧ R o S' := by
  refine ⟨⟨fn, hf, hn, by rw [hb]; rfl⟩, fun w fr m vs um hr ha hu => ?_⟩
  have hst := start_ok (n := fn.ntmps) hr ha (Nat.le_of_ble_eq_true hl)
  refine (callsDIn_of_wp (F := FR none) (n := 0) (u := um) (R := fun e w' => ∃ o S' fr' m', R o S' ∧ OutR w' fr' m' e o ∧ RelS w' fr' m' S' ∧ Step w fr m S w' fr' m' S') hf hb trivial
    (wpIn_mono (h _ w fr m hst) (endX_body hG fun e w' o S' fr' m' h1 h2 h3 h4 => ⟨o, S', fr', m', h1, h2, h3, h4⟩))).mono ?_
  rintro e u' w' ⟨rfl, o, S', fr', m', h1, h2, h3, h4⟩
  exact ⟨o, u, S', fr', m', ⟨rfl, h1⟩, h2, hu.keep (h4.keep hr), h3, h4⟩

/-- what recover gives, and what it leaves -/
def recV : AM → PV
  | .pan p => p
  | _ => .nili
def recU : AM → AM
  | .pan _ => .done
  | u => u

/-- a function that begins with recover, as a deferred call -/
theorem FnD_rec (hG : GOk P G) {f : Nat} {fn : Func} {id : Nat} {o : Oper} {c : Code} {args : List PV} {u : AM} {S : Store} {R : Out → Store → Prop} (hf : P.funcs[f]? = some fn) (hb : fn.body = some (.seq (.region id #[o] false) c)) (hn : (fn.name == "runtime.NumGoroutine") = false)
    (hl : Nat.ble args.length fn.ntmps = true) {at' : Array Nat} (ho : o.op = .call { callee := .builtin .recover, args := #[], argTypes := at' }) (hg : o.guard = none) (hu : u ≠ .done)
    (h : T P none c (endX G fn.results.toList R) (putT (padT args fn.ntmps) o.dst (recV u)) S []) : FnD P f args u S fun o u' S' => u' = recU u ∧ R o S' := by
  refine ⟨⟨fn, hf, hn, by rw [hb]; rfl⟩, fun w fr m vs um hr ha hum => ?_⟩
  have hst := start_ok (n := fn.ntmps) hr ha (Nat.le_of_ble_eq_true hl)
  refine callsDIn_of_wpSIn (F := FR none) (n := 0) hf hb trivial fun c₀ cs hc => wpSIn_seq (wpSIn_region ?_)
  have key : ∀ (v : Value) (um' : FrameMode), Rep w fr m v (recV u) → ModeR w fr m um' (recU u) →
      c.wpSIn (FR none) 0 P (bodyPostS P fn c₀ cs fun e um' w' => ∃ o u' S' fr' m', (u' = recU u ∧ R o S') ∧ OutR w' fr' m' e o ∧ ModeR w' fr' m' um' u' ∧ RelS w' fr' m' S' ∧ Step w fr m S w' fr' m' S')
        (({ tmps := vs ++ Array.replicate (fn.ntmps - vs.size) undef, defers := [] } : Act).put o.dst v) ({ c₀ with mode := um' } :: cs) w := by
    intro v um' hv hm
    refine wpSIn_of_wpIn rfl (wpIn_mono (h _ w fr m (hst.put o.dst hv)) ?_)
    intro e a' w' hp
    have hb := endX_body (RR := fun e w' => ∃ o u' S' fr' m', (u' = recU u ∧ R o S') ∧ OutR w' fr' m' e o ∧ ModeR w' fr' m' um' u' ∧ RelS w' fr' m' S' ∧ Step w fr m S w' fr' m' S') hG (fun e w' o S' fr' m' h1 h2 h3 h4 => ⟨o, recU u, S', fr', m', ⟨rfl, h1⟩, h2, hm.keep (h4.keep hr), h3, h4⟩) e a' w' hp
    cases e with
    | normal => obtain ⟨h1, v, h2, h3⟩ := hb; exact ⟨h1, um', rfl, v, h2, h3⟩
    | ret => obtain ⟨h1, v, h2, h3⟩ := hb; exact ⟨h1, um', rfl, v, h2, h3⟩
    | panic ch => obtain ⟨h1, h2⟩ := hb; exact ⟨h1, um', rfl, h2⟩
    | exit i => exact hb.elim
    | goto i => exact hb.elim
    | outgrown => exact ⟨um', hb⟩
  have hrun : (execOp ({ tmps := vs ++ Array.replicate (fn.ntmps - vs.size) undef, defers := [] } : Act).eval o).run P w = .ok .recover w := by
    simp [execOp, ho, resolve, invoke, builtin]
  have hr1 : List.range (#[o] : Array Oper).size = [0] := rfl
  have hw : ∀ y, Region.wanted o y = true := fun y => by simp [Region.wanted, hg]
  rw [hr1]
  simp only [wpOpsSIn, List.getElem?_toArray, List.getElem?_cons_zero, hw, if_true, hrun]
  refine ⟨fun _ _ => trivial, ?_⟩
  cases u with
  | ret =>
    have := hum.ret; subst this
    have e : recoverD (c₀ :: cs) = none := by simp [recoverD, hc]
    rw [e]
    have := key .nilIface .returning .nili trivial
    rw [← hc] at this
    exact this
  | pan p =>
    obtain ⟨v, rfl, hv⟩ := hum.pan
    have e : recoverD (c₀ :: cs) = some (v, { c₀ with mode := .panicking [{ v, recovered := true }] } :: cs) := by simp [recoverD, hc]
    rw [e]
    exact key v _ hv trivial
  | done => exact absurd rfl hu

end Go.Proofs.Ytohldellkddmoaa.L

namespace Go.Proofs.Ytohldellkddmoaa.L
open Go
set_option linter.unusedSimpArgs false
set_option linter.unnecessarySimpa false
set_option linter.unusedVariables false

variable {P : Program} {G : List TI} {r : Option Nat}

theorem len_map {α : Type} {f : α → List PV} {l : List α} {e : Nat} {K : Prop} (h : l.length * e ≤ 140737488355328 → K) : ((l.map f).length * e ≤ cap47 → K) := fun h' => h (by simpa [cap47] using h')
theorem allL_map {α : Type} {f : α → List PV} {l : List α} {n : Nat} (h : ∀ x, (f x).length = n) : ∀ c ∈ l.map f, c.length = n := by
  intro c hc
  obtain ⟨x, _, rfl⟩ := List.mem_map.1 hc
  exact h x
theorem bdW_lo {a : Int} {l n : Nat} {k : Nat → Nat → Prop} (ha : a = l) (h : l ≤ n) (hk : k l n) : bdW (some a) none n k := by
  subst ha
  unfold bdW
  exact ⟨l, n, rfl, rfl, h, Nat.le_refl _, hk⟩
theorem bdW_hi {b : Int} {h n : Nat} {k : Nat → Nat → Prop} (hb : b = h) (hn : h ≤ n) (hk : k 0 h) : bdW none (some b) n k := by
  subst hb
  unfold bdW
  exact ⟨0, h, rfl, rfl, Nat.zero_le _, hn, hk⟩
theorem bdW_lh {a b : Int} {l h n : Nat} {k : Nat → Nat → Prop} (ha : a = l) (hb : b = h) (hl : l ≤ h) (hn : h ≤ n) (hk : k l h) : bdW (some a) (some b) n k := by
  subst ha; subst hb
  unfold bdW
  exact ⟨l, h, rfl, rfl, hl, hn, hk⟩
theorem subW_lo {α : Type} {f : α → List PV} {l0 : List α} {a : Int} {l : Nat} {k : List (List PV) → Prop} (ha : a = l) (h : l ≤ l0.length) (hk : k ((l0.drop l).map f)) : subW (some a) none (l0.map f) k := by
  unfold subW
  refine bdW_lo ha (by simpa using h) ?_
  rw [List.take_of_length_le (Nat.le_refl _), ← List.map_drop]; exact hk
theorem subW_hi {α : Type} {f : α → List PV} {l0 : List α} {b : Int} {h : Nat} {k : List (List PV) → Prop} (hb : b = h) (hh : h ≤ l0.length) (hk : k ((l0.take h).map f)) : subW none (some b) (l0.map f) k := by
  unfold subW
  refine bdW_hi hb (by simpa using hh) ?_
  rw [List.drop_zero, ← List.map_take]; exact hk
theorem subW_lh {α : Type} {f : α → List PV} {l0 : List α} {a b : Int} {l h : Nat} {k : List (List PV) → Prop} (ha : a = l) (hb : b = h) (hl : l ≤ h) (hh : h ≤ l0.length) (hk : k (((l0.take h).drop l).map f)) : subW (some a) (some b) (l0.map f) k := by
  unfold subW
  refine bdW_lh ha hb hl (by simpa using hh) ?_
  rw [← List.map_take, ← List.map_drop]; exact hk
theorem noTF {p : Prop} (h : true = false) : p := by cases h
theorem noFT {p : Prop} (h : false = true) : p := by cases h

/-- a value of the store, as it reads while nothing changes -/
inductive BorV (S : Store) : PV → PV → Prop
  | same (p : PV) : BorV S p p
  | row (g ver sz e off len : Nat) (xs : List (List PV)) (hg : S g = some (.row ver sz e xs)) (h : off + len ≤ xs.length) : BorV S (.row g ver off len sz) (.list e ((xs.drop off).take len))
  | ptr (g ver i j sz e : Nat) (xs : List (List PV)) (c : List PV) (hg : S g = some (.row ver sz e xs)) (h : xs[i]? = some c) : BorV S (.ptr g ver i j sz) (.fptr c j)
  | nils (e : Nat) : BorV S .nils (.list e [])
  | agg (ps qs : List PV) (hl : ps.length = qs.length) (h : ∀ (i : Nat) (h1 : i < ps.length) (h2 : i < qs.length), BorV S ps[i] qs[i]) : BorV S (.agg ps) (.agg qs)
  | fn (f : Go.Fn) (a c a' c' : List PV) (hl : a.length = a'.length) (hl' : c.length = c'.length) (h : ∀ (i : Nat) (h1 : i < a.length) (h2 : i < a'.length), BorV S a[i] a'[i]) (h' : ∀ (i : Nat) (h1 : i < c.length) (h2 : i < c'.length), BorV S c[i] c'[i]) : BorV S (.fn f a c) (.fn f a' c')

theorem row_fptr {w : World} {fr : Nat → Prop} {m : Names} {S : Store} {g ver sz e i j : Nat} {xs : List (List PV)} {c : List PV} (rel : RelS w fr m S) (hg : S g = some (.row ver sz e xs)) (hi : xs[i]? = some c)
    {fr' : Nat → Prop} (hup : ∀ b, fr b → fr' b) (hfr : ∀ b v, m g = some (v, some b) → fr' b) {v : Value} (hv : Rep w fr m v (.ptr g ver i j sz)) : Rep w fr' m v (.fptr c j) := by
  obtain ⟨ob, h1, h2⟩ := rel.obj g _ hg
  have hk : Keep w fr m w fr' m := ⟨hup, fun _ _ => rfl, fun _ _ h => h, Nle.refl m⟩
  obtain ⟨hlt, hc⟩ := List.getElem?_eq_some_iff.1 hi
  subst hc
  cases hv with
  | ptr _ _ _ _ _ _ h =>
    obtain ⟨v', b', e1, e2, e3⟩ := h
    rw [h1] at e1; cases e1
    obtain ⟨b, rfl, rfl⟩ := e3 rfl
    obtain ⟨o, ho, hle, arr, el, rfl, k1, k2, k3⟩ := h2
    refine .fptr b (i * sz) j _ (fun k => (arr[i * sz + k]?).getD undef) (hfr b _ h1) (fun k hk' => ?_) (fun k hk' => ?_)
    · obtain ⟨v, hv, _⟩ := k3 i k hlt hk'
      simp [World.cell?, ho, hv]
    · obtain ⟨v, hv, hr⟩ := k3 i k hlt hk'
      rw [hv]; exact hr.keep hk

theorem BorV.rep {w : World} {fr : Nat → Prop} {m : Names} {S : Store} (rel : RelS w fr m S) {p q : PV} (h : BorV S p q) : ∀ {v : Value}, Rep w fr m v p → Rep w (fun b => fr b ∨ Own m S b) m v q := by
  have hup : ∀ b, fr b → fr b ∨ Own m S b := fun b h => .inl h
  have hk : Keep w fr m w (fun b => fr b ∨ Own m S b) m := ⟨hup, fun _ _ => rfl, fun _ _ h => h, Nle.refl m⟩
  induction h with
  | same p => exact fun hv => hv.keep hk
  | row g ver sz e off len xs hg hl => exact fun hv => row_list rel hg hup (fun b v hm => .inr ⟨g, _, v, hg, hm⟩) hv hl
  | ptr g ver i j sz e xs c hg hi => exact fun hv => row_fptr rel hg hi hup (fun b v hm => .inr ⟨g, _, v, hg, hm⟩) hv
  | nils e => intro v hv; cases hv; exact .list0 _ _ _
  | agg ps qs hl _ ih =>
    intro v hv
    cases hv with
    | agg cs _ hc hr => exact .agg cs qs (hc.trans hl) fun i h1 h2 => ih i (by omega) h2 (hr i h1 (by omega))
  | fn f a c a' c' hl hl' _ _ ih ih' =>
    intro v hv
    cases hv with
    | fn _ va vc _ _ h1 h2 h3 h4 => exact .fn f va vc a' c' (h1.trans hl) (h2.trans hl') (fun i k1 k2 => ih i (by omega) k2 (h3 i k1 (by omega))) (fun i k1 k2 => ih' i (by omega) k2 (h4 i k1 (by omega)))

inductive Plain : PV → Prop
  | any : Plain .any
  | int (k : IntKind) (n : Int) : Plain (.int k n)
  | bool (b : Bool) : Plain (.bool b)
  | str (s : ByteArray) : Plain (.str s)
  | list (e : Nat) : Plain (.list e [])
  | nils : Plain .nils
  | nilp : Plain .nilp
  | nilm : Plain .nilm
  | nilf : Plain .nilf
  | nili : Plain .nili
  | agg (ps : List PV) (h : ∀ p ∈ ps, Plain p) : Plain (.agg ps)
  | tup (ps : List PV) (h : ∀ p ∈ ps, Plain p) : Plain (.tup ps)
  | iface (t : Nat) (p : PV) (h : Plain p) : Plain (.iface t p)

theorem Plain.rep {w w' : World} {fr fr' : Nat → Prop} {m m' : Names} {p : PV} (h : Plain p) : ∀ {v : Value}, Rep w fr m v p → Rep w' fr' m' v p := by
  induction h with
  | any => exact fun _ => .any _
  | int k n => intro v hv; cases hv; exact .int k n (by assumption)
  | bool b => intro v hv; cases hv; exact .bool b
  | str s => intro v hv; cases hv; exact .str s (by assumption)
  | list e =>
    intro v hv
    cases hv with
    | list0 => exact .list0 _ _ _
    | list => exact .list0 _ _ _
  | nils => intro v hv; cases hv; exact .nils
  | nilp => intro v hv; cases hv; exact .nilp
  | nilm => intro v hv; cases hv; exact .nilm
  | nilf => intro v hv; cases hv; exact .nilf
  | nili => intro v hv; cases hv; exact .nili
  | agg ps _ ih =>
    intro v hv
    cases hv with
    | agg cs _ hc hr => exact .agg cs ps hc fun i h1 h2 => ih _ (List.getElem_mem h2) (hr i h1 h2)
  | tup ps _ ih =>
    intro v hv
    cases hv with
    | tup cs _ hc hr => exact .tup cs ps hc fun i h1 h2 => ih _ (List.getElem_mem h2) (hr i h1 h2)
  | iface t p _ ih =>
    intro v hv
    cases hv with
    | iface _ v _ h => exact .iface t v p (ih h)

/-- a function's contract, if it uses nothing of the store -/
abbrev FnP (P : Program) (f : Nat) (args : List PV) (p : PV) : Prop := Fn P f args E fun o S' => o = .ret p ∧ S' = E

def BorL (S : Store) : List PV → List PV → Prop
  | [], [] => True
  | p :: ps, q :: qs => BorV S p q ∧ BorL S ps qs
  | _, _ => False

theorem BorL.len {S : Store} : ∀ {ps qs : List PV}, BorL S ps qs → ps.length = qs.length
  | [], [], _ => rfl
  | _ :: _, _ :: _, h => by simp [BorL.len h.2]
  | [], _ :: _, h => h.elim
  | _ :: _, [], h => h.elim

theorem BorL.get {S : Store} : ∀ {ps qs : List PV}, BorL S ps qs → ∀ (i : Nat) (h1 : i < ps.length) (h2 : i < qs.length), BorV S ps[i] qs[i]
  | _ :: _, _ :: _, h, 0, _, _ => h.1
  | _ :: _, _ :: _, h, i + 1, h1, h2 => BorL.get h.2 i (by simpa using h1) (by simpa using h2)
  | [], _, _, _, h1, _ => by simp at h1
  | _ :: _, [], h, _, _, _ => h.elim

theorem Fn_borrow {f : Nat} {args args' : List PV} {S : Store} {p : PV} (h : FnP P f args' p) (hb : BorL S args args') (hp : Plain p) : Fn P f args S fun o S' => o = .ret p ∧ S' = S := by
  refine ⟨h.1, fun w fr m vs rel ha => ?_⟩
  have hrel : RelS w (fun b => fr b ∨ Own m S b) m E :=
    ⟨fun g x hx => (by cases hx), fun b _ ⟨g, x, v, h1, _⟩ => (by cases h1), fun g g' x x' v v' b h1 => (by cases h1), fun b hb => by
      rcases hb with hb | hb
      · exact rel.frz b hb
      · exact rel.lt hb, rel.bnd⟩
  have hargs : RepA w (fun b => fr b ∨ Own m S b) m vs args' := ⟨ha.1.trans hb.len, fun i h1 h2 => (hb.get i (by rw [hb.len]; exact h2) h2).rep rel (ha.2 i h1 _)⟩
  refine (h.2 w _ m vs hrel hargs).mono ?_
  rintro e w' ⟨o, S', fr', m', ⟨rfl, rfl⟩, ho, r', st⟩
  have hsame : ∀ b, b < w.heap.size → w'.heap[b]? = w.heap[b]? := fun b hb => st.same b hb fun ⟨g, x, v, h1, _⟩ => by cases h1
  have hm : ∀ g, (m g).isSome = true → m' g = m g := fun g hg => st.out g hg rfl
  have hk : Keep w fr m w' fr m' := ⟨fun _ h => h, fun b hb => hsame b (rel.frz b hb), st.shape, st.nam⟩
  have hobj : ∀ g x, S g = some x → ∃ ob, m g = some (x.ver, ob) ∧ m' g = some (x.ver, ob) ∧ ObjAt w fr m x ob := fun g x hx => by
    obtain ⟨ob, h1, h2⟩ := rel.obj g x hx
    exact ⟨ob, h1, (hm g (by rw [h1]; rfl)).trans h1, h2⟩
  have hown : ∀ b, Own m' S b → Own m S b := by
    rintro b ⟨g, x, v, h1, h2⟩
    obtain ⟨ob, k1, k2, _⟩ := hobj g x h1
    rw [k2] at h2
    exact ⟨g, x, v, h1, by rw [k1]; exact h2⟩
  refine ⟨.ret p, S, fr, m', ⟨rfl, rfl⟩, ?_, ⟨fun g x hx => ?_, fun b hb ho => rel.apart b hb (hown b ho), fun g g' x x' v v' b h1 h2 h3 h4 => ?_, fun b hb => Nat.lt_of_lt_of_le (rel.frz b hb) st.size, r'.bnd⟩,
    ⟨st.size, fun _ h => h, fun _ h => .inl h, fun b hb => .inl (hown b hb), fun _ h => .inl h, fun b hb _ => hsame b hb, st.shape, st.nam, fun g hg _ => hm g hg, st.io⟩⟩
  · obtain ⟨v, rfl, hv⟩ := ho.ret
    exact hp.rep hv
  · obtain ⟨ob, h1, h2, h3⟩ := hobj g x hx
    refine ⟨ob, h2, ?_⟩
    cases ob with
    | none => exact h3
    | some b =>
      obtain ⟨o, h4, h5⟩ := h3
      exact ⟨o, (hsame b (Array.getElem?_eq_some_iff.1 h4).1).trans h4, h5.keep hk⟩
  · obtain ⟨ob, k1, k2, _⟩ := hobj g x h1
    obtain ⟨ob', k1', k2', _⟩ := hobj g' x' h2
    rw [k2] at h3; rw [k2'] at h4
    exact rel.inj g g' x x' v v' b h1 h2 (by rw [k1]; exact h3) (by rw [k1']; exact h4)

theorem callW_borrow {f : Nat} {args args' : List PV} {S : Store} {p : PV} {kr kp : PV → Store → Prop} (h : FnP P f args' p) (hb : BorL S args args') (hp : Plain p) (hk : kr p S) : callW P f args S kr kp :=
  callW_same (Fn_borrow h hb hp) (sle_refl S) hk

theorem callW_pure {f : Nat} {args : List PV} {S : Store} {p : PV} {kr kp : PV → Store → Prop} (h : FnP P f args p) (hk : kr p S) : callW P f args S kr kp :=
  callW_same h (sle_E S) hk

end Go.Proofs.Ytohldellkddmoaa.L

namespace Go.Proofs.Ytohldellkddmoaa.L
open Go
set_option linter.unusedSimpArgs false
set_option linter.unnecessarySimpa false
set_option linter.unusedVariables false

variable {P : Program} {G : List TI} {r : Option Nat}

/-- a fact that holds in every world that fits the state -/
theorem T_fact {φ : Prop} {c : Code} {Q : Post} {t : List PV} {S : Store} {D : List DA} (h : ∀ a w fr m, StR a w fr m t S D → φ) (k : φ → T P r c Q t S D) : T P r c Q t S D :=
  fun a w fr m hs => k (h a w fr m hs) a w fr m hs
theorem TL_fact {φ : Prop} {ops : Array Oper} {n : Nat} {Q : Post} {t : List PV} {S : Store} {D : List DA} (h : ∀ a w fr m, StR a w fr m t S D → φ) (k : φ → TL P r ops n Q t S D) : TL P r ops n Q t S D :=
  fun a w fr m hs => k (h a w fr m hs) a w fr m hs

theorem rep_bound {w : World} {fr : Nat → Prop} {m : Names} {v : Value} {e : Nat} {xs : List (List PV)} (h : Rep w fr m v (.list e xs)) : xs.length * e ≤ 140737488355328 := by
  cases h with
  | list0 => simp
  | list b o cap e sz xs vals hf hc he => exact he

theorem list_bound {t : List PV} {S : Store} {D : List DA} {d e : Nat} {xs : List (List PV)} (hd : getT t d = .list e xs) : ∀ a w fr m, StR a w fr m t S D → xs.length * e ≤ 140737488355328 :=
  fun a w fr m hs => rep_bound (hd ▸ hs.tmp d)

theorem str_bound {t : List PV} {S : Store} {D : List DA} {d : Nat} {s : ByteArray} (hd : getT t d = .str s) : ∀ a w fr m, StR a w fr m t S D → s.size ≤ 140737488355328 :=
  fun a w fr m hs => by
    have := hs.tmp d
    rw [hd] at this
    revert this; generalize a.tmps.getD d undef = v
    intro h; cases h; assumption

theorem int_bound {t : List PV} {S : Store} {D : List DA} {d : Nat} {n : Int} (hd : getT t d = .int .i64 n) : ∀ a w fr m, StR a w fr m t S D → -9223372036854775808 ≤ n ∧ n ≤ 9223372036854775807 :=
  fun a w fr m hs => by
    have := hs.tmp d
    rw [hd] at this
    revert this; generalize a.tmps.getD d undef = v
    intro h; cases h with | int _ _ h => simpa [IntKind.has, IntKind.min, IntKind.max, IntKind.signed, IntKind.bits] using h

theorem row_bound {t : List PV} {S : Store} {D : List DA} {g ver sz e : Nat} {xs : List (List PV)} (hg : S g = some (.row ver sz e xs)) : ∀ a w fr m, StR a w fr m t S D → xs.length * e ≤ 140737488355328 :=
  fun a w fr m hs => by
    obtain ⟨ob, h1, h2⟩ := hs.rel.obj g _ hg
    cases ob with
    | none => obtain ⟨_, _, _, e⟩ := h2; cases e; simp
    | some b => obtain ⟨o, _, h3, _⟩ := h2; exact h3

/-- a nil slice becomes a row -/
theorem nil_row {w : World} {fr : Nat → Prop} {m : Names} {S : Store} (rel : RelS w fr m S) (sz e : Nat) : ∃ g m', S g = none ∧ RelS w fr m' (upd S g (.row 0 sz e [])) ∧ Step w fr m S w fr m' (upd S g (.row 0 sz e [])) ∧
    Rep w fr m' (.slice none 0 0) (.row g 0 0 0 sz) :=
  let ⟨g, h1, h2, h3, h4⟩ := nil_name rel sz e
  ⟨g, _, h1, h2, h3, h4⟩

theorem T_nilrow {c : Code} {Q : Post} {t : List PV} {S : Store} {D : List DA} (d sz e : Nat) (hd : getT t d = .nils) (h : ∀ g, S g = none → T P r c Q (t.set d (.row g 0 0 0 sz)) (upd S g (.row 0 sz e [])) D) : T P r c Q t S D := by
  intro a w fr m hs
  obtain ⟨g, m', h1, h2, h3, h4⟩ := nil_row hs.rel sz e
  have hs' := hs.step h3 h2
  refine wpIn_mono (h g h1 a w fr m' ⟨h2, by simpa using hs'.len, fun i => ?_, hs'.dfr⟩) fun _ _ _ h => post.trans h3 h
  rw [getT_set]
  split
  · rename_i e'
    have := hs.tmp i
    rw [e'.1] at this ⊢
    rw [hd] at this
    revert this
    generalize a.tmps.getD d undef = v
    intro hv; cases hv; exact h4
  · exact hs'.tmp i

/-- what is handed back, told otherwise -/
def OView (o : Out) (S : Store) (R : Out → Store → Prop) : Prop :=
  ∀ e w fr m, OutR w fr m e o → RelS w fr m S → ∃ o' S' fr' m', R o' S' ∧ OutR w fr' m' e o' ∧ RelS w fr' m' S' ∧ Step w fr m S w fr' m' S'

theorem Fn_end {f : Nat} {args : List PV} {S : Store} {R : Out → Store → Prop} (h : Fn P f args S fun o S' => OView o S' R) : Fn P f args S R :=
  ⟨h.1, fun w fr m vs h1 h2 => (h.2 w fr m vs h1 h2).mono fun e w' ⟨o, S', fr', m', k1, k2, k3, k4⟩ =>
    let ⟨o', S'', fr'', m'', j1, j2, j3, j4⟩ := k1 e w' fr' m' k2 k3
    ⟨o', S'', fr'', m'', j1, j2, j3, k4.trans j4⟩⟩

theorem OView.same {o : Out} {S : Store} {R : Out → Store → Prop} (h : R o S) : OView o S R := fun e w fr m h1 h2 => ⟨o, S, fr, m, h, h1, h2, .refl _ _ _ _⟩
theorem OView.weak {o : Out} {S S' : Store} {R : Out → Store → Prop} (hs : sle S S') (h : OView o S' R) : OView o S R := fun e w fr m h1 h2 =>
  let ⟨o', S'', fr', m', j1, j2, j3, j4⟩ := h e w fr m h1 (h2.weak hs)
  ⟨o', S'', fr', m', j1, j2, j3, (Step.weak _ _ _ hs).trans j4⟩

theorem OView.nilrow {S : Store} {R : Out → Store → Prop} (sz e : Nat) (h : ∀ g, S g = none → R (.ret (.row g 0 0 0 sz)) (upd S g (.row 0 sz e []))) : OView (.ret .nils) S R := by
  intro e' w fr m h1 h2
  obtain ⟨v, rfl, hv⟩ := h1.ret
  obtain ⟨g, m', k1, k2, k3, k4⟩ := nil_row h2 sz e
  refine ⟨_, _, fr, m', h g k1, ?_, k2, k3⟩
  cases hv; exact k4

/-- a handed back row is frozen -/
theorem OView.freeze {S : Store} {R : Out → Store → Prop} {p q : PV} {g ver sz e : Nat} {xs : List (List PV)} (hg : S g = some (.row ver sz e xs)) (hf : FzV g ver sz e xs p q) (h : OView (.ret q) (del S g) R) : OView (.ret p) S R := by
  intro e' w fr m h1 h2
  obtain ⟨v, rfl, hv⟩ := h1.ret
  -- as a state of one slot
  have hs : StR { tmps := #[v], defers := [] } w fr m [p] S [] := ⟨h2, rfl, fun i => by
    cases i with
    | zero => exact hv
    | succ i => exact .any _, trivial⟩
  obtain ⟨fr', m', k1, k2⟩ := View_freeze (t := [p]) (t' := [q]) hg rfl (fun i => by
    cases i with
    | zero => exact hf
    | succ i => exact .same _) _ _ _ _ _ hs
  obtain ⟨o', S'', fr'', m'', j1, j2, j3, j4⟩ := h (.returned v) w fr' m' (show Rep w fr' m' v q from k1.tmp 0) k1.rel
  exact ⟨o', S'', fr'', m'', j1, j2, j3, k2.trans j4⟩

/-- nil slices in what is handed back become lists -/
inductive NilV : PV → PV → Prop
  | same (p : PV) : NilV p p
  | nils (e : Nat) : NilV .nils (.list e [])
  | tup (ps qs : List PV) (hl : ps.length = qs.length) (h : ∀ (i : Nat) (h1 : i < ps.length) (h2 : i < qs.length), NilV ps[i] qs[i]) : NilV (.tup ps) (.tup qs)
  | agg (ps qs : List PV) (hl : ps.length = qs.length) (h : ∀ (i : Nat) (h1 : i < ps.length) (h2 : i < qs.length), NilV ps[i] qs[i]) : NilV (.agg ps) (.agg qs)
  | list (e : Nat) (xs ys : List (List PV)) (hl : xs.length = ys.length) (hs : ∀ (i : Nat) (h1 : i < xs.length) (h2 : i < ys.length), xs[i].length = ys[i].length)
      (h : ∀ (i : Nat) (h1 : i < xs.length) (h2 : i < ys.length) (j : Nat) (h3 : j < xs[i].length) (h4 : j < ys[i].length), NilV xs[i][j] ys[i][j]) : NilV (.list e xs) (.list e ys)

theorem NilV.rep {w : World} {fr : Nat → Prop} {m : Names} {p q : PV} (h : NilV p q) : ∀ {v : Value}, Rep w fr m v p → Rep w fr m v q := by
  induction h with
  | same p => exact fun h => h
  | nils e => intro v hv; cases hv; exact .list0 _ _ _
  | tup ps qs hl _ ih =>
    intro v hv
    cases hv with
    | tup cs _ hc hr => exact .tup cs qs (hc.trans hl) fun i h1 h2 => ih i (by omega) h2 (hr i h1 (by omega))
  | agg ps qs hl _ ih =>
    intro v hv
    cases hv with
    | agg cs _ hc hr => exact .agg cs qs (hc.trans hl) fun i h1 h2 => ih i (by omega) h2 (hr i h1 (by omega))
  | list e xs ys hl hs _ ih =>
    intro v hv
    cases hv with
    | list0 base cap e =>
      have : ys = [] := List.length_eq_zero_iff.1 (by rw [← hl]; rfl)
      subst this; exact .list0 _ _ _
    | list b o cap e sz xs vals hf hc he hsz hv hr =>
      rw [hl]
      exact .list b o cap e sz ys vals hf (by omega) (by rw [← hl]; exact he) (fun i h => by rw [← hs i (by omega) h]; exact hsz i (by omega)) (fun i j hi hj => hv i j (by omega) hj)
        fun i j hi hj => ih i (by omega) hi j (by rw [hs i (by omega) hi]; exact hj) hj (hr i j (by omega) (by rw [hs i (by omega) hi]; exact hj))

theorem OView.nilv {S : Store} {R : Out → Store → Prop} {p q : PV} (hn : NilV p q) (h : OView (.ret q) S R) : OView (.ret p) S R := by
  intro e' w fr m h1 h2
  obtain ⟨v, rfl, hv⟩ := h1.ret
  exact h _ w fr m (hn.rep hv) h2

/-! ### the stops -/
theorem liveW_intro {S : Store} {g ver : Nat} {x : AO} (h : S g = some x) (hv : x.ver = ver) : liveW S g ver := by unfold liveW; exact ⟨x, h, hv⟩
theorem ldW_intro {S : Store} {g ver i sz e : Nat} {xs : List (List PV)} {c : List PV} {k : List PV → Prop} (h : S g = some (.row ver sz e xs)) (hi : xs[i]? = some c) (hk : k c) : ldW S g ver i sz k := by
  unfold ldW; exact ⟨e, xs, c, h, hi, hk⟩
theorem stW_intro {S : Store} {g ver i j sz e : Nat} {xs : List (List PV)} {old c : List PV} {k : Store → Prop} (h : S g = some (.row ver sz e xs)) (hi : xs[i]? = some old) (hj : j + c.length ≤ old.length)
    (hk : ∀ new, setsK old j c (fun l => l = new) → k (upd S g (.row ver sz e (xs.set i new)))) : stW S g ver i j sz c k := by
  unfold stW; exact ⟨e, xs, old, h, hi, hj, hk⟩
theorem lkW_intro {S : Store} {g : Nat} {key : MK} {f : MK → Option PV} {k : Option PV → Prop} (h : S g = some (.map key.isS f)) (hk : k (f key)) : lkW S g key k := by unfold lkW; exact ⟨f, h, hk⟩
theorem optW_intro {o : Option PV} {ks : PV → Prop} {kn : Prop} (h1 : ∀ p, o = some p → ks p) (h2 : o = none → kn) : optW o ks kn := by unfold optW; exact ⟨h1, h2⟩
theorem mapW_intro {S : Store} {g : Nat} {str : Bool} {f : MK → Option PV} {k : (MK → Option PV) → Prop} (h : S g = some (.map str f)) (hk : k f) : mapW S g str k := by unfold mapW; exact ⟨f, h, hk⟩
theorem newW_intro {S : Store} {x : AO} {k : Nat → Store → Prop} (h : ∀ g, S g = none → k g (upd S g x)) : newW S x k := by unfold newW; exact h
theorem rowW_intro {S : Store} {g ver sz e : Nat} {xs : List (List PV)} {k : Nat → List (List PV) → Prop} (h : S g = some (.row ver sz e xs)) (hk : k e xs) : rowW S g ver sz k := by unfold rowW; exact ⟨e, xs, h, hk⟩
theorem srcW_list {S : Store} {e : Nat} {xs : List (List PV)} {k : List (List PV) → Prop} (hk : k xs) : srcW S (.list e xs) k := by unfold srcW; exact hk
theorem srcW_nils {S : Store} {k : List (List PV) → Prop} (hk : k []) : srcW S .nils k := by unfold srcW; exact hk
theorem srcW_row {S : Store} {g ver off len sz e : Nat} {xs : List (List PV)} {k : List (List PV) → Prop} (h : S g = some (.row ver sz e xs)) (hl : off + len ≤ xs.length) (hk : k ((xs.drop off).take len)) : srcW S (.row g ver off len sz) k := by
  unfold srcW; exact ⟨e, xs, h, hl, hk⟩
theorem idxW_intro {xs : List (List PV)} {i : Int} {j : Nat} {c : List PV} {k : List PV → Prop} (hi : i = j) (h : xs[j]? = some c) (hk : k c) : idxW xs i k := by
  unfold idxW; subst hi; exact ⟨by omega, c, by simpa using h, hk⟩
theorem idxW_map {α : Type} {f : α → List PV} {l : List α} {i : Nat} {k : List PV → Prop} (h : i < l.length) (hk : k (f l[i])) : idxW (l.map f) (i : Int) k := by
  unfold idxW
  exact ⟨by omega, f l[i], by simp [h], hk⟩
theorem fit64 {n : Int} (h : -9223372036854775808 ≤ n ∧ n ≤ 9223372036854775807) : fitW .i64 n := by
  unfold fitW
  simpa [IntKind.has, IntKind.min, IntKind.max, IntKind.signed, IntKind.bits] using h

theorem solids_map {α : Type} {S : Store} {f : α → List PV} {l : List α} {n : Nat} (h : ∀ x, (f x).length = n ∧ solidsW S (f x)) : ∀ c ∈ l.map f, c.length = n ∧ solidsW S c := by
  intro c hc
  obtain ⟨x, _, rfl⟩ := List.mem_map.1 hc
  exact h x

theorem ne_name {S : Store} {g g' : Nat} {x : AO} (h : S g = some x) (h' : S g' = none) : g' ≠ g := by
  rintro rfl; rw [h] at h'; cases h'

theorem bor_row {S : Store} {g ver sz e n : Nat} {xs : List (List PV)} (hg : S g = some (.row ver sz e xs)) (hn : n = xs.length) : BorV S (.row g ver 0 n sz) (.list e xs) := by
  have := BorV.row (S := S) g ver sz e 0 n xs hg (by omega)
  rw [hn] at this
  simpa [hn] using this

theorem mrg_E (S' : Store) : mrg E E S' = S' := by funext x; simp [mrg, E]; split <;> simp_all

/-- a list of which the first elements are changed -/
def mix {α : Type} (f : α → α) (i : Nat) (l : List α) : List α := (l.take i).map f ++ l.drop i
theorem mix_len {α : Type} (f : α → α) (i : Nat) (l : List α) : (mix f i l).length = l.length := by simp [mix]; omega
theorem mix_zero {α : Type} (f : α → α) (l : List α) : mix f 0 l = l := by simp [mix]
theorem mix_end {α : Type} (f : α → α) {i : Nat} {l : List α} (h : l.length ≤ i) : mix f i l = l.map f := by simp [mix, List.take_of_length_le h, List.drop_of_length_le h]
theorem mix_get {α : Type} (f : α → α) {i : Nat} {l : List α} (h : i < l.length) : (mix f i l)[i]? = some l[i] := by
  unfold mix
  rw [List.getElem?_append_right (by simp; omega)]
  have : (List.map f (List.take i l)).length = i := by simp; omega
  rw [this]; simp [h]
theorem mix_step {α : Type} (f : α → α) {i : Nat} {l : List α} (h : i < l.length) : mix f (i + 1) l = (mix f i l).set i (f l[i]) := by
  unfold mix
  have e : (List.map f (List.take i l)).length = i := by simp; omega
  rw [List.set_append_right _ _ (by omega), e, Nat.sub_self, List.take_succ_eq_append_getElem h, List.map_append]
  conv => rhs; rw [List.drop_eq_getElem_cons h]
  rw [List.set_cons_zero, List.append_assoc]
  rfl

theorem liveW_row {S : Store} {g ver sz e : Nat} {xs : List (List PV)} (h : S g = some (.row ver sz e xs)) : liveW S g ver := by unfold liveW; exact ⟨_, h, rfl⟩
theorem liveW_map {S : Store} {g : Nat} {b : Bool} {f : MK → Option PV} (h : S g = some (.map b f)) : liveW S g 0 := by unfold liveW; exact ⟨_, h, rfl⟩

theorem sle_skip {S : Store} {g h : Nat} {y z : AO} (hg : S g = none) (hne : h ≠ g) : sle (upd (upd S g y) h z) (upd S h z) := by
  intro k x hx
  by_cases e : k = h
  · subst e; rw [upd_same] at hx ⊢; exact hx
  · rw [upd_ne e] at hx ⊢
    by_cases e2 : k = g
    · subst e2; rw [hg] at hx; cases hx
    · rw [upd_ne e2]; exact hx
theorem sle_upd {S : Store} {g : Nat} {y : AO} (hg : S g = none) : sle (upd S g y) S := by
  intro k x hx
  by_cases e2 : k = g
  · subst e2; rw [hg] at hx; cases hx
  · rw [upd_ne e2]; exact hx

end Go.Proofs.Ytohldellkddmoaa.L

namespace Go.Proofs.Ytohldellkddmoaa.L
open Go
set_option linter.unusedSimpArgs false
set_option linter.unnecessarySimpa false
set_option linter.unusedVariables false

def uni (A B : Store) : Store := fun h => match A h with | some x => some x | none => B h
def Dj (A B : Store) : Prop := ∀ h x, A h = some x → B h = none

variable {A A' B B' : Store}
theorem uni_l {g : Nat} {x : AO} (h : A g = some x) : uni A B g = some x := by simp [uni, h]
theorem uni_r {g : Nat} (h : A g = none) : uni A B g = B g := by simp [uni, h]
theorem uni_none {g : Nat} : uni A B g = none ↔ A g = none ∧ B g = none := by
  cases h : A g <;> simp [uni, h]
theorem uni_sle_l : sle (uni A B) A := fun g x h => uni_l h
theorem Dj.symm (d : Dj A B) : Dj B A := fun h x hx => by
  cases e : A h with
  | none => rfl
  | some y => rw [d h y e] at hx; cases hx
theorem uni_sle_r (d : Dj A B) : sle (uni A B) B := fun g x h => by rw [uni_r (d.symm g x h)]; exact h
theorem mrg_l (d : Dj A B) : mrg (uni A B) A A' = uni A' B := by
  funext h
  simp only [mrg, uni]
  cases e : A' h with
  | some x => rfl
  | none =>
    cases e2 : A h with
    | some y => simp [d h y e2]
    | none => simp
theorem mrg_r (d : Dj A B) (d' : Dj A B') : mrg (uni A B) B B' = uni A B' := by
  funext h
  simp only [mrg, uni]
  cases e2 : A h with
  | some y => simp [d h y e2, d' h y e2]
  | none =>
    cases e : B' h with
    | some x => simp
    | none => cases e3 : B h <;> simp
theorem Dj.left (d : Dj A B) (h : ∀ g, (A' g).isSome = true → (A g).isSome = true ∨ uni A B g = none) : Dj A' B := fun g x hx => by
  rcases h g (by rw [hx]; rfl) with h1 | h1
  · obtain ⟨y, hy⟩ := Option.isSome_iff_exists.1 h1
    exact d g y hy
  · exact (uni_none.1 h1).2
theorem Dj.right (d : Dj A B) (h : ∀ g, (B' g).isSome = true → (B g).isSome = true ∨ uni A B g = none) : Dj A B' := Dj.symm fun g x hx => by
  rcases h g (by rw [hx]; rfl) with h1 | h1
  · obtain ⟨y, hy⟩ := Option.isSome_iff_exists.1 h1
    exact d.symm g y hy
  · exact (uni_none.1 h1).1
theorem uni_assoc {C : Store} : uni (uni A B) C = uni A (uni B C) := by
  funext h
  simp only [uni]
  cases A h <;> rfl
theorem uni_comm (d : Dj A B) : uni A B = uni B A := by
  funext h
  simp only [uni]
  cases e : A h with
  | some y => simp [d h y e]
  | none => cases B h <;> rfl
theorem uni_E : uni A E = A := by funext h; simp only [uni, E]; cases A h <;> rfl
theorem upd_uni_r {g : Nat} {x : AO} (h : A g = none) : upd (uni A B) g x = uni A (upd B g x) := by
  funext k
  simp only [upd, uni]
  split
  · rename_i e; subst e; rw [h]
  · rfl
theorem upd_new {g : Nat} {x : AO} (h : A g = none) : upd A g x = uni A (upd E g x) := by
  rw [← upd_uni_r h, uni_E]
theorem Dj_upd {g : Nat} {x : AO} (d : Dj A B) (h : A g = none) : Dj A (upd B g x) := fun k y hk => by
  by_cases e : k = g
  · subst e; rw [h] at hk; cases hk
  · rw [upd_ne e]; exact d k y hk
theorem Dj_E : Dj A E := fun _ _ _ => rfl

theorem Dj_uni {C : Store} (h : Dj A (uni B C)) (k : Dj B C) : Dj (uni A B) C := fun g x hx => by
  cases e : A g with
  | some y => exact (uni_none.1 (h g y e)).2
  | none => rw [uni_r e] at hx; exact k g x hx
theorem lkW_some {S : Store} {g : Nat} {key : MK} {f : MK → Option PV} {p : PV} {ks : PV → Prop} {kn : Prop} (h : S g = some (.map key.isS f)) (hf : f key = some p) (hk : ks p) : lkW S g key fun o => optW o ks kn :=
  lkW_intro h (optW_intro (fun q hq => by rw [hf] at hq; cases hq; exact hk) (fun hq => by rw [hf] at hq; cases hq))
theorem lkW_none {S : Store} {g : Nat} {key : MK} {f : MK → Option PV} {ks : PV → Prop} {kn : Prop} (h : S g = some (.map key.isS f)) (hf : f key = none) (hk : kn) : lkW S g key fun o => optW o ks kn :=
  lkW_intro h (optW_intro (fun q hq => by rw [hf] at hq; cases hq) (fun hq => hk))

end Go.Proofs.Ytohldellkddmoaa.L

namespace Go.Proofs.Ytohldellkddmoaa.L
open Go
def GT : List TI := [
  ⟨.other, 0, 0, []⟩,
  ⟨.func, 1, 8, [.nilf]⟩,
  ⟨.int .i64, 1, 8, [.int .i64 0]⟩,
  ⟨.int .i64, 1, 8, [.int .i64 0]⟩,
  ⟨.bool, 1, 1, [.bool false]⟩,
  ⟨.int .u8, 1, 1, [.int .u8 0]⟩,
  ⟨.int .u8, 1, 1, [.int .u8 0]⟩,
  ⟨.struct [(0, 2), (1, 3), (2, 4), (3, 6)], 4, 24, [.int .i64 0, .int .i64 0, .bool false, .int .u8 0]⟩,
  ⟨.struct [(0, 2), (1, 3), (2, 4), (3, 6)], 4, 24, [.int .i64 0, .int .i64 0, .bool false, .int .u8 0]⟩,
  ⟨.str, 1, 16, [.str ⟨#[]⟩]⟩,
  ⟨.str, 1, 16, [.str ⟨#[]⟩]⟩,
  ⟨.str, 1, 16, [.str ⟨#[]⟩]⟩,
  ⟨.int .u64, 1, 8, [.int .u64 0]⟩,
  ⟨.struct [(0, 9), (1, 12)], 2, 24, [.str ⟨#[]⟩, .int .u64 0]⟩,
  ⟨.struct [(0, 9), (1, 12)], 2, 24, [.str ⟨#[]⟩, .int .u64 0]⟩,
  ⟨.ptr 103, 1, 8, [.nilp]⟩,
  ⟨.ptr 106, 1, 8, [.nilp]⟩,
  ⟨.ptr 116, 1, 8, [.nilp]⟩,
  ⟨.struct [(0, 17)], 1, 8, [.nilp]⟩,
  ⟨.struct [(0, 17)], 1, 8, [.nilp]⟩,
  ⟨.iface, 1, 16, [.nili]⟩,
  ⟨.int .i32, 1, 4, [.int .i32 0]⟩,
  ⟨.slice 24, 1, 24, [.nils]⟩,
  ⟨.func, 1, 8, [.nilf]⟩,
  ⟨.slice 9, 1, 24, [.nils]⟩,
  ⟨.other, 0, 0, []⟩,
  ⟨.func, 1, 8, [.nilf]⟩,
  ⟨.func, 1, 8, [.nilf]⟩,
  ⟨.func, 1, 8, [.nilf]⟩,
  ⟨.slice 46, 1, 24, [.nils]⟩,
  ⟨.int .i64, 1, 8, [.int .i64 0]⟩,
  ⟨.other, 0, 0, []⟩,
  ⟨.func, 1, 8, [.nilf]⟩,
  ⟨.other, 0, 0, []⟩,
  ⟨.func, 1, 8, [.nilf]⟩,
  ⟨.struct [(0, 22), (1, 3), (2, 30)], 3, 40, [.nils, .int .i64 0, .int .i64 0]⟩,
  ⟨.struct [(0, 22), (1, 3), (2, 30)], 3, 40, [.nils, .int .i64 0, .int .i64 0]⟩,
  ⟨.func, 1, 8, [.nilf]⟩,
  ⟨.func, 1, 8, [.nilf]⟩,
  ⟨.func, 1, 8, [.nilf]⟩,
  ⟨.other, 0, 0, []⟩,
  ⟨.func, 1, 8, [.nilf]⟩,
  ⟨.func, 1, 8, [.nilf]⟩,
  ⟨.func, 1, 8, [.nilf]⟩,
  ⟨.func, 1, 8, [.nilf]⟩,
  ⟨.struct [(0, 9), (1, 24)], 2, 40, [.str ⟨#[]⟩, .nils]⟩,
  ⟨.struct [(0, 9), (1, 24)], 2, 40, [.str ⟨#[]⟩, .nils]⟩,
  ⟨.func, 1, 8, [.nilf]⟩,
  ⟨.func, 1, 8, [.nilf]⟩,
  ⟨.func, 1, 8, [.nilf]⟩,
  ⟨.func, 1, 8, [.nilf]⟩,
  ⟨.slice 3, 1, 24, [.nils]⟩,
  ⟨.func, 1, 8, [.nilf]⟩,
  ⟨.func, 1, 8, [.nilf]⟩,
  ⟨.func, 1, 8, [.nilf]⟩,
  ⟨.func, 1, 8, [.nilf]⟩,
  ⟨.struct [(0, 9), (1, 9), (2, 9)], 3, 48, [.str ⟨#[]⟩, .str ⟨#[]⟩, .str ⟨#[]⟩]⟩,
  ⟨.struct [(0, 9), (1, 9), (2, 9)], 3, 48, [.str ⟨#[]⟩, .str ⟨#[]⟩, .str ⟨#[]⟩]⟩,
  ⟨.other, 0, 0, []⟩,
  ⟨.func, 1, 8, [.nilf]⟩,
  ⟨.func, 1, 8, [.nilf]⟩,
  ⟨.func, 1, 8, [.nilf]⟩,
  ⟨.func, 1, 8, [.nilf]⟩,
  ⟨.func, 1, 8, [.nilf]⟩,
  ⟨.func, 1, 8, [.nilf]⟩,
  ⟨.func, 1, 8, [.nilf]⟩,
  ⟨.ptr 87, 1, 8, [.nilp]⟩,
  ⟨.other, 0, 0, []⟩,
  ⟨.func, 1, 8, [.nilf]⟩,
  ⟨.func, 1, 8, [.nilf]⟩,
  ⟨.ptr 30, 1, 8, [.nilp]⟩,
  ⟨.func, 1, 8, [.nilf]⟩,
  ⟨.func, 1, 8, [.nilf]⟩,
  ⟨.func, 1, 8, [.nilf]⟩,
  ⟨.func, 1, 8, [.nilf]⟩,
  ⟨.map 9 4, 1, 8, [.nilm]⟩,
  ⟨.func, 1, 8, [.nilf]⟩,
  ⟨.func, 1, 8, [.nilf]⟩,
  ⟨.func, 1, 8, [.nilf]⟩,
  ⟨.func, 1, 8, [.nilf]⟩,
  ⟨.func, 1, 8, [.nilf]⟩,
  ⟨.slice 4, 1, 24, [.nils]⟩,
  ⟨.func, 1, 8, [.nilf]⟩,
  ⟨.other, 0, 0, []⟩,
  ⟨.map 9 3, 1, 8, [.nilm]⟩,
  ⟨.map 9 24, 1, 8, [.nilm]⟩,
  ⟨.struct [(0, 29), (1, 84), (2, 85)], 3, 40, [.nils, .nilm, .nilm]⟩,
  ⟨.struct [(0, 29), (1, 84), (2, 85)], 3, 40, [.nils, .nilm, .nilm]⟩,
  ⟨.func, 1, 8, [.nilf]⟩,
  ⟨.other, 0, 0, []⟩,
  ⟨.func, 1, 8, [.nilf]⟩,
  ⟨.func, 1, 8, [.nilf]⟩,
  ⟨.func, 1, 8, [.nilf]⟩,
  ⟨.func, 1, 8, [.nilf]⟩,
  ⟨.other, 0, 0, []⟩,
  ⟨.func, 1, 8, [.nilf]⟩,
  ⟨.func, 1, 8, [.nilf]⟩,
  ⟨.struct [(0, 3)], 1, 8, [.int .i64 0]⟩,
  ⟨.struct [(0, 3)], 1, 8, [.int .i64 0]⟩,
  ⟨.func, 1, 8, [.nilf]⟩,
  ⟨.func, 1, 8, [.nilf]⟩,
  ⟨.func, 1, 8, [.nilf]⟩,
  ⟨.struct [(0, 17), (1, 17), (2, 17), (3, 9)], 4, 40, [.nilp, .nilp, .nilp, .str ⟨#[]⟩]⟩,
  ⟨.struct [(0, 17), (1, 17), (2, 17), (3, 9)], 4, 40, [.nilp, .nilp, .nilp, .str ⟨#[]⟩]⟩,
  ⟨.other, 0, 0, []⟩,
  ⟨.other, 0, 0, []⟩,
  ⟨.other, 0, 0, []⟩,
  ⟨.func, 1, 8, [.nilf]⟩,
  ⟨.int .u32, 1, 4, [.int .u32 0]⟩,
  ⟨.int .u8, 1, 1, [.int .u8 0]⟩,
  ⟨.int .u8, 1, 1, [.int .u8 0]⟩,
  ⟨.func, 1, 8, [.nilf]⟩,
  ⟨.ptr 5, 1, 8, [.nilp]⟩,
  ⟨.int .i32, 1, 4, [.int .i32 0]⟩,
  ⟨.int .i32, 1, 4, [.int .i32 0]⟩,
  ⟨.struct [(0, 12), (1, 12), (2, 108), (3, 109), (4, 5), (5, 5), (6, 110), (7, 111), (8, 112), (9, 113), (10, 114)], 11, 48, [.int .u64 0, .int .u64 0, .int .u32 0, .int .u8 0, .int .u8 0, .int .u8 0, .int .u8 0, .nilf, .nilp, .int .i32 0, .int .i32 0]⟩,
  ⟨.struct [(0, 12), (1, 12), (2, 108), (3, 109), (4, 5), (5, 5), (6, 110), (7, 111), (8, 112), (9, 113), (10, 114)], 11, 48, [.int .u64 0, .int .u64 0, .int .u32 0, .int .u8 0, .int .u8 0, .int .u8 0, .int .u8 0, .nilf, .nilp, .int .i32 0, .int .i32 0]⟩,
  ⟨.other, 0, 0, []⟩]
theorem GT_ok : GOk Go.Proofs.Try.prog GT := gB_ok (by kernel_rfl)
end Go.Proofs.Ytohldellkddmoaa.L

namespace Go.Proofs.Ytohldellkddmoaa.L
open Go
set_option linter.unusedSimpArgs false
set_option linter.unnecessarySimpa false
set_option linter.unusedVariables false
attribute [local irreducible] T TL
noncomputable abbrev PP := Go.Proofs.Try.prog

/-- a proved contract, found by its function and its arguments -/
class Spec (f : Nat) (args : List PV) (p : outParam PV) : Prop where
  h : FnP PP f args p

theorem callW_sp {f : Nat} {args : List PV} {S : Store} {p : PV} {kr kp : PV → Store → Prop} [c : Spec f args p] (hk : kr p S) : callW PP f args S kr kp := callW_pure c.h hk
theorem drawC_sp {f : Nat} {args : List PV} {S : Store} {p : PV} [c : Spec f args p] : ∃ S1, sle S S1 ∧ Fn PP f args S1 fun o S' => o = .ret p ∧ S' = S1 := ⟨E, sle_E _, c.h⟩
theorem len_map' {α : Type} {f : α → List PV} {l : List α} {e : Nat} {K : Prop} (h : K) : ((l.map f).length * e ≤ cap47 → K) := fun _ => h
theorem andT {p q : Prop} (h : p) (k : q) : p ∧ q := ⟨h, k⟩
theorem ifD {c : Prop} [Decidable c] {A B : Prop} (h1 : c → A) (h2 : ¬ c → B) : (decide c = true → A) ∧ (decide c = false → B) := ⟨fun h => h1 (of_decide_eq_true h), fun h => h2 (of_decide_eq_false h)⟩
theorem ifF {c : Prop} [Decidable c] {A B : Prop} (h1 : ¬ c → A) (h2 : c → B) : (decide c = false → A) ∧ (decide c = true → B) := ⟨fun h => h1 (of_decide_eq_false h), fun h => h2 (of_decide_eq_true h)⟩
theorem ifNF {c : Prop} [Decidable c] {A B : Prop} (h1 : c → A) (h2 : ¬ c → B) : ((!decide c) = false → A) ∧ ((!decide c) = true → B) := ⟨fun h => h1 (by simpa using h), fun h => h2 (by simpa using h)⟩
theorem ifN {c : Prop} [Decidable c] {A B : Prop} (h1 : ¬ c → A) (h2 : c → B) : ((!decide c) = true → A) ∧ ((!decide c) = false → B) := ⟨fun h => h1 (by simpa using h), fun h => h2 (by simpa using h)⟩
/-! ### rows whose elements are told by a function -/
theorem rowI {n : Int} {len : Nat} {k : Nat → Prop} (j : Nat) (h : n = j) (hj : j < len) (hk : k j) : ∃ j : Nat, n = j ∧ j < len ∧ k j := ⟨j, h, hj, hk⟩
theorem ldW_map {α : Type} {S : Store} {g ver i sz e : Nat} {f : α → List PV} {l : List α} {k : List PV → Prop} (h : S g = some (.row ver sz e (l.map f))) (hi : i < l.length) (hk : k (f l[i])) : ldW S g ver i sz k :=
  ldW_intro h (by simp [hi]) hk
theorem ldW_map0 {α : Type} {S : Store} {g ver i sz e : Nat} {f : α → List PV} {l : List α} {k : List PV → Prop} (h : S g = some (.row ver sz e (l.map f))) (hi : i < l.length) (hk : k (f l[i])) : ldW S g ver (0 + i) sz k := by
  rw [Nat.zero_add]; exact ldW_map h hi hk
theorem stW_map {α : Type} {S : Store} {g ver i sz e : Nat} {f : α → List PV} {l : List α} {c : List PV} {k : Store → Prop} (y : α) (h : S g = some (.row ver sz e (l.map f))) (hi : i < l.length) (hl : (f l[i]).length = 1) (hy : c = f y) (hc : c.length = 1)
    (hk : k (upd S g (.row ver sz e ((l.set i y).map f)))) : stW S g ver i 0 sz c k := by
  refine stW_intro h (by simp [hi]; rfl) (by omega) fun new hn => ?_
  have e1 : new = f y := by
    subst hy
    match hf : f l[i], hl with
    | [a], _ =>
      match hg : f y, hc with
      | [b], _ => rw [hf, hg] at hn; exact hn.symm
  subst e1
  rw [List.map_set] at hk
  exact hk
theorem stW_map0 {α : Type} {S : Store} {g ver i sz e : Nat} {f : α → List PV} {l : List α} {c : List PV} {k : Store → Prop} (y : α) (h : S g = some (.row ver sz e (l.map f))) (hi : i < l.length) (hl : (f l[i]).length = 1) (hy : c = f y) (hc : c.length = 1)
    (hk : k (upd S g (.row ver sz e ((l.set i y).map f)))) : stW S g ver (0 + i) 0 sz c k := by
  rw [Nat.zero_add]; exact stW_map y h hi hl hy hc hk
/-- a store into the newest block, which holds one element -/
theorem stW_top {S : Store} {g ver j sz e : Nat} {old c : List PV} {k : Store → Prop} (hj : j + c.length ≤ old.length) (hk : setsK old j c fun new => k (upd S g (.row ver sz e [new]))) : stW (upd S g (.row ver sz e [old])) g ver 0 j sz c k := by
  refine stW_intro (upd_same _ _ _) rfl hj fun new hn => ?_
  rw [setsK_eq] at hk hn
  rw [upd_upd, ← hn]
  exact hk
theorem inl1 {A : Prop} {S : Store} {sz e : Nat} {c : List PV} {k : Nat → Store → Prop} (h : A) : A ∨ newW S (.row 0 sz e [c]) k := .inl h
theorem sol1 {S : Store} {c : List PV} {n : Nat} (h1 : c.length = n) (h2 : solidsW S c) : ∀ x ∈ [c], x.length = n ∧ solidsW S x := by
  intro x hx; rw [List.mem_singleton.1 hx]; exact ⟨h1, h2⟩
theorem lenR {n : Nat} {p : Prop} (h : n ≤ 4611686018427387904) (k : p) : n ≤ 4611686018427387904 ∧ p := ⟨h, k⟩
theorem capI {a b e : Nat} {p : Prop} (h : (a + b) * e ≤ 140737488355328) (k : p) : (a + b) * e ≤ cap47 ∧ p := ⟨h, k⟩
theorem lenI {α : Type} {f : α → List PV} {l : List α} {p : Prop} (k : p) : (l.map f).length = l.length ∧ p := ⟨by simp, k⟩

theorem subW_lo1 {α : Type} {f : α → List PV} {l0 : List α} {a : Nat} {k : List (List PV) → Prop} (h : a + 1 ≤ l0.length) (hk : k ((l0.drop (a + 1)).map f)) : subW (some ((a : Int) + 1)) none (l0.map f) k := subW_lo (l := a + 1) (by omega) h hk
theorem subW_hi1 {α : Type} {f : α → List PV} {l0 : List α} {a : Nat} {k : List (List PV) → Prop} (h : a + 1 ≤ l0.length) (hk : k ((l0.take (a + 1)).map f)) : subW none (some ((a : Int) + 1)) (l0.map f) k := subW_hi (h := a + 1) (by omega) h hk
theorem idxW_map1 {α : Type} {f : α → List PV} {l : List α} {i : Nat} {k : List PV → Prop} (h : i + 1 < l.length) (hk : k (f l[i + 1])) : idxW (l.map f) ((i : Int) + 1) k := idxW_map (i := i + 1) h hk

theorem exA {A B : PV → Prop} {p : PV} (k : B p) (h : A p := by
  conv => whnf
  repeat (first | exact rfl | exact drawC_sp | (refine And.intro (fun _ => ?_) noTF; conv => whnf) | (refine And.intro (fun _ => ?_) noFT; conv => whnf) | (refine And.intro noTF (fun _ => ?_); conv => whnf) | (refine And.intro noFT (fun _ => ?_); conv => whnf) | (refine And.intro (allL_map fun _ => rfl) ?_; conv => whnf) | (refine idxW_map (by first | assumption | omega) ?_; conv => whnf) | (refine rowI _ rfl (by omega) ?_; conv => whnf) | (refine ldW_map0 (by assumption) (by omega) ?_; conv => whnf) | (refine ldW_map (by assumption) (by omega) ?_; conv => whnf) | (refine subW_hi rfl (by omega) ?_; conv => whnf) | (refine subW_lo1 (by omega) ?_; conv => whnf) | (refine subW_hi1 (by omega) ?_; conv => whnf) | (refine idxW_map1 (by omega) ?_; conv => whnf) | (refine subW_lo rfl (by omega) ?_; conv => whnf) | (refine subW_lh rfl rfl (by omega) (by omega) ?_; conv => whnf) | (refine len_map (fun xhl => ?_); conv => whnf) | (refine And.intro (by first | exact rfl | exact trivial | exact ⟨trivial, trivial⟩ | exact Nat.le_of_ble_eq_true rfl | decide) ?_; conv => whnf) | (refine And.intro (liveW_intro (upd_same _ _ _) rfl) ?_; conv => whnf) | (refine ldW_intro (upd_same _ _ _) rfl ?_; conv => whnf) | (refine And.intro (liveW_row (by assumption)) ?_; conv => whnf) | (refine ldW_intro (by assumption) (by exact rfl) ?_; conv => whnf) | (refine And.intro (fit64 (by omega)) ?_; conv => whnf) | (refine lenR (by omega) ?_; conv => whnf))) : ∃ p, A p ∧ B p := ⟨p, h, k⟩

/-- what is asked next, out of the sight of the tactics -/
structure Hid (q : Prop) : Prop where
  h : q

theorem go0 {p q : Prop} (h : q) (s : Hid q → p := by
  intro h
  conv => whnf
  repeat (first | (refine W_ok GT_ok ?_; conv => whnf) | (refine TL_ok GT_ok ?_; conv => whnf) | (refine stop (T_scope (W_ok GT_ok ?_)); conv => whnf) | (refine len_map (fun xhl => ?_); conv => whnf) | (refine And.intro (by first | exact rfl | exact trivial | exact ⟨trivial, trivial⟩ | exact Nat.le_of_ble_eq_true rfl | decide) ?_; conv => whnf) | (refine And.intro (allL_map fun _ => rfl) ?_; conv => whnf) | (refine And.intro (liveW_intro (upd_same _ _ _) rfl) ?_; conv => whnf) | (refine ldW_intro (upd_same _ _ _) rfl ?_; conv => whnf) | (refine And.intro (liveW_row (by assumption)) ?_; conv => whnf) | (refine ldW_intro (by assumption) (by exact rfl) ?_; conv => whnf) | (refine And.intro (fit64 (by omega)) ?_; conv => whnf) | (refine And.intro (fun _ => ?_) noTF; conv => whnf) | (refine And.intro (fun _ => ?_) noFT; conv => whnf) | (refine And.intro noTF (fun _ => ?_); conv => whnf) | (refine And.intro noFT (fun _ => ?_); conv => whnf))
  (repeat revert xhl); exact h.h) : p := s ⟨h⟩

theorem goE {p : Prop} (s : p := by
  conv => whnf
  repeat (first | (refine W_ok GT_ok ?_; conv => whnf) | (refine TL_ok GT_ok ?_; conv => whnf) | (refine stop (T_scope (W_ok GT_ok ?_)); conv => whnf) | (refine len_map (fun xhl => ?_); conv => whnf) | (refine And.intro (by first | exact rfl | exact trivial | exact ⟨trivial, trivial⟩ | exact Nat.le_of_ble_eq_true rfl | decide) ?_; conv => whnf) | (refine And.intro (allL_map fun _ => rfl) ?_; conv => whnf) | (refine And.intro (liveW_intro (upd_same _ _ _) rfl) ?_; conv => whnf) | (refine ldW_intro (upd_same _ _ _) rfl ?_; conv => whnf) | (refine And.intro (liveW_row (by assumption)) ?_; conv => whnf) | (refine ldW_intro (by assumption) (by exact rfl) ?_; conv => whnf) | (refine And.intro (fit64 (by omega)) ?_; conv => whnf) | (refine And.intro (fun _ => ?_) noTF; conv => whnf) | (refine And.intro (fun _ => ?_) noFT; conv => whnf) | (refine And.intro noTF (fun _ => ?_); conv => whnf) | (refine And.intro noFT (fun _ => ?_); conv => whnf))) : p := s

theorem go {p q : Prop} (h : q) (s : Hid q → p := by
  intro h
  conv => whnf
  repeat (first | (refine W_ok GT_ok ?_; conv => whnf) | (refine TL_ok GT_ok ?_; conv => whnf) | (refine stop (T_scope (W_ok GT_ok ?_)); conv => whnf) | (refine len_map (fun xhl => ?_); conv => whnf) | (refine And.intro (by first | exact rfl | exact trivial | exact ⟨trivial, trivial⟩ | exact Nat.le_of_ble_eq_true rfl | decide) ?_; conv => whnf) | (refine And.intro (allL_map fun _ => rfl) ?_; conv => whnf) | (refine And.intro (liveW_intro (upd_same _ _ _) rfl) ?_; conv => whnf) | (refine ldW_intro (upd_same _ _ _) rfl ?_; conv => whnf) | (refine And.intro (liveW_row (by assumption)) ?_; conv => whnf) | (refine ldW_intro (by assumption) (by exact rfl) ?_; conv => whnf) | (refine And.intro (fit64 (by omega)) ?_; conv => whnf) | (refine And.intro (fun _ => ?_) noTF; conv => whnf) | (refine And.intro (fun _ => ?_) noFT; conv => whnf) | (refine And.intro noTF (fun _ => ?_); conv => whnf) | (refine And.intro noFT (fun _ => ?_); conv => whnf) | (refine callW_sp ?_; conv => whnf) | (refine idxW_map (by first | assumption | omega) ?_; conv => whnf) | (refine rowI _ rfl (by omega) ?_; conv => whnf) | (refine ldW_map0 (by assumption) (by omega) ?_; conv => whnf) | (refine ldW_map (by assumption) (by omega) ?_; conv => whnf) | (refine subW_hi rfl (by omega) ?_; conv => whnf) | (refine subW_lo1 (by omega) ?_; conv => whnf) | (refine subW_hi1 (by omega) ?_; conv => whnf) | (refine idxW_map1 (by omega) ?_; conv => whnf) | (refine subW_lo rfl (by omega) ?_; conv => whnf) | (refine subW_lh rfl rfl (by omega) (by omega) ?_; conv => whnf) | (refine And.intro (by first | exact trivial | exact ⟨trivial, trivial⟩ | exact ⟨trivial, trivial, trivial⟩ | exact ⟨trivial, trivial, trivial, trivial⟩ | exact ⟨trivial, trivial, trivial, trivial, trivial⟩ | exact ⟨trivial, trivial, trivial, trivial, trivial, trivial⟩ | exact ⟨trivial, trivial, trivial, trivial, trivial, trivial, trivial⟩ | exact ⟨trivial, trivial, trivial, trivial, trivial, trivial, trivial, trivial⟩ | exact ⟨liveW_row (by assumption), trivial⟩ | exact ⟨liveW_map (by assumption), trivial⟩) ?_; conv => whnf) | (refine And.intro (fit64 (by simp only [List.length_map]; omega)) ?_; conv => whnf) | (refine stW_top (Nat.le_of_ble_eq_true rfl) ?_; conv => whnf) | (refine stW_map0 _ (by assumption) (by omega) (by rfl) (by rfl) (by rfl) ?_; conv => whnf) | (refine stW_map _ (by assumption) (by omega) (by rfl) (by rfl) (by rfl) ?_; conv => whnf) | (refine inl1 ?_; conv => whnf) | (refine srcW_list ?_; conv => whnf) | (refine And.intro (sol1 rfl (by first | exact trivial | exact ⟨trivial, trivial⟩ | exact ⟨trivial, trivial, trivial⟩ | exact ⟨trivial, trivial, trivial, trivial⟩ | exact ⟨trivial, trivial, trivial, trivial, trivial⟩ | exact ⟨trivial, trivial, trivial, trivial, trivial, trivial⟩ | exact ⟨trivial, trivial, trivial, trivial, trivial, trivial, trivial⟩ | exact ⟨trivial, trivial, trivial, trivial, trivial, trivial, trivial, trivial⟩ | exact ⟨liveW_row (by assumption), trivial⟩ | exact ⟨liveW_map (by assumption), trivial⟩)) ?_; conv => whnf) | (refine And.intro (solids_map fun _ => ⟨rfl, by first | exact trivial | exact ⟨trivial, trivial⟩ | exact ⟨trivial, trivial, trivial⟩ | exact ⟨trivial, trivial, trivial, trivial⟩ | exact ⟨trivial, trivial, trivial, trivial, trivial⟩ | exact ⟨trivial, trivial, trivial, trivial, trivial, trivial⟩ | exact ⟨trivial, trivial, trivial, trivial, trivial, trivial, trivial⟩ | exact ⟨trivial, trivial, trivial, trivial, trivial, trivial, trivial, trivial⟩ | exact ⟨liveW_row (by assumption), trivial⟩ | exact ⟨liveW_map (by assumption), trivial⟩⟩) ?_; conv => whnf) | (refine rowW_intro (by assumption) ?_; conv => whnf) | (refine rowW_intro (upd_same _ _ _) ?_; conv => whnf) | (refine lenI ?_; conv => whnf) | (refine lenR (by omega) ?_; conv => whnf) | (refine capI (by simp only [List.length_cons, List.length_nil, List.length_map]; omega) ?_; conv => whnf) | (refine exA ?_; conv => whnf))
  (repeat revert xhl); exact h.h) : p := s ⟨h⟩

theorem goB {p q : Prop} (h : q) (s : Hid q → p := by
  intro h
  conv => whnf
  repeat (first | (refine W_ok GT_ok ?_; conv => whnf) | (refine TL_ok GT_ok ?_; conv => whnf) | (refine stop (T_scope (W_ok GT_ok ?_)); conv => whnf) | (refine len_map (fun xhl => ?_); conv => whnf) | (refine And.intro (by first | exact rfl | exact trivial | exact ⟨trivial, trivial⟩ | exact Nat.le_of_ble_eq_true rfl | decide) ?_; conv => whnf) | (refine And.intro (allL_map fun _ => rfl) ?_; conv => whnf) | (refine And.intro (liveW_intro (upd_same _ _ _) rfl) ?_; conv => whnf) | (refine ldW_intro (upd_same _ _ _) rfl ?_; conv => whnf) | (refine And.intro (liveW_row (by assumption)) ?_; conv => whnf) | (refine ldW_intro (by assumption) (by exact rfl) ?_; conv => whnf) | (refine And.intro (fit64 (by omega)) ?_; conv => whnf) | (refine And.intro (fun _ => ?_) noTF; conv => whnf) | (refine And.intro (fun _ => ?_) noFT; conv => whnf) | (refine And.intro noTF (fun _ => ?_); conv => whnf) | (refine And.intro noFT (fun _ => ?_); conv => whnf) | (refine callW_sp ?_; conv => whnf) | (refine idxW_map (by first | assumption | omega) ?_; conv => whnf) | (refine rowI _ rfl (by omega) ?_; conv => whnf) | (refine ldW_map0 (by assumption) (by omega) ?_; conv => whnf) | (refine ldW_map (by assumption) (by omega) ?_; conv => whnf) | (refine subW_hi rfl (by omega) ?_; conv => whnf) | (refine subW_lo1 (by omega) ?_; conv => whnf) | (refine subW_hi1 (by omega) ?_; conv => whnf) | (refine idxW_map1 (by omega) ?_; conv => whnf) | (refine subW_lo rfl (by omega) ?_; conv => whnf) | (refine subW_lh rfl rfl (by omega) (by omega) ?_; conv => whnf) | (refine And.intro (by first | exact trivial | exact ⟨trivial, trivial⟩ | exact ⟨trivial, trivial, trivial⟩ | exact ⟨trivial, trivial, trivial, trivial⟩ | exact ⟨trivial, trivial, trivial, trivial, trivial⟩ | exact ⟨trivial, trivial, trivial, trivial, trivial, trivial⟩ | exact ⟨trivial, trivial, trivial, trivial, trivial, trivial, trivial⟩ | exact ⟨trivial, trivial, trivial, trivial, trivial, trivial, trivial, trivial⟩ | exact ⟨liveW_row (by assumption), trivial⟩ | exact ⟨liveW_map (by assumption), trivial⟩) ?_; conv => whnf) | (refine And.intro (fit64 (by simp only [List.length_map]; omega)) ?_; conv => whnf) | (refine stW_top (Nat.le_of_ble_eq_true rfl) ?_; conv => whnf) | (refine stW_map0 _ (by assumption) (by omega) (by rfl) (by rfl) (by rfl) ?_; conv => whnf) | (refine stW_map _ (by assumption) (by omega) (by rfl) (by rfl) (by rfl) ?_; conv => whnf) | (refine srcW_list ?_; conv => whnf) | (refine And.intro (sol1 rfl (by first | exact trivial | exact ⟨trivial, trivial⟩ | exact ⟨trivial, trivial, trivial⟩ | exact ⟨trivial, trivial, trivial, trivial⟩ | exact ⟨trivial, trivial, trivial, trivial, trivial⟩ | exact ⟨trivial, trivial, trivial, trivial, trivial, trivial⟩ | exact ⟨trivial, trivial, trivial, trivial, trivial, trivial, trivial⟩ | exact ⟨trivial, trivial, trivial, trivial, trivial, trivial, trivial, trivial⟩ | exact ⟨liveW_row (by assumption), trivial⟩ | exact ⟨liveW_map (by assumption), trivial⟩)) ?_; conv => whnf) | (refine And.intro (solids_map fun _ => ⟨rfl, by first | exact trivial | exact ⟨trivial, trivial⟩ | exact ⟨trivial, trivial, trivial⟩ | exact ⟨trivial, trivial, trivial, trivial⟩ | exact ⟨trivial, trivial, trivial, trivial, trivial⟩ | exact ⟨trivial, trivial, trivial, trivial, trivial, trivial⟩ | exact ⟨trivial, trivial, trivial, trivial, trivial, trivial, trivial⟩ | exact ⟨trivial, trivial, trivial, trivial, trivial, trivial, trivial, trivial⟩ | exact ⟨liveW_row (by assumption), trivial⟩ | exact ⟨liveW_map (by assumption), trivial⟩⟩) ?_; conv => whnf) | (refine rowW_intro (by assumption) ?_; conv => whnf) | (refine rowW_intro (upd_same _ _ _) ?_; conv => whnf) | (refine lenI ?_; conv => whnf) | (refine lenR (by omega) ?_; conv => whnf) | (refine capI (by simp only [List.length_cons, List.length_nil, List.length_map]; omega) ?_; conv => whnf) | (refine exA ?_; conv => whnf))
  (repeat revert xhl); exact h.h) : p := s ⟨h⟩

theorem goC {p q : Prop} (h : q) (s : Hid q → p := by
  intro h
  conv => whnf
  repeat (first | (refine W_ok GT_ok ?_; conv => whnf) | (refine TL_ok GT_ok ?_; conv => whnf) | (refine stop (T_scope (W_ok GT_ok ?_)); conv => whnf) | (refine len_map (fun xhl => ?_); conv => whnf) | (refine And.intro (by first | exact rfl | exact trivial | exact ⟨trivial, trivial⟩ | exact Nat.le_of_ble_eq_true rfl | decide) ?_; conv => whnf) | (refine And.intro (allL_map fun _ => rfl) ?_; conv => whnf) | (refine And.intro (liveW_intro (upd_same _ _ _) rfl) ?_; conv => whnf) | (refine ldW_intro (upd_same _ _ _) rfl ?_; conv => whnf) | (refine And.intro (liveW_row (by assumption)) ?_; conv => whnf) | (refine ldW_intro (by assumption) (by exact rfl) ?_; conv => whnf) | (refine And.intro (fit64 (by omega)) ?_; conv => whnf) | (refine And.intro (fun _ => ?_) noTF; conv => whnf) | (refine And.intro (fun _ => ?_) noFT; conv => whnf) | (refine And.intro noTF (fun _ => ?_); conv => whnf) | (refine And.intro noFT (fun _ => ?_); conv => whnf) | (refine idxW_map (by first | assumption | omega) ?_; conv => whnf) | (refine rowI _ rfl (by omega) ?_; conv => whnf) | (refine ldW_map0 (by assumption) (by omega) ?_; conv => whnf) | (refine ldW_map (by assumption) (by omega) ?_; conv => whnf) | (refine subW_hi rfl (by omega) ?_; conv => whnf) | (refine subW_lo1 (by omega) ?_; conv => whnf) | (refine subW_hi1 (by omega) ?_; conv => whnf) | (refine idxW_map1 (by omega) ?_; conv => whnf) | (refine subW_lo rfl (by omega) ?_; conv => whnf) | (refine subW_lh rfl rfl (by omega) (by omega) ?_; conv => whnf) | (refine And.intro (by first | exact trivial | exact ⟨trivial, trivial⟩ | exact ⟨trivial, trivial, trivial⟩ | exact ⟨trivial, trivial, trivial, trivial⟩ | exact ⟨trivial, trivial, trivial, trivial, trivial⟩ | exact ⟨trivial, trivial, trivial, trivial, trivial, trivial⟩ | exact ⟨trivial, trivial, trivial, trivial, trivial, trivial, trivial⟩ | exact ⟨trivial, trivial, trivial, trivial, trivial, trivial, trivial, trivial⟩ | exact ⟨liveW_row (by assumption), trivial⟩ | exact ⟨liveW_map (by assumption), trivial⟩) ?_; conv => whnf) | (refine And.intro (fit64 (by simp only [List.length_map]; omega)) ?_; conv => whnf) | (refine stW_top (Nat.le_of_ble_eq_true rfl) ?_; conv => whnf) | (refine stW_map0 _ (by assumption) (by omega) (by rfl) (by rfl) (by rfl) ?_; conv => whnf) | (refine stW_map _ (by assumption) (by omega) (by rfl) (by rfl) (by rfl) ?_; conv => whnf) | (refine srcW_list ?_; conv => whnf) | (refine And.intro (sol1 rfl (by first | exact trivial | exact ⟨trivial, trivial⟩ | exact ⟨trivial, trivial, trivial⟩ | exact ⟨trivial, trivial, trivial, trivial⟩ | exact ⟨trivial, trivial, trivial, trivial, trivial⟩ | exact ⟨trivial, trivial, trivial, trivial, trivial, trivial⟩ | exact ⟨trivial, trivial, trivial, trivial, trivial, trivial, trivial⟩ | exact ⟨trivial, trivial, trivial, trivial, trivial, trivial, trivial, trivial⟩ | exact ⟨liveW_row (by assumption), trivial⟩ | exact ⟨liveW_map (by assumption), trivial⟩)) ?_; conv => whnf) | (refine And.intro (solids_map fun _ => ⟨rfl, by first | exact trivial | exact ⟨trivial, trivial⟩ | exact ⟨trivial, trivial, trivial⟩ | exact ⟨trivial, trivial, trivial, trivial⟩ | exact ⟨trivial, trivial, trivial, trivial, trivial⟩ | exact ⟨trivial, trivial, trivial, trivial, trivial, trivial⟩ | exact ⟨trivial, trivial, trivial, trivial, trivial, trivial, trivial⟩ | exact ⟨trivial, trivial, trivial, trivial, trivial, trivial, trivial, trivial⟩ | exact ⟨liveW_row (by assumption), trivial⟩ | exact ⟨liveW_map (by assumption), trivial⟩⟩) ?_; conv => whnf) | (refine rowW_intro (by assumption) ?_; conv => whnf) | (refine rowW_intro (upd_same _ _ _) ?_; conv => whnf) | (refine lenI ?_; conv => whnf) | (refine lenR (by omega) ?_; conv => whnf) | (refine capI (by simp only [List.length_cons, List.length_nil, List.length_map]; omega) ?_; conv => whnf) | (refine exA ?_; conv => whnf))
  (repeat revert xhl); exact h.h) : p := s ⟨h⟩

theorem goS {p q : Prop} (h : q) (s : Hid q → p := by
  intro h
  conv => whnf
  repeat (first | (refine TL_ok GT_ok ?_; conv => whnf) | (refine len_map (fun xhl => ?_); conv => whnf) | (refine And.intro (by first | exact rfl | exact trivial | exact ⟨trivial, trivial⟩ | exact Nat.le_of_ble_eq_true rfl | decide) ?_; conv => whnf) | (refine And.intro (allL_map fun _ => rfl) ?_; conv => whnf) | (refine And.intro (liveW_intro (upd_same _ _ _) rfl) ?_; conv => whnf) | (refine ldW_intro (upd_same _ _ _) rfl ?_; conv => whnf) | (refine And.intro (liveW_row (by assumption)) ?_; conv => whnf) | (refine ldW_intro (by assumption) (by exact rfl) ?_; conv => whnf) | (refine And.intro (fit64 (by omega)) ?_; conv => whnf) | (refine And.intro (fun _ => ?_) noTF; conv => whnf) | (refine And.intro (fun _ => ?_) noFT; conv => whnf) | (refine And.intro noTF (fun _ => ?_); conv => whnf) | (refine And.intro noFT (fun _ => ?_); conv => whnf) | (refine callW_sp ?_; conv => whnf) | (refine idxW_map (by first | assumption | omega) ?_; conv => whnf) | (refine rowI _ rfl (by omega) ?_; conv => whnf) | (refine ldW_map0 (by assumption) (by omega) ?_; conv => whnf) | (refine ldW_map (by assumption) (by omega) ?_; conv => whnf) | (refine subW_hi rfl (by omega) ?_; conv => whnf) | (refine subW_lo1 (by omega) ?_; conv => whnf) | (refine subW_hi1 (by omega) ?_; conv => whnf) | (refine idxW_map1 (by omega) ?_; conv => whnf) | (refine subW_lo rfl (by omega) ?_; conv => whnf) | (refine subW_lh rfl rfl (by omega) (by omega) ?_; conv => whnf) | (refine And.intro (by first | exact trivial | exact ⟨trivial, trivial⟩ | exact ⟨trivial, trivial, trivial⟩ | exact ⟨trivial, trivial, trivial, trivial⟩ | exact ⟨trivial, trivial, trivial, trivial, trivial⟩ | exact ⟨trivial, trivial, trivial, trivial, trivial, trivial⟩ | exact ⟨trivial, trivial, trivial, trivial, trivial, trivial, trivial⟩ | exact ⟨trivial, trivial, trivial, trivial, trivial, trivial, trivial, trivial⟩ | exact ⟨liveW_row (by assumption), trivial⟩ | exact ⟨liveW_map (by assumption), trivial⟩) ?_; conv => whnf) | (refine And.intro (fit64 (by simp only [List.length_map]; omega)) ?_; conv => whnf) | (refine stW_top (Nat.le_of_ble_eq_true rfl) ?_; conv => whnf) | (refine stW_map0 _ (by assumption) (by omega) (by rfl) (by rfl) (by rfl) ?_; conv => whnf) | (refine stW_map _ (by assumption) (by omega) (by rfl) (by rfl) (by rfl) ?_; conv => whnf) | (refine srcW_list ?_; conv => whnf) | (refine And.intro (sol1 rfl (by first | exact trivial | exact ⟨trivial, trivial⟩ | exact ⟨trivial, trivial, trivial⟩ | exact ⟨trivial, trivial, trivial, trivial⟩ | exact ⟨trivial, trivial, trivial, trivial, trivial⟩ | exact ⟨trivial, trivial, trivial, trivial, trivial, trivial⟩ | exact ⟨trivial, trivial, trivial, trivial, trivial, trivial, trivial⟩ | exact ⟨trivial, trivial, trivial, trivial, trivial, trivial, trivial, trivial⟩ | exact ⟨liveW_row (by assumption), trivial⟩ | exact ⟨liveW_map (by assumption), trivial⟩)) ?_; conv => whnf) | (refine And.intro (solids_map fun _ => ⟨rfl, by first | exact trivial | exact ⟨trivial, trivial⟩ | exact ⟨trivial, trivial, trivial⟩ | exact ⟨trivial, trivial, trivial, trivial⟩ | exact ⟨trivial, trivial, trivial, trivial, trivial⟩ | exact ⟨trivial, trivial, trivial, trivial, trivial, trivial⟩ | exact ⟨trivial, trivial, trivial, trivial, trivial, trivial, trivial⟩ | exact ⟨trivial, trivial, trivial, trivial, trivial, trivial, trivial, trivial⟩ | exact ⟨liveW_row (by assumption), trivial⟩ | exact ⟨liveW_map (by assumption), trivial⟩⟩) ?_; conv => whnf) | (refine rowW_intro (by assumption) ?_; conv => whnf) | (refine rowW_intro (upd_same _ _ _) ?_; conv => whnf) | (refine lenI ?_; conv => whnf) | (refine lenR (by omega) ?_; conv => whnf) | (refine capI (by simp only [List.length_cons, List.length_nil, List.length_map]; omega) ?_; conv => whnf) | (refine exA ?_; conv => whnf))
  (repeat revert xhl); exact h.h) : p := s ⟨h⟩

end Go.Proofs.Ytohldellkddmoaa.L

namespace Go.Proofs.Ytohldellkddmoaa.L
open Go
set_option linter.unusedSimpArgs false
set_option linter.unnecessarySimpa false
set_option linter.unusedVariables false
attribute [local irreducible] T TL

abbrev eS (s : ByteArray) : List PV := [.str s]
abbrev LS (l : List ByteArray) : PV := .list 16 (l.map eS)
abbrev eL (l : List ByteArray) : List PV := [LS l]
abbrev LLS (l : List (List ByteArray)) : PV := .list 24 (l.map eL)

def idxF {α : Type} (p : α → Bool) : List α → Int
  | [] => -1
  | x :: l => if p x then 0 else if idxF p l < 0 then -1 else idxF p l + 1

theorem idxF_lt {α : Type} {p : α → Bool} : ∀ {l : List α} {i : Nat} (hi : i < l.length), p l[i] = true → (∀ j (_ : j < i) (h' : j < l.length), p l[j] = false) → idxF p l = i
  | x :: l, 0, hi, h, _ => by have h' : p x = true := h; simp [idxF, h']
  | x :: l, i + 1, hi, h, hp => by
    have h0 := hp 0 (by omega) (by simp)
    have ih := idxF_lt (p := p) (l := l) (i := i) (by simpa using hi) (by simpa using h) (fun j hj h' => by have := hp (j + 1) (by omega) (by simpa using h'); simpa using this)
    simp at h0
    simp only [idxF, h0, Bool.false_eq_true, if_false, ih]
    rw [if_neg (by omega)]; simp

theorem idxF_none {α : Type} {p : α → Bool} : ∀ {l : List α}, (∀ j (h' : j < l.length), p l[j] = false) → idxF p l = -1
  | [], _ => rfl
  | x :: l, hp => by
    have h0 := hp 0 (by simp)
    have ih := idxF_none (p := p) (l := l) (fun j h' => by have := hp (j + 1) (by simpa using h'); simpa using this)
    simp at h0
    simp [idxF, h0, ih]

theorem idxF_cases {α : Type} (p : α → Bool) (l : List α) : (idxF p l = -1 ∧ ∀ j (h' : j < l.length), p l[j] = false) ∨ (∃ i, ∃ hi : i < l.length, idxF p l = i ∧ p l[i] = true ∧ ∀ j (_ : j < i) (h' : j < l.length), p l[j] = false) := by
  by_cases h : ∃ i, ∃ hi : i < l.length, p l[i] = true
  · have h2 : ∃ i, ∃ hi : i < l.length, p l[i] = true ∧ ∀ j (_ : j < i) (h' : j < l.length), p l[j] = false := by
      obtain ⟨i, hi⟩ := h
      induction i using Nat.strongRecOn with
      | _ i ih =>
        by_cases h3 : ∃ j, j < i ∧ ∃ hj : j < l.length, p l[j] = true
        · obtain ⟨j, h4, h5⟩ := h3
          exact ih j h4 h5
        · obtain ⟨h6, h7⟩ := hi
          refine ⟨i, h6, h7, fun j hj h' => ?_⟩
          cases e : p l[j] with
          | false => rfl
          | true => exact absurd ⟨j, hj, h', e⟩ h3
    obtain ⟨i, hi, h3, h4⟩ := h2
    exact .inr ⟨i, hi, idxF_lt hi h3 h4, h3, h4⟩
  · have h2 : ∀ j (h' : j < l.length), p l[j] = false := fun j hj => by
      cases e : p l[j] with
      | false => rfl
      | true => exact absurd ⟨j, hj, e⟩ h
    exact .inl ⟨idxF_none h2, h2⟩

theorem idxF_any {α : Type} (p : α → Bool) (l : List α) : decide (idxF p l ≥ 0) = l.any p := by
  rcases idxF_cases p l with ⟨h1, h2⟩ | ⟨i, hi, h1, h2, h3⟩
  · rw [h1]
    symm
    simp only [ge_iff_le]
    have : l.any p = false := by
      rw [List.any_eq_false]
      intro x hx
      obtain ⟨j, hj, rfl⟩ := List.getElem_of_mem hx
      simp [h2 j hj]
    rw [this]; decide
  · rw [h1]
    have : l.any p = true := List.any_eq_true.2 ⟨l[i], List.getElem_mem hi, h2⟩
    rw [this]; simp

def eqB (s : ByteArray) (x : ByteArray) : Bool := decide (s = x)

set_option maxRecDepth 10000

theorem index_spec (l : List ByteArray) (s : ByteArray) : FnP PP 68 [LS l, .str s] (.int .i64 (idxF (eqB s) l)) := by
  refine Fn_of_T GT_ok Go.Proofs.Try.func68 rfl (by rfl) (by rfl) ?_
  refine go0 ?_; intros
  refine stop (T_loop (α := Nat) (inv := fun i => i ≤ l.length ∧ ∀ j (_ : j < i) (h' : j < l.length), eqB s l[j] = false) (tm := fun i => mkT 19 [(0, LS l), (1, .str s), (7, .int .i64 l.length), (8, .int .i64 i)]) (st := fun _ => E) (μ := fun i => l.length - i) 0 ⟨by omega, by simp⟩ ?_ (sle_refl _) ?_)
  · repeat' (first | exact trivial | exact rfl | refine And.intro ?_ ?_)
    simp
  rintro i ⟨hi, hpre⟩
  refine go0 ?_; intros
  refine And.intro (fun hc => ?_) (fun hc => ?_)
  · have hlt : i < l.length := by simpa using hc
    refine go0 ?_; intros
    refine idxW_map hlt ?_
    refine go0 ?_; intros
    refine And.intro (fun hc => ?_) (fun hc => ?_)
    · conv => whnf
      refine go0 ?_; intros
      refine Exists.intro _ (And.intro (sle_refl _) ?_)
      exact ⟨by rw [idxF_lt hlt hc hpre], rfl⟩
    · conv => whnf
      refine go0 ?_; intros
      refine ⟨i + 1, ⟨by omega, fun j hj h' => ?_⟩, by omega, ?_, sle_refl _⟩
      · by_cases e : j = i
        · subst e; exact hc
        · exact hpre j (by omega) h'
      · repeat' (first | exact trivial | exact rfl | refine And.intro ?_ ?_)
  · have hge : ¬ i < l.length := by simpa using hc
    refine go0 ?_; intros
    refine Exists.intro _ (And.intro (sle_refl _) ?_)
    exact ⟨by rw [idxF_none fun j h' => hpre j (by omega) h'], rfl⟩

theorem contains_spec (l : List ByteArray) (s : ByteArray) : FnP PP 60 [LS l, .str s] (.bool (l.any (eqB s))) := by
  refine Fn_of_T GT_ok Go.Proofs.Try.func60 rfl (by rfl) (by rfl) ?_
  refine go0 ?_; intros
  refine callW_pure (index_spec l s) ?_
  refine go0 ?_; intros
  refine Exists.intro _ (And.intro (sle_refl _) ?_)
  exact ⟨by rw [← idxF_any], rfl⟩

theorem indexFunc_spec (l : List (List ByteArray)) (k : Nat) (a c : List PV) (p : List ByteArray → Bool) (hp : ∀ x ∈ l, FnP PP k (a ++ [LS x] ++ c) (.bool (p x))) : FnP PP 66 [LLS l, .fn (.func k) a c] (.int .i64 (idxF p l)) := by
  refine Fn_of_T GT_ok Go.Proofs.Try.func66 rfl (by rfl) (by rfl) ?_
  refine go0 ?_; intros
  refine stop (T_loop (α := Nat) (inv := fun i => i ≤ l.length ∧ ∀ j (_ : j < i) (h' : j < l.length), p l[j] = false) (tm := fun i => mkT 19 [(0, LLS l), (1, .fn (.func k) a c), (7, .int .i64 l.length), (8, .int .i64 i)]) (st := fun _ => E) (μ := fun i => l.length - i) 0 ⟨by omega, by simp⟩ ?_ (sle_refl _) ?_)
  · repeat' (first | exact trivial | exact rfl | refine And.intro ?_ ?_)
    simp
  rintro i ⟨hi, hpre⟩
  refine go0 ?_; intros
  refine And.intro (fun hc => ?_) (fun hc => ?_)
  · have hlt : i < l.length := by simpa using hc
    refine go0 ?_; intros
    refine idxW_map hlt ?_
    refine go0 ?_; intros
    simp only [app2K_eq]
    refine callW_pure (hp _ (List.getElem_mem hlt)) ?_
    refine go0 ?_; intros
    refine And.intro (fun hc => ?_) (fun hc => ?_)
    · conv => whnf
      refine go0 ?_; intros
      refine Exists.intro _ (And.intro (sle_refl _) ?_)
      exact ⟨by rw [idxF_lt hlt hc hpre], rfl⟩
    · conv => whnf
      refine go0 ?_; intros
      refine ⟨i + 1, ⟨by omega, fun j hj h' => ?_⟩, by omega, ?_, sle_refl _⟩
      · by_cases e : j = i
        · subst e; exact hc
        · exact hpre j (by omega) h'
      · repeat' (first | exact trivial | exact rfl | refine And.intro ?_ ?_)
  · have hge : ¬ i < l.length := by simpa using hc
    refine go0 ?_; intros
    refine Exists.intro _ (And.intro (sle_refl _) ?_)
    exact ⟨by rw [idxF_none fun j h' => hpre j (by omega) h'], rfl⟩

theorem containsFunc_spec (l : List (List ByteArray)) (k : Nat) (a c : List PV) (p : List ByteArray → Bool) (hp : ∀ x ∈ l, FnP PP k (a ++ [LS x] ++ c) (.bool (p x))) : FnP PP 45 [LLS l, .fn (.func k) a c] (.bool (l.any p)) := by
  refine Fn_of_T GT_ok Go.Proofs.Try.func45 rfl (by rfl) (by rfl) ?_
  refine go0 ?_; intros
  refine callW_pure (indexFunc_spec l k a c p hp) ?_
  refine go0 ?_; intros
  refine Exists.intro _ (And.intro (sle_refl _) ?_)
  exact ⟨by rw [← idxF_any], rfl⟩

/-- a set of names, as a map -/
def setM (l : List ByteArray) : MK → Option PV
  | .s b => if l.any (eqB b) = true then some (.bool true) else none
  | .i _ => none

theorem any_eqB {s : ByteArray} {l : List ByteArray} : l.any (eqB s) = true ↔ s ∈ l := by
  simp [List.any_eq_true, eqB]

theorem setM_nil : (fun _ => none : MK → Option PV) = setM [] := by funext k; cases k <;> simp [setM]
theorem setM_add (l : List ByteArray) (s : ByteArray) : updF (setM l) (.s s) (.bool true) = setM (l ++ [s]) := by
  funext k
  cases k with
  | i n => simp [updF, setM]
  | s b =>
    by_cases h : b = s
    · simp [updF, setM, h, eqB]
    · have h2 : eqB b s = false := by simp [eqB, h]
      simp only [updF, setM, List.any_append, List.any_cons, List.any_nil, h2, Bool.or_false]
      rw [if_neg (by simpa using h)]

theorem setM_get {l : List ByteArray} {s : ByteArray} : setM l (.s s) = if l.any (eqB s) = true then some (.bool true) else none := rfl

theorem nodup_take {l : List ByteArray} {i : Nat} (h : (l.take i).Nodup) (hi : i < l.length) (hn : l[i] ∉ l.take i) : (l.take (i + 1)).Nodup := by
  rw [List.take_succ_eq_append_getElem hi, List.nodup_append]
  refine ⟨h, by simp, fun a ha b hb => ?_⟩
  simp at hb; subst hb
  rintro rfl; exact hn ha

theorem not_nodup {l : List ByteArray} {i : Nat} (hi : i < l.length) (hn : l[i] ∈ l.take i) : ¬ l.Nodup := by
  intro h
  have h1 : (l.take (i + 1)).Nodup := h.sublist (List.take_sublist _ _)
  rw [List.take_succ_eq_append_getElem hi, List.nodup_append] at h1
  exact h1.2.2 _ hn _ (by simp) rfl

theorem twice_spec (l : List ByteArray) : FnP PP 47 [LS l] (.bool (!decide l.Nodup)) := by
  refine Fn_of_T GT_ok Go.Proofs.Try.func47 rfl (by rfl) (by rfl) ?_
  refine go0 ?_; intros
  refine newW_intro fun g hg => ?_
  refine go0 ?_; intros
  refine stop (T_loop (α := Nat) (inv := fun i => i ≤ l.length ∧ (l.take i).Nodup) (tm := fun i => mkT 19 [(3, .map g), (7, LS l), (8, .int .i64 l.length), (9, .int .i64 i)]) (st := fun i => upd E g (.map true (setM (l.take i)))) (μ := fun i => l.length - i) 0 ⟨by omega, by simp⟩ ?_ ?_ ?_)
  · repeat' (first | exact trivial | exact rfl | refine And.intro ?_ ?_)
    simp
  · rw [setM_nil]; exact sle_refl _
  rintro i ⟨hi, hpre⟩
  refine go0 ?_; intros
  refine And.intro (fun hc => ?_) (fun hc => ?_)
  · have hlt : i < l.length := by simpa using hc
    refine go0 ?_; intros
    refine idxW_map hlt ?_
    refine go0 ?_; intros
    refine lkW_intro (upd_same _ _ _) (optW_intro (fun p hp => ?_) (fun hp => ?_))
    · rw [setM_get] at hp
      split at hp
      · rename_i hm
        cases hp
        refine go0 ?_; intros
        refine ⟨E, sle_E _, ?_⟩
        have := not_nodup hlt (any_eqB.1 hm)
        exact ⟨by simp [this], rfl⟩
      · cases hp
    · rw [setM_get] at hp
      split at hp
      · cases hp
      · rename_i hm
        refine go0 ?_; intros
        refine mapW_intro (upd_same _ _ _) ?_
        refine go0 ?_; intros
        refine ⟨i + 1, ⟨by omega, nodup_take hpre hlt (fun h => hm (any_eqB.2 h))⟩, by omega, ?_, ?_⟩
        · repeat' (first | exact trivial | exact rfl | refine And.intro ?_ ?_)
        · rw [upd_upd, setM_add, ← List.take_succ_eq_append_getElem hlt]; exact sle_refl _
  · have hge : ¬ i < l.length := by simpa using hc
    refine go0 ?_; intros
    refine ⟨E, sle_E _, ?_⟩
    have hnd : l.Nodup := by rw [List.take_of_length_le (by omega)] at hpre; exact hpre
    exact ⟨by simp [hnd], rfl⟩

theorem mergeF_spec (l : List ByteArray) : FnP PP 46 [LS l] (.bool (decide (l.length > 120) || !decide l.Nodup)) := by
  refine Fn_of_T GT_ok Go.Proofs.Try.func46 rfl (by rfl) (by rfl) ?_
  refine go0 ?_; intros
  refine And.intro (fun hc => ?_) (fun hc => ?_)
  · conv => whnf
    refine go0 ?_; intros
    refine callW_pure (twice_spec l) ?_
    refine go0 ?_; intros
    refine Exists.intro _ (And.intro (sle_refl _) ?_)
    have h1 : ¬ l.length > 120 := by simp at hc; omega
    exact ⟨by simp [h1], rfl⟩
  · conv => whnf
    refine go0 ?_; intros
    refine Exists.intro _ (And.intro (sle_refl _) ?_)
    have h1 : l.length > 120 := by simp at hc; omega
    exact ⟨by simp [h1], rfl⟩

theorem mergedF_spec (l : List ByteArray) : FnP PP 74 [LS l] (.bool (decide (l.length > 0))) := by
  refine Fn_of_T GT_ok Go.Proofs.Try.func74 rfl (by rfl) (by rfl) ?_
  refine go0 ?_; intros
  refine Exists.intro _ (And.intro (sle_refl _) ?_)
  exact ⟨by simp, rfl⟩


theorem find_at {α : Type} {p : α → Bool} : ∀ {l : List α} {i : Nat} (hi : i < l.length), p l[i] = true → (∀ j (_ : j < i) (h' : j < l.length), p l[j] = false) → l.find? p = some l[i]
  | x :: l, 0, hi, h, _ => by have h' : p x = true := h; simp [h']
  | x :: l, i + 1, hi, h, hp => by
    have h0 := hp 0 (by omega) (by simp)
    simp at h0
    have ih := find_at (p := p) (l := l) (i := i) (by simpa using hi) (by simpa using h) (fun j hj h' => by have := hp (j + 1) (by omega) (by simpa using h'); simpa using this)
    simp [h0, ih]
theorem find_no {α : Type} {p : α → Bool} {l : List α} (h : ∀ j (h' : j < l.length), p l[j] = false) : l.find? p = none := by
  rw [List.find?_eq_none]
  intro x hx
  obtain ⟨j, hj, rfl⟩ := List.getElem_of_mem hx
  simp [h j hj]

theorem LS_tail (l : List ByteArray) (n : Nat) (hn : n = (l.map eS).length) : PV.list 16 (((l.map eS).take n).drop 1) = LS l.tail := by
  subst hn
  rw [List.take_length]
  simp [List.map_tail]

/-- the first element of a list may be next -/
def good (l : List (List ByteArray)) : List ByteArray → Bool
  | [] => false
  | h :: _ => l.all fun y => !(y.tail.any (eqB h))

def candV (l : List (List ByteArray)) : PV :=
  match l.find? (good l) with
  | some (h :: _) => .tup [.str h, .bool true]
  | _ => .tup [.str ByteArray.empty, .bool false]

theorem candV_some {l : List (List ByteArray)} {x : List ByteArray} (hx : 0 < x.length) (h : l.find? (good l) = some x) : candV l = .tup [.str x[0], .bool true] := by
  unfold candV
  rw [h]
  cases x with
  | nil => simp at hx
  | cons a t => rfl

theorem good_no {l : List (List ByteArray)} {x y : List ByteArray} (hx : 0 < x.length) (hy : y ∈ l) (h : y.tail.any (eqB x[0]) = true) : good l x = false := by
  cases x with
  | nil => simp at hx
  | cons a t =>
    simp only [good]
    rw [List.all_eq_false]
    exact ⟨y, hy, by simpa using h⟩
theorem good_yes {l : List (List ByteArray)} {x : List ByteArray} (hx : 0 < x.length) (h : ∀ y ∈ l, y.tail.any (eqB x[0]) = false) : good l x = true := by
  cases x with
  | nil => simp at hx
  | cons a t =>
    simp only [good]
    rw [List.all_eq_true]
    intro y hy
    have := h y hy
    simp only [List.getElem_cons_zero] at this
    simp [this]

theorem candidate_spec (l : List (List ByteArray)) : FnP PP 63 [LLS l] (candV l) := by
  refine Fn_of_T GT_ok Go.Proofs.Try.func63 rfl (by rfl) (by rfl) ?_
  refine go0 ?_; intros
  refine stop (T_loop (α := Nat) (inv := fun i => i ≤ l.length ∧ ∀ j (_ : j < i) (h' : j < l.length), good l l[j] = false) (tm := fun i => mkT 39 [(0, LLS l), (8, LLS l), (9, .int .i64 l.length), (10, .int .i64 i)]) (st := fun _ => E) (μ := fun i => l.length - i) 0 ⟨by omega, by simp⟩ ?_ (sle_refl _) ?_)
  · repeat' (first | exact trivial | exact rfl | refine And.intro ?_ ?_)
    simp
  rintro i ⟨hi, hpre⟩
  refine go0 ?_; intros
  refine And.intro (fun hc => ?_) (fun hc => ?_)
  · have hlt : i < l.length := by simpa using hc
    refine go0 ?_; intros
    refine idxW_map hlt ?_
    refine go0 ?_; intros
    refine And.intro (fun hc => ?_) (fun hc => ?_)
    · conv => whnf
      refine go0 ?_; intros
      have hz : l[i] = [] := by simpa using hc
      refine ⟨i + 1, ⟨by omega, fun j hj h' => ?_⟩, by omega, ?_, sle_refl _⟩
      · by_cases e : j = i
        · subst e; rw [hz]; rfl
        · exact hpre j (by omega) h'
      · repeat' (first | exact trivial | exact rfl | refine And.intro ?_ ?_)
    · have hne : 0 < l[i].length := by simpa [List.length_pos_iff] using hc
      refine go0 ?_; intros
      refine stop (T_loop (α := Nat) (inv := fun j => j ≤ l.length ∧ ∀ m (_ : m < j) (h' : m < l.length), l[m].tail.any (eqB l[i][0]) = false) (tm := fun j => mkT 39 [(0, LLS l), (5, LS l[i]), (8, LLS l), (9, .int .i64 l.length), (10, .int .i64 i), (17, LLS l), (18, .int .i64 l.length), (19, .int .i64 j)]) (st := fun _ => E) (μ := fun j => l.length - j) 0 ⟨by omega, by simp⟩ ?_ (sle_refl _) ?_)
      · repeat' (first | exact trivial | exact rfl | refine And.intro ?_ ?_)
        simp
      rintro j ⟨hj, hpj⟩
      refine go0 ?_; intros
      refine And.intro (fun hc => ?_) (fun hc => ?_)
      · have hjl : j < l.length := by simpa using hc
        refine go0 ?_; intros
        refine idxW_map hjl ?_
        refine go0 ?_; intros
        refine stop (T_drawW GT_ok (by rfl) 11 (by decide) ?_)
        conv => whnf
        apply Exists.intro; apply And.intro
        · conv => whnf
        conv => whnf
        apply Exists.intro; apply And.intro
        · conv => whnf
          exact goE
        conv => whnf
        apply Exists.intro; apply And.intro
        · conv => whnf
        conv => whnf
        apply Exists.intro; apply And.intro
        · conv => whnf
        conv => whnf
        refine And.intro (fun hc => ?_) (fun hc => ?_)
        · have hnj : 0 < l[j].length := by simpa using hc
          conv => whnf
          apply Exists.intro; apply And.intro
          · conv => whnf
          refine go0 ?_; intros
          refine ⟨LS l[j].tail, ?_, ?_⟩
          · conv => whnf
            refine go0 ?_; intros
            refine subW_lo (l := 1) rfl (by omega) ?_
            rw [List.drop_one]
          refine go0 ?_; intros
          apply Exists.intro; apply And.intro
          · conv => whnf
          refine go0 ?_; intros
          apply Exists.intro; apply And.intro
          · conv => whnf
            refine idxW_map (i := 0) hne ?_
            exact goE
          refine go0 ?_; intros
          apply Exists.intro; apply And.intro
          · conv => whnf
          refine go0 ?_; intros
          apply Exists.intro; apply And.intro
          · conv => whnf
            exact ⟨E, sle_E _, contains_spec _ _⟩
          refine go0 ?_; intros
          apply Exists.intro; apply And.intro
          · conv => whnf
            exact goE
          refine go0 ?_; intros
          refine And.intro (fun hc => ?_) (fun hc => ?_)
          · conv => whnf
            refine go0 ?_; intros
            refine ⟨i + 1, ⟨by omega, fun j' hj' h' => ?_⟩, by omega, ?_, sle_refl _⟩
            · by_cases e : j' = i
              · subst e
                exact good_no hne (List.getElem_mem hjl) hc
              · exact hpre j' (by omega) h'
            · repeat' (first | exact trivial | exact rfl | refine And.intro ?_ ?_)
          · conv => whnf
            refine go0 ?_; intros
            refine ⟨j + 1, ⟨by omega, fun m hm h' => ?_⟩, by omega, ?_, sle_refl _⟩
            · by_cases e : m = j
              · subst e; exact hc
              · exact hpj m (by omega) h'
            · repeat' (first | exact trivial | exact rfl | refine And.intro ?_ ?_)
        · have hnj : l[j] = [] := by simpa using hc
          refine go0 ?_; intros
          apply Exists.intro; apply And.intro
          · conv => whnf
            exact goE
          refine go0 ?_; intros
          refine ⟨j + 1, ⟨by omega, fun m hm h' => ?_⟩, by omega, ?_, sle_refl _⟩
          · by_cases e : m = j
            · subst e; rw [hnj]; rfl
            · exact hpj m (by omega) h'
          · repeat' (first | exact trivial | exact rfl | refine And.intro ?_ ?_)
      · have hge : ¬ j < l.length := by simpa using hc
        refine go0 ?_; intros
        refine idxW_map (i := 0) hne ?_
        refine go0 ?_; intros
        refine Exists.intro _ (And.intro (sle_refl _) ?_)
        refine ⟨?_, rfl⟩
        have hg : good l l[i] = true := good_yes hne fun y hy => by
          obtain ⟨m, hm, rfl⟩ := List.getElem_of_mem hy
          exact hpj m (by omega) hm
        rw [candV_some hne (find_at hlt hg hpre)]
  · have hge : ¬ i < l.length := by simpa using hc
    refine go0 ?_; intros
    refine Exists.intro _ (And.intro (sle_refl _) ?_)
    refine ⟨?_, rfl⟩
    unfold candV
    rw [find_no fun j h' => hpre j (by omega) h']
    rfl

end Go.Proofs.Ytohldellkddmoaa.L

namespace Go.Proofs.Ytohldellkddmoaa.L
open Go
set_option linter.unusedSimpArgs false
set_option linter.unnecessarySimpa false
set_option linter.unusedVariables false
attribute [local irreducible] T TL
set_option maxRecDepth 10000

theorem cloneL_spec (l : List (List ByteArray)) : Fn PP 62 [LLS l] E fun o S' => ∃ g ver, o = .ret (.row g ver 0 l.length 1) ∧ S' = upd E g (.row ver 1 24 (l.map eL)) := by
  refine Fn_end (Fn_of_T GT_ok Go.Proofs.Try.func62 rfl (by rfl) (by rfl) ?_)
  refine T_fact (list_bound (d := 0) rfl) fun hlen => ?_
  rw [List.length_map] at hlen
  refine go0 ?_
  intro b hb
  refine go0 ?_; intros
  refine And.intro (fun hc => ?_) (fun hc => ?_)
  · have hz : l = [] := by simpa using hb hc
    subst hz
    refine go0 ?_; intros
    refine Exists.intro _ (And.intro (sle_refl _) ?_)
    exact OView.nilrow 1 24 fun g hg => ⟨g, 0, rfl, rfl⟩
  · conv => whnf
    refine go0 ?_; intros
    refine .inr (newW_intro fun g hg => ?_)
    refine go0 ?_; intros
    refine srcW_list ?_
    refine And.intro (solids_map fun x => ⟨rfl, trivial, trivial⟩) ?_
    refine go0 ?_; intros
    refine rowW_intro (upd_same _ _ _) ?_
    conv => whnf
    refine And.intro rfl (And.intro rfl (And.intro (show (0 + (l.map eL).length) * 24 ≤ 140737488355328 by simpa using hlen) ?_))
    refine go0 ?_; intros
    refine Exists.intro _ (And.intro (sle_refl _) ?_)
    refine OView.same ⟨g, 1, ?_, ?_⟩
    · show Out.ret (.row g 1 0 (0 + (l.map eL).length) 1) = _
      rw [List.length_map, Nat.zero_add]
    · rw [upd_upd, List.nil_append]; rfl

theorem cloneS_spec (l : List ByteArray) : FnP PP 52 [LS l] (LS l) := by
  refine Fn_end (Fn_of_T GT_ok Go.Proofs.Try.func52 rfl (by rfl) (by rfl) ?_)
  refine T_fact (list_bound (d := 0) rfl) fun hlen => ?_
  rw [List.length_map] at hlen
  refine go0 ?_
  intro b hb
  refine go0 ?_; intros
  refine And.intro (fun hc => ?_) (fun hc => ?_)
  · have hz : l = [] := by simpa using hb hc
    subst hz
    refine go0 ?_; intros
    refine Exists.intro _ (And.intro (sle_refl _) ?_)
    exact OView.nilv (.nils 16) (.same ⟨rfl, rfl⟩)
  · conv => whnf
    refine go0 ?_; intros
    refine .inr (newW_intro fun g hg => ?_)
    refine go0 ?_; intros
    refine srcW_list ?_
    refine And.intro (solids_map fun x => ⟨rfl, trivial, trivial⟩) ?_
    refine go0 ?_; intros
    refine rowW_intro (upd_same _ _ _) ?_
    conv => whnf
    refine And.intro rfl (And.intro rfl (And.intro (show (0 + (l.map eS).length) * 16 ≤ 140737488355328 by simpa using hlen) ?_))
    refine go0 ?_; intros
    refine ⟨_, sle_refl _, OView.freeze (upd_same _ _ _) (.row 0 _ ?_) (OView.weak (sle_E _) (OView.same ⟨?_, rfl⟩))⟩
    · simp
    · simp only [List.drop_zero, Nat.zero_add, List.nil_append, List.take_length]; rfl

/-- the elements that are left, and what taking one away leaves -/
def total (l : List (List ByteArray)) : Nat := (l.map List.length).sum
def takeOff (s : ByteArray) (x : List ByteArray) : List ByteArray := match x with
  | [] => []
  | h :: t => if h = s then t else h :: t

def candO (l : List (List ByteArray)) : Option ByteArray := match l.find? (good l) with
  | some (h :: _) => some h
  | _ => none

def mergeN : Nat → List (List ByteArray) → Option (List ByteArray)
  | 0, _ => some []
  | n + 1, l => if l.any (fun x => decide (x.length > 0)) then match candO l with
    | none => none
    | some s => (mergeN n (l.map (takeOff s))).map (s :: ·)
    else some []
def mergeX (l : List (List ByteArray)) : Option (List ByteArray) := mergeN (total l) l

def mergedV (l : List (List ByteArray)) : PV := match mergeX l with
  | some out => .tup [LS out, .bool true]
  | none => .tup [LS [], .bool false]

theorem candV_eq (l : List (List ByteArray)) : candV l = match candO l with
    | some h => .tup [.str h, .bool true]
    | none => .tup [.str ByteArray.empty, .bool false] := by
  simp only [candV, candO]
  cases l.find? (good l) with
  | none => rfl
  | some x => cases x <;> rfl

theorem total_takeOff_le (s : ByteArray) : ∀ (l : List (List ByteArray)), total (l.map (takeOff s)) ≤ total l
  | [] => Nat.le_refl _
  | x :: l => by
    have ih := total_takeOff_le s l
    have : (takeOff s x).length ≤ x.length := by cases x with
      | nil => simp [takeOff]
      | cons h t => simp only [takeOff]; split <;> simp
    simp only [total, List.map_cons, List.sum_cons] at ih ⊢
    omega

theorem total_takeOff_lt {s : ByteArray} : ∀ {l : List (List ByteArray)}, (∃ x ∈ l, ∃ t, x = s :: t) → total (l.map (takeOff s)) < total l
  | [], h => by obtain ⟨x, hx, _⟩ := h; cases hx
  | x :: l, h => by
    have ihl := total_takeOff_le s l
    obtain ⟨y, hy, t, ht⟩ := h
    rcases List.mem_cons.1 hy with rfl | hy
    · subst ht
      have : (takeOff s (s :: t)).length < (s :: t).length := by simp [takeOff]
      simp only [total, List.map_cons, List.sum_cons] at ihl ⊢
      omega
    · have ih := total_takeOff_lt (s := s) (l := l) ⟨y, hy, t, ht⟩
      have : (takeOff s x).length ≤ x.length := by cases x with
        | nil => simp [takeOff]
        | cons h t => simp only [takeOff]; split <;> simp
      simp only [total, List.map_cons, List.sum_cons] at ih ⊢
      omega

theorem candO_mem {l : List (List ByteArray)} {s : ByteArray} (h : candO l = some s) : ∃ x ∈ l, ∃ t, x = s :: t := by
  unfold candO at h
  split at h
  · rename_i a t e
    cases h
    exact ⟨_, List.mem_of_find?_eq_some e, t, rfl⟩
  · cases h

theorem len_le_total {l : List (List ByteArray)} {x : List ByteArray} (hx : x ∈ l) : x.length ≤ total l := by
  induction l with
  | nil => cases hx
  | cons y l ih =>
    simp only [total, List.map_cons, List.sum_cons] at ih ⊢
    rcases List.mem_cons.1 hx with rfl | h
    · omega
    · have := ih h; omega

theorem total_zero {l : List (List ByteArray)} (h : total l = 0) : l.any (fun x => decide (x.length > 0)) = false := by
  rw [List.any_eq_false]
  intro x hx
  have : x.length ≤ total l := len_le_total hx
  simp; exact List.length_eq_zero_iff.1 (by omega)

/-- the measure does not matter, if it is great enough -/
theorem mergeN_eq : ∀ (n : Nat) (l : List (List ByteArray)), total l ≤ n → mergeN n l = mergeX l := by
  intro n
  induction n using Nat.strongRecOn with
  | _ n ih =>
    intro l hl
    unfold mergeX
    cases n with
    | zero => have : total l = 0 := by omega
              rw [this]
    | succ n =>
      cases hm : total l with
      | zero => simp [mergeN, total_zero hm]
      | succ m =>
        simp only [mergeN]
        split
        · cases hc : candO l with
          | none => rfl
          | some s =>
            have hlt := total_takeOff_lt (candO_mem hc)
            dsimp only
            rw [ih n (by omega) _ (by omega), ih m (by omega) _ (by omega)]
        · rfl

theorem mergeX_step {l : List (List ByteArray)} {s : ByteArray} (ha : l.any (fun x => decide (x.length > 0)) = true) (hc : candO l = some s) : mergeX l = (mergeX (l.map (takeOff s))).map (s :: ·) := by
  have hlt := total_takeOff_lt (candO_mem hc)
  cases hm : total l with
  | zero => rw [total_zero hm] at ha; cases ha
  | succ m =>
    conv => lhs; unfold mergeX; rw [hm]
    simp only [mergeN, ha, if_true, hc]
    rw [mergeN_eq m _ (by omega)]
theorem mergeX_none {l : List (List ByteArray)} (ha : l.any (fun x => decide (x.length > 0)) = true) (hc : candO l = none) : mergeX l = none := by
  cases hm : total l with
  | zero => rw [total_zero hm] at ha; cases ha
  | succ m =>
    unfold mergeX; rw [hm]
    simp only [mergeN, ha, if_true, hc]
theorem mergeX_nil {l : List (List ByteArray)} (ha : l.any (fun x => decide (x.length > 0)) = false) : mergeX l = some [] := by
  unfold mergeX
  cases hm : total l with
  | zero => rfl
  | succ m => simp only [mergeN, ha]; simp

theorem merged_spec (l : List (List ByteArray)) (hl : total l ≤ 1000000) : FnP PP 48 [LLS l] (mergedV l) := by
  refine Fn_end (Fn_of_T GT_ok Go.Proofs.Try.func48 rfl (by rfl) (by rfl) ?_)
  refine T_fact (list_bound (d := 0) rfl) fun hlen => ?_
  rw [List.length_map] at hlen
  refine go0 ?_; intros
  refine callW_intro (cloneL_spec l) (sle_E _) ?_
  rintro o S' ⟨g, ver, rfl, rfl⟩ -
  unfold ansW
  rw [mrg_E]
  refine go0 ?_; intros
  refine stop (T_nilrow 4 1 16 rfl fun g2 hg2 => ?_)
  have hne : g2 ≠ g := ne_name (upd_same _ _ _) hg2
  refine T_loop (α := List (List ByteArray) × List ByteArray) (inv := fun x => x.1.length = l.length ∧ total x.1 + x.2.length ≤ total l ∧ mergeX l = (mergeX x.1).map (x.2 ++ ·))
    (tm := fun x => mkT 48 [(0, .row g ver 0 l.length 1), (4, .row g2 x.2.length 0 x.2.length 1)]) (st := fun x => upd (upd E g (.row ver 1 24 (x.1.map eL))) g2 (.row x.2.length 1 16 (x.2.map eS))) (μ := fun x => total x.1) (l, []) ⟨rfl, by simp, by simp⟩ ?_ (sle_refl _) ?_
  · repeat' (first | exact trivial | exact rfl | refine And.intro ?_ ?_)
  rintro ⟨ls, out⟩ ⟨hlen2, htot, hmer⟩
  dsimp only at hlen2 htot hmer ⊢
  have hSg : (upd (upd E g (.row ver 1 24 (ls.map eL))) g2 (.row out.length 1 16 (out.map eS))) g = some (.row ver 1 24 (ls.map eL)) := by rw [upd_ne (Ne.symm hne), upd_same]
  refine go0 ?_; intros
  refine callW_borrow (containsFunc_spec ls 74 [] [] (fun x => decide (x.length > 0)) fun x _ => mergedF_spec x) ⟨bor_row hSg (by simp [hlen2]), .same _, trivial⟩ (.bool _) ?_
  refine go0 ?_; intros
  refine And.intro (fun hc => ?_) (fun hc => ?_)
  · have hany := hc
    refine go0 ?_; intros
    have hcs := candidate_spec ls
    rw [candV_eq] at hcs
    cases hcd : candO ls with
    | none =>
      rw [hcd] at hcs
      dsimp only at hcs
      refine callW_borrow hcs ⟨bor_row hSg (by simp [hlen2]), trivial⟩ (.tup _ (by simp; exact ⟨.str _, .bool _⟩)) ?_
      refine go0 ?_; intros
      refine ⟨E, sle_E _, OView.nilv (q := .tup [LS [], .bool false]) (.tup _ _ rfl fun i h1 h2 => ?_) (OView.same ⟨?_, rfl⟩)⟩
      · match i, h1 with
        | 0, _ => exact .nils 16
        | 1, _ => exact .same _
      · unfold mergedV; rw [hmer, mergeX_none hany hcd]; rfl
    | some s =>
      rw [hcd] at hcs
      dsimp only at hcs
      refine callW_borrow hcs ⟨bor_row hSg (by simp [hlen2]), trivial⟩ (.tup _ (by simp; exact ⟨.str _, .bool _⟩)) ?_
      refine go0 ?_; intros
      refine .inl ?_
      refine go0 ?_; intros
      refine srcW_list (And.intro (by simp [solidsW, solidW]; rfl) ?_)
      refine go0 ?_; intros
      refine rowW_intro (upd_same _ _ _) ?_
      refine And.intro (by simp) (And.intro rfl (And.intro (show (out.length + 1) * 16 ≤ 140737488355328 by omega) ?_))
      refine go0 ?_; intros
      refine And.intro (liveW_intro (x := .row ver 1 24 (ls.map eL)) (by rw [upd_ne (Ne.symm hne)]; exact hSg) rfl) (And.intro (by omega) ?_)
      refine go0 ?_; intros
      refine stop (T_loop (α := Nat) (inv := fun i => i ≤ ls.length)
        (tm := fun i => mkT 48 [(0, .row g ver 0 l.length 1), (4, .row g2 (out.length + 1) 0 (out.length + 1) 1), (5, .str s), (24, .row g ver 0 l.length 1), (25, .int .i64 l.length), (26, .int .i64 i)])
        (st := fun i => upd (upd E g (.row ver 1 24 ((mix (takeOff s) i ls).map eL))) g2 (.row (out.length + 1) 1 16 ((out ++ [s]).map eS))) (μ := fun i => ls.length - i) 0 (by omega) ?_ ?_ ?_)
      · repeat' (first | exact trivial | exact rfl | refine And.intro ?_ ?_)
      · rw [upd_upd, mix_zero, List.map_append]; exact sle_refl _
      rintro i hi
      refine go0 ?_; intros
      refine And.intro (fun hc => ?_) (fun hc => ?_)
      · have hlt : i < ls.length := by simp at hc; omega
        have hSg' : (upd (upd E g (.row ver 1 24 ((mix (takeOff s) i ls).map eL))) g2 (.row (out.length + 1) 1 16 ((out ++ [s]).map eS))) g = some (.row ver 1 24 ((mix (takeOff s) i ls).map eL)) := by rw [upd_ne (Ne.symm hne), upd_same]
        have hget : ((mix (takeOff s) i ls).map eL)[i]? = some (eL ls[i]) := by rw [List.getElem?_map, mix_get _ hlt]; rfl
        refine go0 ?_; intros
        refine ⟨i, rfl, by omega, ?_⟩
        refine go0 ?_; intros
        refine ldW_intro hSg' (by rw [Nat.zero_add]; exact hget) ?_
        refine go0 ?_; intros
        have keep : takeOff s ls[i] = ls[i] → sle (upd (upd E g (.row ver 1 24 ((mix (takeOff s) i ls).map eL))) g2 (.row (out.length + 1) 1 16 ((out ++ [s]).map eS))) (upd (upd E g (.row ver 1 24 ((mix (takeOff s) (i + 1) ls).map eL))) g2 (.row (out.length + 1) 1 16 ((out ++ [s]).map eS))) := fun e => by
          rw [mix_step _ hlt, e]
          have : (mix (takeOff s) i ls).set i ls[i] = mix (takeOff s) i ls := by
            apply List.ext_getElem?
            intro j
            rw [List.getElem?_set]
            split
            · rename_i e'; subst e'
              rw [mix_len, if_pos hlt, mix_get _ hlt]
            · rfl
          rw [this]; exact sle_refl _
        refine And.intro (fun hc => ?_) (fun hc => ?_)
        · have hpos : 0 < ls[i].length := by simpa using hc
          refine go0 ?_; intros
          refine idxW_map (i := 0) hpos ?_
          refine go0 ?_; intros
          refine And.intro (fun hc => ?_) (fun hc => ?_)
          · have heq : ls[i][0] = s := by simpa using hc
            refine go0 ?_; intros
            refine subW_lo (l := 1) rfl (by omega) ?_
            rw [List.drop_one]
            refine go0 ?_; intros
            refine ⟨i, rfl, by omega, ?_⟩
            refine go0 ?_; intros
            refine stW_intro (i := 0 + i) hSg' (by rw [Nat.zero_add]; exact hget) ?_ ?_
            · exact Nat.le_refl 1
            rintro new rfl
            refine go0 ?_; intros
            refine ⟨i + 1, by omega, by omega, ?_, ?_⟩
            · repeat' (first | exact trivial | exact rfl | refine And.intro ?_ ?_)
            · have he : [LS ls[i].tail] = eL (takeOff s ls[i]) := by
                cases e : ls[i] with
                | nil => rw [e] at hpos; simp at hpos
                | cons h t => simp only [e, List.getElem_cons_zero] at heq; simp [takeOff, heq]
              rw [Nat.zero_add, mix_step _ hlt, he, List.map_set]
              have hswap : ∀ (x y z : AO), upd (upd (upd E g x) g2 y) g z = upd (upd E g z) g2 y := fun x y z => by
                funext h; simp only [upd]; split <;> split <;> simp_all
              rw [hswap]; exact sle_refl _
          · have heq : ¬ ls[i][0] = s := by simpa using hc
            refine go0 ?_; intros
            refine ⟨i + 1, by omega, by omega, ?_, keep ?_⟩
            · repeat' (first | exact trivial | exact rfl | refine And.intro ?_ ?_)
            · cases e : ls[i] with
              | nil => rfl
              | cons h t => simp only [e, List.getElem_cons_zero] at heq; simp [takeOff, heq]
        · have hz : ls[i] = [] := by simpa using hc
          refine go0 ?_; intros
          refine ⟨i + 1, by omega, by omega, ?_, keep (by rw [hz]; rfl)⟩
          · repeat' (first | exact trivial | exact rfl | refine And.intro ?_ ?_)
      · have hge : ¬ i < ls.length := by simp at hc; omega
        have hlt := total_takeOff_lt (candO_mem hcd)
        refine go0 ?_; intros
        refine ⟨(ls.map (takeOff s), out ++ [s]), ⟨by simp [hlen2], ?_, ?_⟩, hlt, ?_, ?_⟩
        · simp; omega
        · rw [hmer, mergeX_step hany hcd, Option.map_map]
          congr 1; funext x; simp
        · repeat' (first | exact trivial | exact rfl | refine And.intro ?_ ?_)
          · simp
        · rw [mix_end _ (by omega)]; simp; exact sle_refl _
  · have hany := hc
    refine go0 ?_; intros
    refine ⟨_, sle_refl _, OView.freeze (q := .tup [LS out, .bool true]) (upd_same _ _ _) ?_ (OView.weak (sle_E _) (OView.same ⟨?_, rfl⟩))⟩
    · refine FzV.tup _ _ rfl fun i h1 h2 => ?_
      match i, h1 with
      | 0, _ => exact fz_row (by simp)
      | 1, _ => exact .same _
    · unfold mergedV; rw [hmer, mergeX_nil hany]; simp

end Go.Proofs.Ytohldellkddmoaa.L

namespace Go.Proofs.Ytohldellkddmoaa.L
open Go
set_option linter.unusedSimpArgs false
set_option linter.unnecessarySimpa false
set_option linter.unusedVariables false
attribute [local irreducible] T TL
set_option maxRecDepth 10000

def lawL (l : List (List ByteArray)) : Bool := decide (l.length > 20) || l.any fun x => decide (x.length > 120) || !decide x.Nodup
def mergeV (l : List (List ByteArray)) : PV := if lawL l then .tup [LS [], .bool false] else mergedV l

theorem total_le (n : Nat) : ∀ (l : List (List ByteArray)), (∀ x ∈ l, x.length ≤ n) → total l ≤ l.length * n
  | [], _ => by simp [total]
  | x :: l, h => by
    have ih := total_le n l fun y hy => h y (List.mem_cons_of_mem _ hy)
    have := h x (by simp)
    simp only [total, List.map_cons, List.sum_cons, List.length_cons] at ih ⊢
    rw [Nat.add_mul]; omega

theorem merge_spec (l : List (List ByteArray)) : FnP PP 14 [LLS l] (mergeV l) := by
  refine Fn_end (Fn_of_T GT_ok Go.Proofs.Try.func14 rfl (by rfl) (by rfl) ?_)
  have cf := containsFunc_spec l 46 [] [] (fun x => decide (x.length > 120) || !decide x.Nodup) (fun x _ => mergeF_spec x)
  refine go0 ?_; intros
  refine And.intro (fun hc => ?_) (fun hc => ?_)
  · have hn : ¬ l.length > 20 := by simp at hc; omega
    refine go0 ?_; intros
    refine callW_pure cf ?_
    refine go0 ?_; intros
    refine And.intro (fun hc => ?_) (fun hc => ?_)
    · conv => whnf
      refine go0 ?_; intros
      refine Exists.intro _ (And.intro (sle_refl _) ?_)
      refine OView.nilv (q := .tup [LS [], .bool false]) (.tup _ _ rfl fun i h1 h2 => ?_) (OView.same ⟨?_, rfl⟩)
      · match i, h1 with
        | 0, _ => exact .nils 16
        | 1, _ => exact .same _
      · unfold mergeV lawL; rw [hc]; simp
    · have ht : total l ≤ 1000000 := by
        have := total_le 120 l fun x hx => by
          have := List.any_eq_false.1 hc x hx
          simp at this; omega
        omega
      have hlaw : lawL l = false := by unfold lawL; rw [hc]; simp; omega
      have hms := merged_spec l ht
      have hv : mergedV l = mergeV l := by unfold mergeV; rw [hlaw]; simp
      rw [hv] at hms
      refine go0 ?_; intros
      refine callW_pure hms ?_
      have hcase : ∃ o b, mergeV l = .tup [LS o, .bool b] := by
        rw [← hv]; unfold mergedV; split
        · exact ⟨_, _, rfl⟩
        · exact ⟨_, _, rfl⟩
      obtain ⟨o, b, hm⟩ := hcase
      rw [hm]
      refine go0 ?_; intros
      refine Exists.intro _ (And.intro (sle_refl _) ?_)
      exact OView.same ⟨rfl, rfl⟩
  · have hn : l.length > 20 := by simp at hc; omega
    refine go0 ?_; intros
    refine Exists.intro _ (And.intro (sle_refl _) ?_)
    refine OView.nilv (q := .tup [LS [], .bool false]) (.tup _ _ rfl fun i h1 h2 => ?_) (OView.same ⟨?_, rfl⟩)
    · match i, h1 with
      | 0, _ => exact .nils 16
      | 1, _ => exact .same _
    · unfold mergeV lawL; simp [hn]

end Go.Proofs.Ytohldellkddmoaa.L

namespace Go.Proofs.Ytohldellkddmoaa.L
open Go
set_option linter.unusedSimpArgs false
set_option linter.unnecessarySimpa false
set_option linter.unusedVariables false
attribute [local irreducible] T TL
set_option maxRecDepth 10000

abbrev HeirT := ByteArray × List ByteArray
abbrev eH (h : HeirT) : List PV := [.str h.1, LS h.2]
abbrev HS (g : List HeirT) : PV := .list 40 (g.map eH)

def supOk (seen : List ByteArray) : List ByteArray → List ByteArray → Bool
  | _, [] => true
  | pre, s :: l => seen.any (eqB s) && !(pre.any (eqB s)) && supOk seen (pre ++ [s]) l
def okHeir (seen : List ByteArray) (h : HeirT) : Bool := !(decide (h.1 = ⟨#[]⟩)) && !(seen.any (eqB h.1)) && decide (h.2.length ≤ 8) && supOk seen [] h.2
def checkL : List ByteArray → List HeirT → Bool
  | _, [] => true
  | seen, h :: l => okHeir seen h && checkL (seen ++ [h.1]) l
def checkV (g : List HeirT) : Int := if g.length > 120 then 2 else if checkL [] g then 0 else 70

theorem set_opt {l : List ByteArray} {s : ByteArray} {ks : PV → Prop} {kn : Prop} (h1 : l.any (eqB s) = true → ks (.bool true)) (h2 : l.any (eqB s) = false → kn) : optW (setM l (.s s)) ks kn := by
  refine optW_intro (fun p hp => ?_) (fun hp => ?_)
  · rw [setM_get] at hp
    split at hp
    · cases hp; exact h1 (by assumption)
    · cases hp
  · rw [setM_get] at hp
    split at hp
    · cases hp
    · exact h2 (by simpa using (by assumption : ¬ l.any (eqB s) = true))

theorem LS_take (l : List ByteArray) (n : Nat) : PV.list 16 (((l.map eS).take n).drop 0) = LS (l.take n) := by
  rw [List.drop_zero, ← List.map_take]

theorem checkL_at {g : List HeirT} {i : Nat} (hi : i < g.length) : checkL ((g.take i).map (·.1)) (g.drop i) = (okHeir ((g.take i).map (·.1)) g[i] && checkL ((g.take (i + 1)).map (·.1)) (g.drop (i + 1))) := by
  rw [List.drop_eq_getElem_cons hi, checkL, List.take_succ_eq_append_getElem hi]
  simp only [List.map_append, List.map_cons, List.map_nil]
theorem supOk_at {seen l : List ByteArray} {i : Nat} (hi : i < l.length) : supOk seen (l.take i) (l.drop i) = (seen.any (eqB l[i]) && !((l.take i).any (eqB l[i])) && supOk seen (l.take (i + 1)) (l.drop (i + 1))) := by
  rw [List.drop_eq_getElem_cons hi, supOk, List.take_succ_eq_append_getElem hi]

theorem check_spec (g : List HeirT) : FnP PP 28 [HS g] (.int .i64 (checkV g)) := by
  refine Fn_of_T GT_ok Go.Proofs.Try.func28 rfl (by rfl) (by rfl) ?_
  refine go0 ?_; intros
  refine And.intro (fun hc => ?_) (fun hc => ?_)
  · have hn : g.length > 120 := by simp at hc; omega
    refine go0 ?_; intros
    refine Exists.intro _ (And.intro (sle_refl _) ?_)
    exact ⟨by unfold checkV; simp [hn], rfl⟩
  · have hn : ¬ g.length > 120 := by simp at hc; omega
    have fail : checkL [] g = false → checkV g = 70 := fun h => by unfold checkV; simp [hn, h]
    refine go0 ?_; intros
    refine newW_intro fun gm hgm => ?_
    refine go0 ?_; intros
    refine stop (T_loop (α := Nat) (inv := fun i => i ≤ g.length ∧ checkL [] g = checkL ((g.take i).map (·.1)) (g.drop i))
      (tm := fun i => mkT 58 [(0, HS g), (3, .map gm), (12, HS g), (13, .int .i64 g.length), (14, .int .i64 i)]) (st := fun i => upd E gm (.map true (setM ((g.take i).map (·.1))))) (μ := fun i => g.length - i) 0 ⟨by omega, by simp⟩ ?_ ?_ ?_)
    · repeat' (first | exact trivial | exact rfl | refine And.intro ?_ ?_)
      simp
    · rw [setM_nil]; exact sle_refl _
    rintro i ⟨hi, hpre⟩
    refine go0 ?_; intros
    refine And.intro (fun hc => ?_) (fun hc => ?_)
    · have hlt : i < g.length := by simpa using hc
      rw [checkL_at hlt] at hpre
      refine go0 ?_; intros
      refine idxW_map hlt ?_
      refine go0 ?_; intros
      refine newW_intro fun g5 hg5 => ?_
      have hne : gm ≠ g5 := Ne.symm (ne_name (upd_same _ _ _) hg5)
      have hM : ∀ x, (upd (upd E gm (.map true (setM ((g.take i).map (·.1))))) g5 x) gm = some (.map true (setM ((g.take i).map (·.1)))) := fun x => by rw [upd_ne hne, upd_same]
      refine go0 ?_; intros
      refine And.intro ⟨trivial, trivial, trivial⟩ ?_
      refine stW_intro (upd_same _ _ _) rfl (Nat.le_of_ble_eq_true rfl) ?_
      rintro new rfl
      rw [upd_upd]
      refine go0 ?_; intros
      have bad : okHeir ((g.take i).map (·.1)) g[i] = false → (Out.ret (.int .i64 70)) = Out.ret (.int .i64 (checkV g)) := fun h => by rw [fail (by rw [hpre, h]; rfl)]
      refine And.intro (fun hc => ?_) (fun hc => ?_)
      · have hc1 := hc
        refine go0 ?_; intros
        refine lkW_intro (hM _) (set_opt (fun hm => ?_) (fun hm => ?_))
        · conv => whnf
          refine go0 ?_; intros
          refine ⟨E, sle_E _, bad ?_, rfl⟩
          unfold okHeir; rw [hm]; simp
        · conv => whnf
          refine go0 ?_; intros
          refine And.intro (fun hc => ?_) (fun hc => ?_)
          · conv => whnf
            refine go0 ?_; intros
            refine ⟨E, sle_E _, bad ?_, rfl⟩
            have : ¬ g[i].2.length ≤ 8 := by simp at hc; omega
            unfold okHeir; simp [this]
          · have hle : g[i].2.length ≤ 8 := by simp at hc; omega
            have hok : okHeir ((g.take i).map (·.1)) g[i] = supOk ((g.take i).map (·.1)) [] g[i].2 := by
              have h1 : ¬ g[i].1 = ⟨#[]⟩ := by simpa using hc1
              unfold okHeir; rw [hm]; simp [hle, h1]
            refine go0 ?_; intros
            refine stop (T_loop (α := Nat) (inv := fun k => k ≤ g[i].2.length ∧ supOk ((g.take i).map (·.1)) [] g[i].2 = supOk ((g.take i).map (·.1)) (g[i].2.take k) (g[i].2.drop k))
              (tm := fun k => mkT 58 [(0, HS g), (3, .map gm), (5, .ptr g5 0 0 0 2), (12, HS g), (13, .int .i64 g.length), (14, .int .i64 i), (34, LS g[i].2), (35, .int .i64 g[i].2.length), (36, .int .i64 k)])
              (st := fun k => upd (upd E gm (.map true (setM ((g.take i).map (·.1))))) g5 (.row 0 2 0 [eH g[i]])) (μ := fun k => g[i].2.length - k) 0 ⟨by omega, by simp⟩ ?_ (sle_refl _) ?_)
            · repeat' (first | exact trivial | exact rfl | refine And.intro ?_ ?_)
              simp
            rintro k ⟨hk, hsup⟩
            refine go0 ?_; intros
            refine And.intro (fun hc => ?_) (fun hc => ?_)
            · have hkl : k < g[i].2.length := by simpa using hc
              rw [supOk_at hkl] at hsup
              refine go0 ?_; intros
              refine idxW_map hkl ?_
              refine go0 ?_; intros
              refine lkW_intro (hM _) (set_opt (fun hm2 => ?_) (fun hm2 => ?_))
              · conv => whnf
                refine go0 ?_; intros
                refine subW_hi (h := k) rfl (by omega) ?_
                refine go0 ?_; intros
                refine callW_pure (contains_spec _ _) ?_
                refine go0 ?_; intros
                refine And.intro (fun hc => ?_) (fun hc => ?_)
                · conv => whnf
                  refine go0 ?_; intros
                  refine ⟨E, sle_E _, bad ?_, rfl⟩
                  rw [hok, hsup, hc]; simp
                · conv => whnf
                  refine go0 ?_; intros
                  refine ⟨k + 1, ⟨by omega, ?_⟩, by omega, ?_, sle_refl _⟩
                  · rw [hsup, hm2, hc]; rfl
                  · repeat' (first | exact trivial | exact rfl | refine And.intro ?_ ?_)
              · conv => whnf
                refine go0 ?_; intros
                refine ⟨E, sle_E _, bad ?_, rfl⟩
                rw [hok, hsup, hm2]; rfl
            · have hge : ¬ k < g[i].2.length := by simpa using hc
              have hall : okHeir ((g.take i).map (·.1)) g[i] = true := by rw [hok, hsup, List.drop_of_length_le (by omega)]; rfl
              refine go0 ?_; intros
              refine mapW_intro (hM _) ?_
              refine go0 ?_; intros
              refine ⟨i + 1, ⟨by omega, by rw [hpre, hall]; rfl⟩, by omega, ?_, ?_⟩
              · repeat' (first | exact trivial | exact rfl | refine And.intro ?_ ?_)
              · intro h x hx
                by_cases e : h = gm
                · subst e
                  rw [upd_same] at hx ⊢
                  cases hx
                  rw [setM_add, List.take_succ_eq_append_getElem hlt, List.map_append]; rfl
                · rw [upd_ne e] at hx; cases hx
      · conv => whnf
        refine go0 ?_; intros
        refine ⟨E, sle_E _, bad ?_, rfl⟩
        unfold okHeir
        have h1 : g[i].1 = ⟨#[]⟩ := by simpa using hc
        simp [h1]
    · have hge : ¬ i < g.length := by simpa using hc
      refine go0 ?_; intros
      refine ⟨E, sle_E _, ?_, rfl⟩
      have : checkL [] g = true := by rw [hpre, List.drop_of_length_le (by omega)]; rfl
      unfold checkV; simp [hn, this]

end Go.Proofs.Ytohldellkddmoaa.L

namespace Go.Proofs.Ytohldellkddmoaa.L
open Go
set_option linter.unusedSimpArgs false
set_option linter.unnecessarySimpa false
set_option linter.unusedVariables false
attribute [local irreducible] T TL
set_option maxRecDepth 10000

/-- the last place of a name -/
def atI : List HeirT → ByteArray → Option Nat
  | [], _ => none
  | h :: t, b => match atI t b with
    | some k => some (k + 1)
    | none => if b = h.1 then some 0 else none

def atM (g : List HeirT) : MK → Option PV
  | .s b => (atI g b).map fun (n : Nat) => .int .i64 (n : Int)
  | .i _ => none

theorem atI_add (l : List HeirT) (h : HeirT) (b : ByteArray) : atI (l ++ [h]) b = if b = h.1 then some l.length else atI l b := by
  induction l with
  | nil => simp [atI]
  | cons x l ih =>
    simp only [List.cons_append, atI, ih, List.length_cons]
    by_cases e : b = h.1
    · simp [e]
    · simp [e]

theorem atM_nil : (fun _ => none : MK → Option PV) = atM [] := by funext k; cases k <;> simp [atM, atI]
theorem atM_add (l : List HeirT) (h : HeirT) : updF (atM l) (.s h.1) (.int .i64 (l.length : Nat)) = atM (l ++ [h]) := by
  funext k
  cases k with
  | i n => simp [updF, atM]
  | s b =>
    by_cases e : b = h.1
    · simp [updF, atM, atI_add, e]
    · simp [updF, atM, atI_add, e]

/-- a tree at work -/
def TR (g : List HeirT) (gA gL gt : Nat) (A L : MK → Option PV) : Store := upd (upd (upd E gA (.map true A)) gL (.map true L)) gt (.row 0 3 0 [[HS g, .map gA, .map gL]])

structure Dis (gA gL gt : Nat) : Prop where
  al : gA ≠ gL
  at' : gA ≠ gt
  lt : gL ≠ gt

theorem TR_t {g : List HeirT} {gA gL gt : Nat} {A L : MK → Option PV} (_ : Dis gA gL gt) : TR g gA gL gt A L gt = some (.row 0 3 0 [[HS g, .map gA, .map gL]]) := by unfold TR; rw [upd_same]

section
variable {g : List HeirT} {gA gL gt : Nat} {A L : MK → Option PV} (d : Dis gA gL gt)
include d
theorem TR_A : TR g gA gL gt A L gA = some (.map true A) := by unfold TR; rw [upd_ne d.at', upd_ne d.al, upd_same]
theorem TR_L : TR g gA gL gt A L gL = some (.map true L) := by unfold TR; rw [upd_ne d.lt, upd_same]
theorem TR_updA {A' : MK → Option PV} : upd (TR g gA gL gt A L) gA (.map true A') = TR g gA gL gt A' L := by
  funext h; unfold TR; simp only [upd]
  have := d.al; have := d.at'; have := d.lt
  split <;> split <;> simp_all
theorem TR_updL {L' : MK → Option PV} : upd (TR g gA gL gt A L) gL (.map true L') = TR g gA gL gt A L' := by
  funext h; unfold TR; simp only [upd]
  have := d.al; have := d.at'; have := d.lt
  split <;> split <;> simp_all
end

def openR (g : List HeirT) (name : ByteArray) (o : Out) (S' : Store) : Prop :=
  (checkV g ≠ 0 ∧ o = .ret (.tup [.nilp, .int .i64 0, .int .i64 (checkV g)]) ∧ S' = E) ∨
  (checkV g = 0 ∧ ∃ gA gL gt, Dis gA gL gt ∧ S' = TR g gA gL gt (atM g) (fun _ => none) ∧
    o = .ret (.tup [.ptr gt 0 0 0 3, .int .i64 (((atI g name).getD 0 : Nat) : Int), .int .i64 (if (atI g name).isSome then 0 else 3)]))

theorem open_spec (g : List HeirT) (name : ByteArray) : Fn PP 50 [HS g, .str name] E (openR g name) := by
  refine Fn_of_T GT_ok Go.Proofs.Try.func50 rfl (by rfl) (by rfl) ?_
  refine go0 ?_; intros
  refine callW_pure (check_spec g) ?_
  refine go0 ?_; intros
  refine And.intro (fun hc => ?_) (fun hc => ?_)
  · have hn : checkV g ≠ 0 := by simpa using hc
    refine go0 ?_; intros
    refine Exists.intro _ (And.intro (sle_refl _) ?_)
    exact .inl ⟨hn, rfl, rfl⟩
  · have hn : checkV g = 0 := by simpa using hc
    refine go0 ?_; intros
    refine newW_intro fun gA hgA => ?_
    refine go0 ?_; intros
    refine newW_intro fun gL hgL => ?_
    refine go0 ?_; intros
    have hAL : gL ≠ gA := ne_name (upd_same _ _ _) hgL
    refine And.intro (liveW_map (by rw [upd_ne (Ne.symm hAL), upd_same])) ?_
    refine go0 ?_; intros
    refine newW_intro fun gt hgt => ?_
    have hLt : gt ≠ gL := ne_name (upd_same _ _ _) hgt
    have hAt : gt ≠ gA := by rintro rfl; rw [upd_ne (Ne.symm hAL), upd_same] at hgt; cases hgt
    have d : Dis gA gL gt := ⟨Ne.symm hAL, Ne.symm hAt, Ne.symm hLt⟩
    refine go0 ?_; intros
    refine stop (T_loop (α := Nat) (inv := fun i => i ≤ g.length)
      (tm := fun i => mkT 52 [(0, HS g), (1, .str name), (8, .ptr gt 0 0 0 3), (23, HS g), (24, .int .i64 g.length), (25, .int .i64 i)]) (st := fun i => TR g gA gL gt (atM (g.take i)) (fun _ => none)) (μ := fun i => g.length - i) 0 (by omega) ?_ ?_ ?_)
    · repeat' (first | exact trivial | exact rfl | refine And.intro ?_ ?_)
      simp
    · rw [List.take_zero, ← atM_nil]; exact sle_refl _
    rintro i hi
    refine go0 ?_; intros
    refine And.intro (fun hc => ?_) (fun hc => ?_)
    · have hlt : i < g.length := by simpa using hc
      refine go0 ?_; intros
      refine idxW_map hlt ?_
      refine go0 ?_; intros
      refine newW_intro fun g5 hg5 => ?_
      have n1 : gA ≠ g5 := Ne.symm (ne_name (TR_A d) hg5)
      have n2 : gL ≠ g5 := Ne.symm (ne_name (TR_L d) hg5)
      have n3 : gt ≠ g5 := Ne.symm (ne_name (TR_t d) hg5)
      refine go0 ?_; intros
      refine And.intro ⟨trivial, trivial, trivial⟩ ?_
      refine stW_intro (upd_same _ _ _) rfl (Nat.le_of_ble_eq_true rfl) ?_
      rintro new rfl
      rw [upd_upd]
      refine go0 ?_; intros
      have hT : (upd (TR g gA gL gt (atM (g.take i)) (fun _ => none)) g5 (.row 0 2 0 [eH g[i]])) gt = some (.row 0 3 0 [[HS g, .map gA, .map gL]]) := by rw [upd_ne n3]; exact TR_t d
      refine stop (T_drawW GT_ok (by rfl) 7 (by decide) ?_)
      conv => whnf
      refine exA ?_
      refine go0 ?_; intros
      refine exA ?_
      refine go0 ?_; intros
      refine exA ?_
      refine go0 ?_; intros
      refine exA ?_
      refine go0 ?_; intros
      refine exA ?_
      refine go0 ?_; intros
      refine exA ?_
      refine go0 ?_; intros
      refine exA ?_
      refine go0 ?_; intros
      refine go0 ?_; intros
      refine mapW_intro (by rw [upd_ne n1]; exact TR_A d) ?_
      refine go0 ?_; intros
      refine ⟨i + 1, by omega, by omega, ?_, ?_⟩
      · repeat' (first | exact trivial | exact rfl | refine And.intro ?_ ?_)
      · refine (sle_skip hg5 n1).trans ?_
        have e : (((g.take i).length : Nat) : Int) = (i : Int) := by rw [List.length_take]; omega
        show sle (upd _ gA (.map true _)) _
        rw [TR_updA d, List.take_succ_eq_append_getElem hlt, ← atM_add, e]
        exact sle_refl _
    · conv => whnf
      refine go0 ?_; intros
      have hge : ¬ i < g.length := by simpa using hc
      have htk : g.take i = g := List.take_of_length_le (by omega)
      rw [htk]
      refine lkW_intro (TR_A d) (optW_intro (fun p hp => ?_) (fun hp => ?_))
      · cases e : atI g name with
        | none => simp [atM, e] at hp
        | some k =>
          simp only [atM, e, Option.map_some, Option.some.injEq] at hp
          subst hp
          refine go0 ?_; intros
          refine Exists.intro _ (And.intro (sle_refl _) ?_)
          exact .inr ⟨hn, gA, gL, gt, d, rfl, by rw [e]; rfl⟩
      · cases e : atI g name with
        | some k => simp [atM, e] at hp
        | none =>
          refine go0 ?_; intros
          refine Exists.intro _ (And.intro (sle_refl _) ?_)
          exact .inr ⟨hn, gA, gL, gt, d, rfl, by rw [e]; rfl⟩

end Go.Proofs.Ytohldellkddmoaa.L

namespace Go.Proofs.Ytohldellkddmoaa.L
open Go
set_option linter.unusedSimpArgs false
set_option linter.unnecessarySimpa false
set_option linter.unusedVariables false
attribute [local irreducible] T TL
set_option maxRecDepth 10000

/-- the ancestors, gathered from the n-th heir down -/
def ancL (g : List HeirT) : Nat → List ByteArray → List ByteArray
  | 0, out => out
  | n + 1, out => ancL g n (match g[n]? with
    | some h => if out.any (eqB h.1) then out ++ h.2 else out
    | none => out)

theorem ancL_at {g : List HeirT} {n : Nat} (hn : n < g.length) (out : List ByteArray) : ancL g (n + 1) out = ancL g n (if out.any (eqB g[n].1) then out ++ g[n].2 else out) := by
  simp [ancL, hn]

theorem above_spec (g : List HeirT) (gA gL gt : Nat) (A L : MK → Option PV) (d : Dis gA gL gt) (i : Nat) (hi : i < g.length) :
    Fn PP 57 [.ptr gt 0 0 0 3, .int .i64 i] (TR g gA gL gt A L) fun o S' => ∃ gm, TR g gA gL gt A L gm = none ∧ o = .ret (.map gm) ∧ S' = upd (TR g gA gL gt A L) gm (.map true (setM (ancL g (i + 1) [g[i].1]))) := by
  refine Fn_of_T GT_ok Go.Proofs.Try.func57 rfl (by rfl) (by rfl) ?_
  refine T_fact (int_bound (d := 1) rfl) fun hib => ?_
  refine go0 ?_; intros
  refine newW_intro fun gm hgm => ?_
  have n1 : gt ≠ gm := Ne.symm (ne_name (TR_t d) hgm)
  have hT : ∀ x, (upd (TR g gA gL gt A L) gm x) gt = some (.row 0 3 0 [[HS g, .map gA, .map gL]]) := fun x => by rw [upd_ne n1]; exact TR_t d
  have hT0 := hT (.map true fun _ => none)
  refine go0 ?_; intros
  refine idxW_map hi ?_
  refine go0 ?_; intros
  refine mapW_intro (upd_same _ _ _) ?_
  refine go0 ?_; intros
  refine stop (T_loop (α := Nat × List ByteArray) (inv := fun x => x.1 ≤ i + 1 ∧ ancL g (i + 1) [g[i].1] = ancL g x.1 x.2)
    (tm := fun x => mkT 51 [(0, .ptr gt 0 0 0 3), (5, .map gm), (6, .int .i64 ((x.1 : Int) - 1))]) (st := fun x => upd (TR g gA gL gt A L) gm (.map true (setM x.2))) (μ := fun x => x.1) (i + 1, [g[i].1]) ⟨Nat.le_refl _, rfl⟩ ?_ ?_ ?_)
  · repeat' (first | exact trivial | exact rfl | refine And.intro ?_ ?_)
    simp
  · rw [upd_upd]
    show sle (upd _ gm (.map true _)) _
    rw [setM_nil, setM_add]; exact sle_refl _
  rintro ⟨n, out⟩ ⟨hn, hanc⟩
  dsimp only at hn hanc ⊢
  have hT1 := hT (.map true (setM out))
  refine go0 ?_; intros
  refine And.intro (fun hc => ?_) (fun hc => ?_)
  · have hpos : 0 < n := by simp at hc; omega
    obtain ⟨k, rfl⟩ : ∃ k, n = k + 1 := ⟨n - 1, by omega⟩
    have hk : k < g.length := by omega
    have hkk : (((k + 1 : Nat) : Int) - 1) = (k : Int) := by omega
    rw [ancL_at hk] at hanc
    rw [hkk]
    refine go0 ?_; intros
    refine idxW_map hk ?_
    refine go0 ?_; intros
    refine lkW_intro (upd_same _ _ _) (set_opt (fun hm => ?_) (fun hm => ?_))
    · rw [hm, if_pos rfl] at hanc
      refine go0 ?_; intros
      refine idxW_map hk ?_
      refine go0 ?_; intros
      refine stop (T_loop (α := Nat) (inv := fun j => j ≤ g[k].2.length)
        (tm := fun j => mkT 51 [(0, .ptr gt 0 0 0 3), (5, .map gm), (6, .int .i64 k), (41, LS g[k].2), (42, .int .i64 g[k].2.length), (43, .int .i64 j)]) (st := fun j => upd (TR g gA gL gt A L) gm (.map true (setM (out ++ g[k].2.take j)))) (μ := fun j => g[k].2.length - j) 0 (by omega) ?_ ?_ ?_)
      · repeat' (first | exact trivial | exact rfl | refine And.intro ?_ ?_)
        simp
      · rw [List.take_zero, List.append_nil]; exact sle_refl _
      rintro j hj
      have hT2 := hT (.map true (setM (out ++ g[k].2.take j)))
      refine go0 ?_; intros
      refine And.intro (fun hc => ?_) (fun hc => ?_)
      · have hjl : j < g[k].2.length := by simpa using hc
        refine go0 ?_; intros
        refine idxW_map hjl ?_
        refine go0 ?_; intros
        refine mapW_intro (upd_same _ _ _) ?_
        refine go0 ?_; intros
        refine ⟨j + 1, by omega, by omega, ?_, ?_⟩
        · repeat' (first | exact trivial | exact rfl | refine And.intro ?_ ?_)
        · rw [upd_upd]
          show sle (upd _ gm (.map true _)) _
          rw [setM_add, List.append_assoc, ← List.take_succ_eq_append_getElem hjl]; exact sle_refl _
      · have hge : ¬ j < g[k].2.length := by simpa using hc
        refine go0 ?_; intros
        refine ⟨(k, out ++ g[k].2), ⟨by dsimp only; omega, hanc⟩, by dsimp only; omega, ?_, ?_⟩
        · repeat' (first | exact trivial | exact rfl | refine And.intro ?_ ?_)
        · rw [List.take_of_length_le (by omega)]; exact sle_refl _
    · rw [hm] at hanc
      refine go0 ?_; intros
      refine ⟨(k, out), ⟨by dsimp only; omega, by simpa using hanc⟩, by dsimp only; omega, ?_, sle_refl _⟩
      · repeat' (first | exact trivial | exact rfl | refine And.intro ?_ ?_)
  · have hz : n = 0 := by simp at hc; omega
    subst hz
    refine go0 ?_; intros
    refine ⟨_, sle_refl _, gm, hgm, rfl, ?_⟩
    rw [hanc]; rfl

theorem atI_lt : ∀ {g : List HeirT} {b : ByteArray} {i : Nat}, atI g b = some i → ∃ h : i < g.length, g[i].1 = b
  | [], _, _, h => by cases h
  | x :: g, b, i, h => by
    simp only [atI] at h
    cases e : atI g b with
    | some k =>
      simp only [e, Option.some.injEq] at h; subst h
      obtain ⟨h1, h2⟩ := atI_lt e
      exact ⟨by simpa using h1, by simpa using h2⟩
    | none =>
      simp only [e] at h
      split at h
      · rename_i he; cases h; exact ⟨by simp, by simpa using he.symm⟩
      · cases h

theorem HS_take (g : List HeirT) (n : Nat) : PV.list 40 (((g.map eH).take n).drop 0) = HS (g.take n) := by
  rw [List.drop_zero, ← List.map_take]

def ancOf (g : List HeirT) (i : Nat) : List ByteArray := match g[i]? with
  | some h => ((g.take (i + 1)).filter fun x => (ancL g (i + 1) [h.1]).any (eqB x.1)).map (·.1)
  | none => []
def ancV (g : List HeirT) (name : ByteArray) : PV :=
  if checkV g ≠ 0 then .tup [LS [], .int .i64 (checkV g)] else match atI g name with
    | none => .tup [LS [], .int .i64 3]
    | some i => .tup [LS (ancOf g i), .int .i64 0]

theorem nil_tup2 {p : PV} : NilV (.tup [.nils, p]) (.tup [LS [], p]) := .tup _ _ rfl fun i h1 h2 => by
  match i, h1 with
  | 0, _ => exact .nils 16
  | 1, _ => exact .same _
theorem fz_tup2 {g ver sz e n : Nat} {xs : List (List PV)} {p : PV} (hn : n = xs.length) : FzV g ver sz e xs (.tup [.row g ver 0 n sz, p]) (.tup [.list e xs, p]) := .tup _ _ rfl fun i h1 h2 => by
  match i, h1 with
  | 0, _ => exact fz_row hn
  | 1, _ => exact .same _

theorem ancestors_spec (g : List HeirT) (name : ByteArray) : FnP PP 22 [HS g, .str name] (ancV g name) := by
  refine Fn_end (Fn_of_T GT_ok Go.Proofs.Try.func22 rfl (by rfl) (by rfl) ?_)
  refine T_fact (list_bound (d := 0) rfl) fun hlen => ?_
  rw [List.length_map] at hlen
  refine go0 ?_; intros
  refine callW_intro (open_spec g name) (sle_E _) ?_
  rintro o S' hR -
  rcases hR with ⟨hn, rfl, rfl⟩ | ⟨hn, gA, gL, gt, d, rfl, rfl⟩
  · unfold ansW
    rw [mrg_E]
    refine go0 ?_; intros
    refine And.intro (fun hc => ?_) (fun hc => ?_)
    · conv => whnf
      refine go0 ?_; intros
      refine Exists.intro _ (And.intro (sle_refl _) ?_)
      exact OView.nilv nil_tup2 (OView.same ⟨by unfold ancV; rw [if_pos hn], rfl⟩)
    · simp [hn] at hc
  · unfold ansW
    rw [mrg_E]
    cases hat : atI g name with
    | none =>
      simp only [Option.getD_none, Option.isSome_none, Bool.false_eq_true, if_false]
      refine go0 ?_; intros
      refine ⟨E, sle_E _, OView.nilv nil_tup2 (OView.same ⟨?_, rfl⟩)⟩
      unfold ancV; rw [if_neg (by simp [hn]), hat]
    | some i =>
      obtain ⟨hi, hnm⟩ := atI_lt hat
      simp only [Option.getD_some, Option.isSome_some, if_true]
      refine go0 ?_; intros
      refine callW_intro (above_spec g gA gL gt (atM g) (fun _ => none) d i hi) (sle_refl _) ?_
      rintro o S' ⟨gm, hgm, rfl, rfl⟩ -
      unfold ansW
      rw [mrg_all]
      refine go0 ?_; intros
      refine subW_hi (h := i + 1) rfl (by omega) ?_
      refine go0 ?_; intros
      refine stop (T_nilrow 10 1 16 rfl fun go hgo => ?_)
      have n1 : gm ≠ go := Ne.symm (ne_name (upd_same _ _ _) hgo)
      have hlen2 : (g.take (i + 1)).length = i + 1 := by simp; omega
      let p : HeirT → Bool := fun x => (ancL g (i + 1) [g[i].1]).any (eqB x.1)
      let outs : Nat → List ByteArray := fun j => (((g.take (i + 1)).take j).filter p).map (·.1)
      refine T_loop (α := Nat) (inv := fun j => j ≤ i + 1)
        (tm := fun j => mkT 46 [(9, .map gm), (10, .row go (outs j).length 0 (outs j).length 1), (29, HS (g.take (i + 1))), (30, .int .i64 ((i + 1 : Nat) : Int)), (31, .int .i64 j)])
        (st := fun j => upd (upd (TR g gA gL gt (atM g) (fun _ => none)) gm (.map true (setM (ancL g (i + 1) [g[i].1])))) go (.row (outs j).length 1 16 ((outs j).map eS))) (μ := fun j => i + 1 - j) 0 (by omega) ?_ (sle_refl _) ?_
      · repeat' (first | exact trivial | exact rfl | refine And.intro ?_ ?_)
        rw [List.length_map, hlen2]
      rintro j hj
      refine go0 ?_; intros
      refine And.intro (fun hc => ?_) (fun hc => ?_)
      · have hjl : j < (g.take (i + 1)).length := by simp at hc; omega
        have hjg : j < g.length := by omega
        refine go0 ?_; intros
        refine idxW_map hjl ?_
        refine go0 ?_; intros
        refine newW_intro fun g5 hg5 => ?_
        have m1 : gm ≠ g5 := by rintro rfl; rw [upd_ne n1, upd_same] at hg5; cases hg5
        have m2 : go ≠ g5 := Ne.symm (ne_name (upd_same _ _ _) hg5)
        refine go0 ?_; intros
        refine And.intro ⟨trivial, trivial, trivial⟩ ?_
        refine stW_intro (upd_same _ _ _) rfl (Nat.le_of_ble_eq_true rfl) ?_
        rintro new rfl
        rw [upd_upd]
        refine go0 ?_; intros
        have hel : (g.take (i + 1))[j] = g[j] := by simp
        refine lkW_intro (f := setM (ancL g (i + 1) [g[i].1])) (by rw [upd_ne m1, upd_ne n1, upd_same]; rfl) (set_opt (fun hm => ?_) (fun hm => ?_))
        · have hout : outs (j + 1) = outs j ++ [(g.take (i + 1))[j].1] := by
            simp only [outs]
            rw [List.take_succ_eq_append_getElem hjl, List.filter_append, List.map_append]
            simp only [List.filter_cons, List.filter_nil]
            rw [if_pos hm]; rfl
          have hob : (outs j).length ≤ j := by
            simp only [outs, List.length_map]
            exact Nat.le_trans (List.length_filter_le _ _) (by simp; omega)
          refine go0 ?_; intros
          refine .inl ?_
          refine go0 ?_; intros
          refine srcW_list (And.intro (by simp [solidsW, solidW]; rfl) ?_)
          refine go0 ?_; intros
          refine rowW_intro (by rw [upd_ne m2, upd_same]) ?_
          refine And.intro (by simp) (And.intro rfl (And.intro (show ((outs j).length + 1) * 16 ≤ 140737488355328 by omega) ?_))
          refine go0 ?_; intros
          refine ⟨j + 1, by omega, by omega, ?_, ?_⟩
          · repeat' (first | exact trivial | exact rfl | refine And.intro ?_ ?_)
            rw [hout]; simp
          · refine (sle_skip hg5 m2).trans ?_
            rw [upd_upd, hout, List.map_append, List.length_append]
            exact sle_refl _
        · have hout : outs (j + 1) = outs j := by
            simp only [outs]
            rw [List.take_succ_eq_append_getElem hjl, List.filter_append, List.map_append]
            simp only [List.filter_cons, List.filter_nil]
            rw [if_neg (show ¬ p (List.take (i + 1) g)[j] = true by show ¬ (ancL g (i + 1) [g[i].1]).any (eqB (List.take (i + 1) g)[j].1) = true; rw [hm]; simp)]; simp
          refine go0 ?_; intros
          refine ⟨j + 1, by omega, by omega, ?_, ?_⟩
          · repeat' (first | exact trivial | exact rfl | refine And.intro ?_ ?_)
            rw [hout]
          · rw [hout]
            exact sle_upd hg5
      · have hge : ¬ j < i + 1 := by simp at hc; omega
        refine go0 ?_; intros
        refine ⟨_, sle_refl _, OView.freeze (upd_same _ _ _) (fz_tup2 (by simp)) (OView.weak (sle_E _) (OView.same ⟨?_, rfl⟩))⟩
        have e : outs j = ancOf g i := by
          simp only [outs, ancOf, List.getElem?_eq_getElem hi]
          rw [List.take_of_length_le (by omega)]
        unfold ancV; rw [if_neg (by simp [hn]), hat, e]


def belowV (g : List HeirT) (a b : ByteArray) : Bool := decide (checkV g = 0) && match atI g a with
  | none => false
  | some i => (atI g b).isSome && match g[i]? with
    | some h => (ancL g (i + 1) [h.1]).any (eqB b)
    | none => false

theorem below_spec (g : List HeirT) (a b : ByteArray) : FnP PP 33 [HS g, .str a, .str b] (.bool (belowV g a b)) := by
  refine Fn_of_T GT_ok Go.Proofs.Try.func33 rfl (by rfl) (by rfl) ?_
  refine go0 ?_; intros
  refine callW_intro (open_spec g a) (sle_E _) ?_
  rintro o S' hR -
  rcases hR with ⟨hn, rfl, rfl⟩ | ⟨hn, gA, gL, gt, d, rfl, rfl⟩
  · unfold ansW
    rw [mrg_E]
    refine go0 ?_; intros
    refine And.intro (fun hc => ?_) (fun hc => ?_)
    · conv => whnf
      refine go0 ?_; intros
      refine Exists.intro _ (And.intro (sle_refl _) ?_)
      exact ⟨by unfold belowV; simp [hn], rfl⟩
    · simp [hn] at hc
  · unfold ansW
    rw [mrg_E]
    cases hat : atI g a with
    | none =>
      simp only [Option.getD_none, Option.isSome_none, Bool.false_eq_true, if_false]
      refine go0 ?_; intros
      refine ⟨E, sle_E _, ?_, rfl⟩
      unfold belowV; rw [hat]; simp
    | some i =>
      obtain ⟨hi, hnm⟩ := atI_lt hat
      simp only [Option.getD_some, Option.isSome_some, if_true]
      refine go0 ?_; intros
      refine lkW_intro (TR_A d) (optW_intro (fun p hp => ?_) (fun hp => ?_))
      · cases e : atI g b with
        | none => simp [atM, e] at hp
        | some k =>
          simp only [atM, e, Option.map_some, Option.some.injEq] at hp
          subst hp
          refine go0 ?_; intros
          refine callW_intro (above_spec g gA gL gt (atM g) (fun _ => none) d i hi) (sle_refl _) ?_
          rintro o S' ⟨gm, hgm, rfl, rfl⟩ -
          unfold ansW
          rw [mrg_all]
          refine go0 ?_; intros
          refine lkW_intro (upd_same _ _ _) (set_opt (fun hm => ?_) (fun hm => ?_))
          · conv => whnf
            refine go0 ?_; intros
            refine ⟨E, sle_E _, ?_, rfl⟩
            unfold belowV; rw [hat]; simp [hn, e, hi, hm]
          · conv => whnf
            refine go0 ?_; intros
            refine ⟨E, sle_E _, ?_, rfl⟩
            unfold belowV; rw [hat]; simp [hn, e, hi, hm]
      · cases e : atI g b with
        | some k => simp [atM, e] at hp
        | none =>
          refine go0 ?_; intros
          refine ⟨E, sle_E _, ?_, rfl⟩
          unfold belowV; rw [hat]; simp [e]

end Go.Proofs.Ytohldellkddmoaa.L

namespace Go.Proofs.Ytohldellkddmoaa.L
open Go
set_option linter.unusedSimpArgs false
set_option linter.unnecessarySimpa false
set_option linter.unusedVariables false

theorem check_ok {g : List HeirT} (h : checkV g = 0) : g.length ≤ 120 ∧ checkL [] g = true := by
  unfold checkV at h
  split at h
  · cases h
  · split at h
    · exact ⟨by omega, by assumption⟩
    · cases h

theorem checkL_app : ∀ {g : List HeirT} {seen : List ByteArray}, checkL seen g = true → ∀ {i : Nat} (hi : i < g.length), okHeir (seen ++ (g.take i).map (·.1)) g[i] = true
  | [], _, _, _, hi => by simp at hi
  | h :: g, seen, hc, 0, _ => by
    simp only [checkL, Bool.and_eq_true] at hc
    simpa using hc.1
  | h :: g, seen, hc, i + 1, hi => by
    simp only [checkL, Bool.and_eq_true] at hc
    have := checkL_app hc.2 (i := i) (by simpa using hi)
    simpa using this

theorem supOk_mem {seen : List ByteArray} : ∀ {l pre : List ByteArray}, supOk seen pre l = true → ∀ s ∈ l, s ∈ seen
  | [], _, _, _, hs => by cases hs
  | x :: l, pre, h, s, hs => by
    simp only [supOk, Bool.and_eq_true] at h
    rcases List.mem_cons.1 hs with rfl | hs
    · exact any_eqB.1 h.1.1
    · exact supOk_mem h.2 s hs

theorem supOk_nodup {seen : List ByteArray} : ∀ {l pre : List ByteArray}, supOk seen pre l = true → l.Nodup ∧ ∀ s ∈ l, s ∉ pre
  | [], _, _ => ⟨List.nodup_nil, fun s hs => by cases hs⟩
  | x :: l, pre, h => by
    simp only [supOk, Bool.and_eq_true] at h
    obtain ⟨h1, h2⟩ := supOk_nodup h.2
    have h3 : x ∉ pre := fun hx => by have := any_eqB.2 hx; rw [this] at h; simp at h
    refine ⟨List.nodup_cons.2 ⟨fun hx => h2 x hx (by simp), h1⟩, fun s hs => ?_⟩
    rcases List.mem_cons.1 hs with rfl | hs
    · exact h3
    · exact fun hp => h2 s hs (by simp [hp])

structure Heirs (g : List HeirT) : Prop where
  len : g.length ≤ 120
  uniq : ∀ i j (hi : i < g.length) (hj : j < g.length), g[i].1 = g[j].1 → i = j
  name : ∀ i (hi : i < g.length), g[i].1 ≠ ⟨#[]⟩
  few : ∀ i (hi : i < g.length), g[i].2.length ≤ 8
  dist : ∀ i (hi : i < g.length), g[i].2.Nodup
  sup : ∀ i (hi : i < g.length), ∀ s ∈ g[i].2, ∃ k, ∃ hk : k < i, g[k].1 = s

theorem heirs_of {g : List HeirT} (h : checkV g = 0) : Heirs g := by
  obtain ⟨h1, h2⟩ := check_ok h
  have hok : ∀ i (hi : i < g.length), okHeir ((g.take i).map (·.1)) g[i] = true := fun i hi => by simpa using checkL_app h2 hi
  have hlt : ∀ i j (hi : i < g.length) (hj : j < g.length), i < j → g[i].1 ≠ g[j].1 := fun i j hi hj hij e => by
    have h3 := hok j hj
    simp only [okHeir, Bool.and_eq_true] at h3
    have h4 : ((g.take j).map (·.1)).any (eqB g[j].1) = true := any_eqB.2 (by
      rw [← e]
      exact List.mem_map.2 ⟨g[i], by rw [List.mem_take_iff_getElem]; exact ⟨i, by omega, rfl⟩, rfl⟩)
    rw [h4] at h3; simp at h3
  refine ⟨h1, fun i j hi hj e => ?_, fun i hi e => ?_, fun i hi => ?_, fun i hi => ?_, fun i hi s hs => ?_⟩
  · rcases Nat.lt_trichotomy i j with h3 | h3 | h3
    · exact absurd e (hlt i j hi hj h3)
    · exact h3
    · exact absurd e.symm (hlt j i hj hi h3)
  · have h3 := hok i hi
    simp only [okHeir, Bool.and_eq_true] at h3
    simp [e] at h3
  · have h3 := hok i hi
    simp only [okHeir, Bool.and_eq_true] at h3
    simpa using h3.1.2
  · have h3 := hok i hi
    simp only [okHeir, Bool.and_eq_true] at h3
    exact (supOk_nodup h3.2).1
  · have h3 := hok i hi
    simp only [okHeir, Bool.and_eq_true] at h3
    have h4 := supOk_mem h3.2 s hs
    obtain ⟨x, hx, rfl⟩ := List.mem_map.1 h4
    rw [List.mem_take_iff_getElem] at hx
    obtain ⟨k, hk, rfl⟩ := hx
    exact ⟨k, by omega, rfl⟩

theorem atI_none {g : List HeirT} {b : ByteArray} (h : atI g b = none) : ∀ i (hi : i < g.length), g[i].1 ≠ b := by
  induction g with
  | nil => intro i hi; simp at hi
  | cons x g ih =>
    simp only [atI] at h
    cases e : atI g b with
    | some k => simp [e] at h
    | none =>
      simp only [e] at h
      split at h
      · cases h
      · rename_i hne
        intro i hi
        cases i with
        | zero => exact fun e => hne e.symm
        | succ i => exact ih e i (by simpa using hi)

theorem Heirs.at {g : List HeirT} (h : Heirs g) {i : Nat} (hi : i < g.length) : atI g g[i].1 = some i := by
  cases e : atI g g[i].1 with
  | none => exact absurd rfl (atI_none e i hi)
  | some k =>
    obtain ⟨hk, e2⟩ := atI_lt e
    rw [h.uniq k i hk hi e2]

theorem Heirs.atsup {g : List HeirT} (h : Heirs g) {i : Nat} (hi : i < g.length) {s : ByteArray} (hs : s ∈ g[i].2) : ∃ k, k < i ∧ atI g s = some k := by
  obtain ⟨k, hk, rfl⟩ := h.sup i hi s hs
  exact ⟨k, hk, h.at (by omega)⟩

/-- the linearizations -/
def supsN (f : Nat → Option (List ByteArray)) (g : List HeirT) : List ByteArray → Option (List (List ByteArray))
  | [] => some []
  | s :: l => match atI g s with
    | none => none
    | some k => match f k with
      | none => none
      | some x => (supsN f g l).map (x :: ·)

def linN : Nat → List HeirT → Nat → Option (List ByteArray)
  | 0, _, _ => none
  | n + 1, g, i => match g[i]? with
    | none => none
    | some h => match supsN (linN n g) g h.2 with
      | none => none
      | some ls => (mergeX (ls ++ [h.2])).map (h.1 :: ·)

def lin (g : List HeirT) (i : Nat) : Option (List ByteArray) := linN (i + 1) g i
/-- the precedence lists -/
def listsX (g : List HeirT) (i : Nat) : Option (List (List ByteArray)) := match g[i]? with
  | none => none
  | some h => (supsN (lin g) g h.2).map (· ++ [h.2])

theorem supsN_congr {f f' : Nat → Option (List ByteArray)} {g : List HeirT} : ∀ {l : List ByteArray}, (∀ s ∈ l, ∀ k, atI g s = some k → f k = f' k) → supsN f g l = supsN f' g l
  | [], _ => rfl
  | s :: l, h => by
    simp only [supsN]
    cases e : atI g s with
    | none => rfl
    | some k =>
      dsimp only
      rw [h s (by simp) k e, supsN_congr fun s' hs' => h s' (by simp [hs'])]

theorem linN_eq {g : List HeirT} (hg : Heirs g) : ∀ (n i : Nat), i < n → linN n g i = lin g i := by
  intro n
  induction n using Nat.strongRecOn with
  | _ n ih =>
    intro i hi
    cases n with
    | zero => omega
    | succ n =>
      unfold lin
      simp only [linN]
      cases e : g[i]? with
      | none => rfl
      | some h =>
        obtain ⟨hl, rfl⟩ := List.getElem?_eq_some_iff.1 e
        dsimp only
        rw [supsN_congr (f := linN n g) (f' := linN i g) fun s hs k hk => by
          obtain ⟨k', h1, h2⟩ := hg.atsup hl hs
          have ek : k' = k := by rw [h2] at hk; exact Option.some.inj hk
          subst ek
          rw [ih n (by omega) k' (by omega), ih i (by omega) k' h1]]

theorem lin_eq {g : List HeirT} (hg : Heirs g) {i : Nat} (hi : i < g.length) : lin g i = match supsN (lin g) g g[i].2 with
    | none => none
    | some ls => (mergeX (ls ++ [g[i].2])).map (g[i].1 :: ·) := by
  conv => lhs; unfold lin; simp only [linN]
  rw [List.getElem?_eq_getElem hi]
  dsimp only
  rw [supsN_congr (f := linN i g) (f' := lin g) fun s hs k hk => by
    obtain ⟨k', h1, h2⟩ := hg.atsup hi hs
    have ek : k' = k := by rw [h2] at hk; exact Option.some.inj hk
    subst ek
    exact linN_eq hg i k' h1]

/-! ### merging keeps to the names, each once -/
theorem takeOff_sub {s : ByteArray} {x : List ByteArray} : ∀ a ∈ takeOff s x, a ∈ x := by
  intro a ha
  cases x with
  | nil => exact ha
  | cons h t =>
    simp only [takeOff] at ha
    split at ha
    · exact List.mem_cons_of_mem _ ha
    · exact ha

theorem cand_good {l : List (List ByteArray)} {s : ByteArray} (h : candO l = some s) : ∀ y ∈ l, s ∉ y.tail := by
  unfold candO at h
  split at h
  · rename_i a t e
    cases h
    have := List.find?_some e
    simp only [good] at this
    intro y hy hs
    have h2 := List.all_eq_true.1 this y hy
    rw [any_eqB.2 hs] at h2; cases h2
  · cases h

theorem takeOff_not {l : List (List ByteArray)} {s : ByteArray} (h : candO l = some s) : ∀ x ∈ l.map (takeOff s), s ∉ x := by
  intro x hx
  obtain ⟨y, hy, rfl⟩ := List.mem_map.1 hx
  have hg := cand_good h y hy
  cases y with
  | nil => simp [takeOff]
  | cons a t =>
    simp only [takeOff]
    split
    · exact hg
    · rename_i hne
      intro hm
      rcases List.mem_cons.1 hm with e | hm
      · exact hne e.symm
      · exact hg hm

theorem merge_names : ∀ (n : Nat) (l : List (List ByteArray)) (out : List ByteArray), total l ≤ n → mergeX l = some out → out.Nodup ∧ ∀ a ∈ out, ∃ x ∈ l, a ∈ x := by
  intro n
  induction n with
  | zero =>
    intro l out hl h
    rw [mergeX_nil (total_zero (by omega))] at h
    cases h
    exact ⟨List.nodup_nil, fun a ha => by cases ha⟩
  | succ n ih =>
    intro l out hl h
    cases ha : l.any (fun x => decide (x.length > 0)) with
    | false =>
      rw [mergeX_nil ha] at h; cases h
      exact ⟨List.nodup_nil, fun a ha => by cases ha⟩
    | true =>
      cases hc : candO l with
      | none => rw [mergeX_none ha hc] at h; cases h
      | some s =>
        rw [mergeX_step ha hc] at h
        cases hm : mergeX (l.map (takeOff s)) with
        | none => rw [hm] at h; cases h
        | some rest =>
          rw [hm] at h; cases h
          have hlt := total_takeOff_lt (candO_mem hc)
          obtain ⟨h1, h2⟩ := ih _ rest (by omega) hm
          have hno := takeOff_not hc
          refine ⟨List.nodup_cons.2 ⟨fun hs => ?_, h1⟩, fun a ha' => ?_⟩
          · obtain ⟨x, hx, hax⟩ := h2 s hs
            exact hno x hx hax
          · rcases List.mem_cons.1 ha' with rfl | ha'
            · obtain ⟨x, hx, t, rfl⟩ := candO_mem hc
              exact ⟨_, hx, by simp⟩
            · obtain ⟨x, hx, hax⟩ := h2 a ha'
              obtain ⟨y, hy, rfl⟩ := List.mem_map.1 hx
              exact ⟨y, hy, takeOff_sub a hax⟩

theorem supsN_mem {f : Nat → Option (List ByteArray)} {g : List HeirT} : ∀ {l : List ByteArray} {ls : List (List ByteArray)}, supsN f g l = some ls → ls.length = l.length ∧ ∀ x ∈ ls, ∃ s ∈ l, ∃ k, atI g s = some k ∧ f k = some x
  | [], ls, h => by cases h; exact ⟨rfl, fun x hx => by cases hx⟩
  | s :: l, ls, h => by
    simp only [supsN] at h
    cases e : atI g s with
    | none => simp [e] at h
    | some k =>
      simp only [e] at h
      cases e2 : f k with
      | none => simp [e2] at h
      | some x =>
        simp only [e2] at h
        cases e3 : supsN f g l with
        | none => simp [e3] at h
        | some ls' =>
          simp only [e3, Option.map_some, Option.some.injEq] at h
          subst h
          obtain ⟨h1, h2⟩ := supsN_mem e3
          refine ⟨by simp [h1], fun y hy => ?_⟩
          rcases List.mem_cons.1 hy with rfl | hy
          · exact ⟨s, by simp, k, e, e2⟩
          · obtain ⟨s', h3, k', h4, h5⟩ := h2 y hy
            exact ⟨s', by simp [h3], k', h4, h5⟩

/-- a linearization names heirs, its own first, each once, none of them later -/
theorem lin_names {g : List HeirT} (hg : Heirs g) : ∀ (i : Nat) (hi : i < g.length) (l : List ByteArray), lin g i = some l → ∃ t, l = g[i].1 :: t ∧ l.Nodup ∧ ∀ a ∈ t, ∃ k, ∃ hk : k < i, g[k].1 = a := by
  intro i
  induction i using Nat.strongRecOn with
  | _ i ih =>
    intro hi l h
    rw [lin_eq hg hi] at h
    cases e : supsN (lin g) g g[i].2 with
    | none => simp [e] at h
    | some ls =>
      simp only [e] at h
      cases e2 : mergeX (ls ++ [g[i].2]) with
      | none => simp [e2] at h
      | some t =>
        simp only [e2, Option.map_some, Option.some.injEq] at h
        subst h
        obtain ⟨h1, h2⟩ := merge_names _ _ t (Nat.le_refl _) e2
        obtain ⟨_, h3⟩ := supsN_mem e
        have hk : ∀ a ∈ t, ∃ k, ∃ hk : k < i, g[k].1 = a := fun a ha => by
          obtain ⟨x, hx, hax⟩ := h2 a ha
          rcases List.mem_append.1 hx with hx | hx
          · obtain ⟨s, hs, k, h4, h5⟩ := h3 x hx
            obtain ⟨k', h6, h7⟩ := hg.atsup hi hs
            have ek : k' = k := by rw [h7] at h4; exact Option.some.inj h4
            subst ek
            obtain ⟨t', h8, _, h9⟩ := ih k' h6 (by omega) x h5
            subst h8
            rcases List.mem_cons.1 hax with rfl | hax
            · exact ⟨k', h6, rfl⟩
            · obtain ⟨k2, h10, h11⟩ := h9 a hax
              exact ⟨k2, by omega, h11⟩
          · simp at hx; subst hx
            exact hg.sup i hi a hax
        refine ⟨t, rfl, List.nodup_cons.2 ⟨fun hm => ?_, h1⟩, hk⟩
        obtain ⟨k, hki, e3⟩ := hk _ hm
        have := hg.uniq k i (by omega) hi e3
        omega

theorem nodup_le {l m : List ByteArray} (h : l.Nodup) (hs : ∀ a ∈ l, a ∈ m) : l.length ≤ m.length := by
  induction l generalizing m with
  | nil => simp
  | cons x l ih =>
    rw [List.nodup_cons] at h
    have hx := hs x (by simp)
    have h1 := ih (m := m.filter fun a => decide (a ≠ x)) h.2 fun a ha => by
      have hne : a ≠ x := by rintro rfl; exact h.1 ha
      exact List.mem_filter.2 ⟨hs a (by simp [ha]), by simpa using hne⟩
    have h2 : (m.filter fun a => decide (a ≠ x)).length < m.length := List.length_filter_lt_length_iff_exists.2 ⟨x, hx, by simp⟩
    simp; omega

theorem lin_len {g : List HeirT} (hg : Heirs g) {i : Nat} (hi : i < g.length) {l : List ByteArray} (h : lin g i = some l) : l.length ≤ 120 := by
  obtain ⟨t, rfl, hn, hk⟩ := lin_names hg i hi l h
  have := nodup_le (m := g.map (·.1)) hn fun a ha => by
    rcases List.mem_cons.1 ha with rfl | ha
    · exact List.mem_map.2 ⟨g[i], List.getElem_mem hi, rfl⟩
    · obtain ⟨k, hki, rfl⟩ := hk a ha
      exact List.mem_map.2 ⟨g[k], List.getElem_mem _, rfl⟩
  have := hg.len
  simp at *; omega

theorem lists_total {g : List HeirT} (hg : Heirs g) {i : Nat} (hi : i < g.length) {ls : List (List ByteArray)} (h : supsN (lin g) g g[i].2 = some ls) : total (ls ++ [g[i].2]) ≤ 1000000 := by
  obtain ⟨h1, h2⟩ := supsN_mem h
  have hf := hg.few i hi
  have : total (ls ++ [g[i].2]) ≤ (ls ++ [g[i].2]).length * 120 := total_le 120 _ fun x hx => by
    rcases List.mem_append.1 hx with hx | hx
    · obtain ⟨s, hs, k, h3, h4⟩ := h2 x hx
      obtain ⟨hk, _⟩ := atI_lt h3
      exact lin_len hg hk h4
    · simp at hx; subst hx; omega
  simp at this; omega

end Go.Proofs.Ytohldellkddmoaa.L

namespace Go.Proofs.Ytohldellkddmoaa.L
open Go
set_option linter.unusedSimpArgs false
set_option linter.unnecessarySimpa false
set_option linter.unusedVariables false
attribute [local irreducible] T TL
set_option maxRecDepth 10000

def goodL (g : List HeirT) (L : MK → Option PV) : Prop := ∀ b p, L (.s b) = some p → ∃ k l, atI g b = some k ∧ lin g k = some l ∧ p = LS l
def stuckV (k : Int) : PV := .iface 98 (.agg [.int .i64 k])
abbrev TL' (g : List HeirT) (gA gL gt : Nat) (L : MK → Option PV) : Store := TR g gA gL gt (atM g) L
def LineR (g : List HeirT) (gA gL gt : Nat) (res : Option PV) (o : Out) (S' : Store) : Prop := ∃ L', goodL g L' ∧ S' = TL' g gA gL gt L' ∧ match res with
  | some p => o = .ret p
  | none => ∃ k, o = .pan (stuckV k)

/-- the variables of the closure -/
def BX (b1 b2 gt i : Nat) : Store := upd (upd E b1 (.row 0 1 0 [[.ptr gt 0 0 0 3]])) b2 (.row 0 1 0 [[.int .i64 (i : Int)]])

theorem TR_upd {g : List HeirT} {gA gL gt h : Nat} {A L L' : MK → Option PV} (h0 : TR g gA gL gt A L h = none) : TR g gA gL gt A L' h = none := by
  unfold TR at h0 ⊢
  simp only [upd] at h0 ⊢
  split at h0 <;> simp_all
  split at h0 <;> simp_all

theorem TR_Dj {g : List HeirT} {gA gL gt : Nat} {A L L' : MK → Option PV} {B : Store} (d : Dj (TR g gA gL gt A L) B) : Dj (TR g gA gL gt A L') B := fun h x hx => by
  cases e : TR g gA gL gt A L h with
  | some y => exact d h y e
  | none => rw [TR_upd e] at hx; cases hx

theorem lists_spec (g : List HeirT) (gA gL gt : Nat) (L : MK → Option PV) (d : Dis gA gL gt) (i : Nat) :
    Fn PP 59 [.ptr gt 0 0 0 3, .int .i64 i] (TL' g gA gL gt L) fun o S' => ∃ b1 b2, b1 ≠ b2 ∧ Dj (TL' g gA gL gt L) (BX b1 b2 gt i) ∧
      o = .ret (.fn (.func 76) [] [.ptr b1 0 0 0 1, .ptr b2 0 0 0 1]) ∧ S' = uni (TL' g gA gL gt L) (BX b1 b2 gt i) := by
  refine Fn_of_T GT_ok Go.Proofs.Try.func59 rfl (by rfl) (by rfl) ?_
  refine go0 ?_; intros
  refine newW_intro fun b1 hb1 => ?_
  refine go0 ?_; intros
  refine newW_intro fun b2 hb2 => ?_
  refine go0 ?_; intros
  refine Exists.intro _ (And.intro (sle_refl _) ?_)
  have hne : b2 ≠ b1 := ne_name (upd_same _ _ _) hb2
  have hb2' : TL' g gA gL gt L b2 = none := by rw [upd_ne hne] at hb2; exact hb2
  refine ⟨b1, b2, Ne.symm hne, ?_, rfl, ?_⟩
  · exact Dj_upd (Dj_upd Dj_E hb1) hb2'
  · unfold BX
    rw [← upd_uni_r hb2', ← upd_uni_r hb1, uni_E]
    rfl

theorem yldW_intro {P : Program} {g : Nat} {args : List PV} {S S1 : Store} {R : Out → Store → Prop} {kr kp : PV → Store → Prop} (h : YFn P g args S1 R) (hs : sle S S1)
    (hk : ∀ o S', R o S' → (∀ g, (S' g).isSome = true → (S1 g).isSome = true ∨ S g = none) → ansW S S1 kr kp o S') : yldW P g args S kr kp := by
  unfold yldW
  exact ⟨S1, R, h, hs, fun o S' h1 h2 => by have := hk o S' h1 h2; cases o <;> exact this⟩

/-- what is asked of a round: it gathers -/
def Gath (ACC : List (List ByteArray) → Store) (gl : Nat) : Prop :=
  ∀ (xs : List (List ByteArray)) (x : List ByteArray), xs.length ≤ 100 → YFn PP gl [LS x] (ACC xs) fun o S' => o = .ret (.bool true) ∧ S' = ACC (xs ++ [x])

theorem seq_spec (g : List HeirT) (hg : Heirs g) (gA gL gt b1 b2 gl : Nat) (d : Dis gA gL gt) (hb : b1 ≠ b2) (i : Nat) (hi : i < g.length) (ACC : List (List ByteArray) → Store) (hY : Gath ACC gl)
    (L : MK → Option PV) (hL : goodL g L) (dT : ∀ L xs, Dj (TL' g gA gL gt L) (uni (BX b1 b2 gt i) (ACC xs))) (dB : ∀ xs, Dj (BX b1 b2 gt i) (ACC xs))
    (ih : ∀ k, k < i → ∀ L, goodL g L → Fn PP 53 [.ptr gt 0 0 0 3, .int .i64 k] (TL' g gA gL gt L) (LineR g gA gL gt ((lin g k).map LS))) :
    Fn PP 76 [.yld gl, .ptr b1 0 0 0 1, .ptr b2 0 0 0 1] (uni (TL' g gA gL gt L) (uni (BX b1 b2 gt i) (ACC []))) fun o S' => ∃ L' xs', goodL g L' ∧ S' = uni (TL' g gA gL gt L') (uni (BX b1 b2 gt i) (ACC xs')) ∧
      match listsX g i with
      | some ls => o = .ret (.tup []) ∧ xs' = ls
      | none => ∃ k, o = .pan (stuckV k) := by
  refine Fn_of_T GT_ok Go.Proofs.Try.func76 rfl (by rfl) (by rfl) ?_
  have l1 : ∀ L xs, uni (TL' g gA gL gt L) (uni (BX b1 b2 gt i) (ACC xs)) b1 = some (.row 0 1 0 [[.ptr gt 0 0 0 3]]) := fun L xs => uni_sle_r (dT L xs) _ _ (uni_l (by unfold BX; rw [upd_ne hb, upd_same]))
  have l2 : ∀ L xs, uni (TL' g gA gL gt L) (uni (BX b1 b2 gt i) (ACC xs)) b2 = some (.row 0 1 0 [[.int .i64 (i : Int)]]) := fun L xs => uni_sle_r (dT L xs) _ _ (uni_l (by unfold BX; rw [upd_same]))
  have lt : ∀ L xs, uni (TL' g gA gL gt L) (uni (BX b1 b2 gt i) (ACC xs)) gt = some (.row 0 3 0 [[HS g, .map gA, .map gL]]) := fun L xs => uni_l (TR_t d)
  have lA : ∀ L xs, uni (TL' g gA gL gt L) (uni (BX b1 b2 gt i) (ACC xs)) gA = some (.map true (atM g)) := fun L xs => uni_l (TR_A d)
  have c1 := l1 L []
  have c2 := l2 L []
  have c3 := lt L []
  refine go0 ?_; intros
  refine stop (T_drawW GT_ok (by rfl) 10 (by decide) ?_)
  conv => whnf
  refine exA ?_
  refine go0 ?_; intros
  refine exA ?_
  refine go0 ?_; intros
  refine exA ?_
  refine go0 ?_; intros
  refine exA ?_
  refine go0 ?_; intros
  refine exA ?_
  refine go0 ?_; intros
  apply Exists.intro; apply And.intro
  · conv => whnf
    refine go0 ?_; intros
    refine idxW_map hi ?_
    exact goE
  conv => whnf
  refine exA ?_
  refine go0 ?_; intros
  refine exA ?_
  refine go0 ?_; intros
  refine exA ?_
  refine go0 ?_; intros
  refine exA ?_
  refine go0 ?_; intros
  refine go0 ?_; intros
  have hfew := hg.few i hi
  refine stop (T_loop (α := (MK → Option PV) × List (List ByteArray) × Nat) (inv := fun x => x.2.2 ≤ g[i].2.length ∧ goodL g x.1 ∧ x.2.1.length = x.2.2 ∧ supsN (lin g) g g[i].2 = (supsN (lin g) g (g[i].2.drop x.2.2)).map (x.2.1 ++ ·))
    (tm := fun x => mkT 42 [(0, .yld gl), (1, .ptr b1 0 0 0 1), (2, .ptr b2 0 0 0 1), (13, LS g[i].2), (14, .int .i64 g[i].2.length), (15, .int .i64 x.2.2)])
    (st := fun x => uni (TL' g gA gL gt x.1) (uni (BX b1 b2 gt i) (ACC x.2.1))) (μ := fun x => g[i].2.length - x.2.2) (L, [], 0) ⟨by simp, hL, rfl, by simp⟩ ?_ (sle_refl _) ?_)
  · repeat' (first | exact trivial | exact rfl | refine And.intro ?_ ?_)
    simp
  rintro ⟨L1, xs, j⟩ ⟨hj, hL1, hxs, hsup⟩
  dsimp only at hj hL1 hxs hsup ⊢
  have c4 := l1 L1 xs
  have c5 := l2 L1 xs
  have c6 := lt L1 xs
  have c7 := lA L1 xs
  have dAB : ∀ L xs, Dj (uni (TL' g gA gL gt L) (BX b1 b2 gt i)) (ACC xs) := fun L xs => Dj_uni (dT L xs) (dB xs)
  have step : ∀ L xs x, mrg (uni (TL' g gA gL gt L) (uni (BX b1 b2 gt i) (ACC xs))) (ACC xs) (ACC (xs ++ [x])) = uni (TL' g gA gL gt L) (uni (BX b1 b2 gt i) (ACC (xs ++ [x]))) := fun L xs x => by
    rw [← uni_assoc, mrg_r (dAB L xs) (dAB L _), uni_assoc]
  refine go0 ?_; intros
  refine And.intro (fun hc => ?_) (fun hc => ?_)
  · have hjl : j < g[i].2.length := by simpa using hc
    obtain ⟨k, hki, hat⟩ := hg.atsup hi (List.getElem_mem hjl)
    rw [List.drop_eq_getElem_cons hjl] at hsup
    simp only [supsN, hat] at hsup
    refine go0 ?_; intros
    refine idxW_map hjl ?_
    refine go0 ?_; intros
    refine stop (T_drawF GT_ok (by rfl) 8 [0] (by kernel_rfl) (by decide) (fun _ _ _ _ _ h => h) ?_)
    conv => whnf
    refine exA ?_
    refine go0 ?_; intros
    refine exA ?_
    refine go0 ?_; intros
    refine exA ?_
    refine go0 ?_; intros
    refine exA ?_
    refine go0 ?_; intros
    refine exA ?_
    refine go0 ?_; intros
    refine exA ?_
    refine go0 ?_; intros
    apply Exists.intro; apply And.intro
    · conv => whnf
      refine go0 ?_; intros
      refine lkW_some c7 (p := .int .i64 (k : Int)) (by simp [atM, hat]) ?_
      conv => whnf
    refine go0 ?_; intros
    refine callW_intro (ih k hki L1 hL1) uni_sle_l ?_
    rintro o S' ⟨L2, hL2, rfl, ho⟩ hdom
    unfold ansW
    rw [mrg_l (dT L1 xs)]
    cases hlk : lin g k with
    | none =>
      rw [hlk] at ho hsup
      obtain ⟨k', rfl⟩ := ho
      conv => whnf
      refine ⟨rfl, _, sle_refl _, L2, xs, hL2, rfl, ?_⟩
      have : listsX g i = none := by
        unfold listsX
        rw [List.getElem?_eq_getElem hi]
        dsimp only
        rw [hsup]; rfl
      rw [this]; exact ⟨k', rfl⟩
    | some x =>
      rw [hlk] at ho hsup
      simp only [Option.map_some] at ho
      subst ho
      refine go0 ?_; intros
      refine yldW_intro (hY xs x (by omega)) ((uni_sle_r (dT L2 xs)).trans (uni_sle_r (dB xs))) ?_
      rintro o S' ⟨rfl, rfl⟩ -
      unfold ansW
      rw [step]
      refine go0 ?_; intros
      refine ⟨(L2, xs ++ [x], j + 1), ⟨by dsimp only; omega, hL2, by simp [hxs], ?_⟩, by dsimp only; omega, ?_, sle_refl _⟩
      · rw [hsup]
        dsimp only
        cases supsN (lin g) g (List.drop (j + 1) g[i].2) with
        | none => rfl
        | some ls => simp
      · repeat' (first | exact trivial | exact rfl | refine And.intro ?_ ?_)
  · have hge : ¬ j < g[i].2.length := by simpa using hc
    have hls : listsX g i = some (xs ++ [g[i].2]) := by
      unfold listsX
      rw [List.getElem?_eq_getElem hi]
      dsimp only
      rw [hsup, List.drop_of_length_le (by omega)]
      simp [supsN]
    refine go0 ?_; intros
    refine stop (T_drawW GT_ok (by rfl) 10 (by decide) ?_)
    conv => whnf
    refine exA ?_
    refine go0 ?_; intros
    refine exA ?_
    refine go0 ?_; intros
    refine exA ?_
    refine go0 ?_; intros
    refine exA ?_
    refine go0 ?_; intros
    refine exA ?_
    refine go0 ?_; intros
    refine exA ?_
    refine go0 ?_; intros
    apply Exists.intro; apply And.intro
    · conv => whnf
      refine go0 ?_; intros
      refine idxW_map hi ?_
      exact goE
    conv => whnf
    refine exA ?_
    refine go0 ?_; intros
    refine exA ?_
    refine go0 ?_; intros
    apply Exists.intro; apply And.intro
    · conv => whnf
      exact ⟨E, sle_E _, cloneS_spec _⟩
    refine go0 ?_; intros
    refine yldW_intro (hY xs g[i].2 (by omega)) ((uni_sle_r (dT L1 xs)).trans (uni_sle_r (dB xs))) ?_
    rintro o S' ⟨rfl, rfl⟩ -
    unfold ansW
    rw [step]
    refine go0 ?_; intros
    refine ⟨_, sle_refl _, L1, xs ++ [g[i].2], hL1, rfl, ?_⟩
    rw [hls]
    exact ⟨rfl, rfl⟩

end Go.Proofs.Ytohldellkddmoaa.L

namespace Go.Proofs.Ytohldellkddmoaa.L
open Go
set_option linter.unusedSimpArgs false
set_option linter.unnecessarySimpa false
set_option linter.unusedVariables false
attribute [local irreducible] T TL
set_option maxRecDepth 10000

/-- what is gathered, and the loop's record -/
def GA (gR b0 : Nat) (xs : List (List ByteArray)) : Store := upd (upd E gR (.row xs.length 1 24 (xs.map eL))) b0 (.row 0 1 0 [[.row gR xs.length 0 xs.length 1]])
def AC (gR b0 gl : Nat) (rec : AO) (xs : List (List ByteArray)) : Store := upd (GA gR b0 xs) gl rec

theorem GA_none {gR b0 h : Nat} {xs : List (List ByteArray)} : GA gR b0 xs h = none ↔ h ≠ gR ∧ h ≠ b0 := by
  unfold GA
  by_cases h1 : h = b0
  · subst h1; simp
  · rw [upd_ne h1]
    by_cases h2 : h = gR
    · subst h2; simp
    · rw [upd_ne h2]; simp [h1, h2, E]
theorem AC_none {gR b0 gl h : Nat} {rec : AO} {xs : List (List ByteArray)} : AC gR b0 gl rec xs h = none ↔ h ≠ gR ∧ h ≠ b0 ∧ h ≠ gl := by
  unfold AC
  by_cases h1 : h = gl
  · subst h1; simp
  · rw [upd_ne h1, GA_none]; simp [h1]

theorem Dj_GA {A : Store} {gR b0 : Nat} {xs : List (List ByteArray)} (h1 : A gR = none) (h2 : A b0 = none) : Dj A (GA gR b0 xs) := fun h x hx => by
  rw [GA_none]
  exact ⟨fun e => (by rw [e, h1] at hx; cases hx), fun e => (by rw [e, h2] at hx; cases hx)⟩
theorem Dj_AC {A : Store} {gR b0 gl : Nat} {rec : AO} {xs : List (List ByteArray)} (h1 : A gR = none) (h2 : A b0 = none) (h3 : A gl = none) : Dj A (AC gR b0 gl rec xs) := fun h x hx => by
  rw [AC_none]
  exact ⟨fun e => (by rw [e, h1] at hx; cases hx), fun e => (by rw [e, h2] at hx; cases hx), fun e => (by rw [e, h3] at hx; cases hx)⟩

theorem Dj_uni_r {A B C : Store} (h : Dj A B) (k : Dj A C) : Dj A (uni B C) := fun g x hx => by rw [uni_none]; exact ⟨h g x hx, k g x hx⟩

/-- the loop that gathers what lists yields -/
theorem rf_gather (g : List HeirT) (hg : Heirs g) (gA gL gt b1 b2 : Nat) (d : Dis gA gL gt) (hb : b1 ≠ b2) (i : Nat) (hi : i < g.length) (L : MK → Option PV) (hL : goodL g L) (hd : Dj (TL' g gA gL gt L) (BX b1 b2 gt i))
    (ih : ∀ k, k < i → ∀ L, goodL g L → Fn PP 53 [.ptr gt 0 0 0 3, .int .i64 k] (TL' g gA gL gt L) (LineR g gA gL gt ((lin g k).map LS)))
    {gR b0 : Nat} (hR : uni (TL' g gA gL gt L) (BX b1 b2 gt i) gR = none) (h0 : uni (TL' g gA gL gt L) (BX b1 b2 gt i) b0 = none) (h0R : b0 ≠ gR) {S : Store} (hS : S = uni (uni (TL' g gA gL gt L) (BX b1 b2 gt i)) (GA gR b0 []))
    {fn gd gl : Nat} {t : List PV} {ps : Array Tmp} {asg bd : Code} {Q : Post} {D : List DA} (hgd : S gd = none) (hgl : S gl = none) (hne : gd ≠ gl) (hps : ps.size = 1)
    (hround : ∀ l xs x, xs.length ≤ 100 → T PP (some l) asg (roundA PP l gl bd fun o S' => o = .ret (.bool true) ∧ S' = AC gR b0 gl (.loop .ready none fn t ps asg bd gd) (xs ++ [x])) (zipT t ps.toList [LS x]) (AC gR b0 gl (.loop .ready none fn t ps asg bd gd) xs) [])
    (hret : ∀ L' ls, goodL g L' → listsX g i = some ls → Q .normal t (upd (uni (uni (TL' g gA gL gt L') (BX b1 b2 gt i)) (GA gR b0 ls)) gd .dfr) (.mark gd :: D))
    (hpan : ∀ L' k S', goodL g L' → listsX g i = none → sle S' (upd (uni (TL' g gA gL gt L') (BX b1 b2 gt i)) gd .dfr) → Q (.panic (stuckV k)) t S' (.mark gd :: D)) :
    ∃ S1 R, Fn PP 76 ([] ++ [.yld gl] ++ [.ptr b1 0 0 0 1, .ptr b2 0 0 0 1]) S1 R ∧ sle (upd (upd S gd .dfr) gl (.loop .ready none fn t ps asg bd gd)) S1 ∧
          ∀ o S', R o S' → (∀ g, (S' g).isSome = true → (S1 g).isSome = true ∨ upd (upd S gd .dfr) gl (.loop .ready none fn t ps asg bd gd) g = none) →
            rfX PP Q t (mrg (upd (upd S gd .dfr) gl (.loop .ready none fn t ps asg bd gd)) S1 S') gl gd D o := by
  generalize hrec : (AO.loop .ready none fn t ps asg bd gd) = rec at *
  obtain ⟨hR1, hR2⟩ := uni_none.1 hR
  obtain ⟨h01, h02⟩ := uni_none.1 h0
  subst hS
  obtain ⟨hgl0, hgl3⟩ := uni_none.1 hgl
  obtain ⟨hgl1, hgl2⟩ := uni_none.1 hgl0
  obtain ⟨hgd0, hgd3⟩ := uni_none.1 hgd
  obtain ⟨hgd1, hgd2⟩ := uni_none.1 hgd0
  rw [GA_none] at hgl3 hgd3
  have dT : ∀ L' xs, Dj (TL' g gA gL gt L') (uni (BX b1 b2 gt i) (AC gR b0 gl rec xs)) := fun L' xs => Dj_uni_r (TR_Dj hd) (Dj_AC (TR_upd hR1) (TR_upd h01) (TR_upd hgl1))
  have dB : ∀ xs, Dj (BX b1 b2 gt i) (AC gR b0 gl rec xs) := fun xs => Dj_AC hR2 h02 hgl2
  have hY : Gath (AC gR b0 gl rec) gl := fun xs x hx => by
    subst hrec
    exact YFn_of_T (by unfold AC; exact upd_same _ _ _) (by simp [hps]) fun l => hround l xs x hx
  have hrecv : rec.ver = 0 := by subst hrec; rfl
  refine ⟨_, _, seq_spec g hg gA gL gt b1 b2 gl d hb i hi (AC gR b0 gl rec) hY L hL dT dB ih, ?_, ?_⟩
  · -- the call's part of the store
    intro h x hx
    rw [← uni_assoc] at hx
    by_cases e1 : h = gl
    · subst e1
      rw [upd_same]
      rw [uni_r hgl0] at hx
      unfold AC at hx; rw [upd_same] at hx; exact hx
    · rw [upd_ne e1]
      have e2 : h ≠ gd := by
        rintro rfl
        rw [uni_r hgd0, AC_none.2 ⟨hgd3.1, hgd3.2, hne⟩] at hx; cases hx
      rw [upd_ne e2]
      cases e3 : uni (TL' g gA gL gt L) (BX b1 b2 gt i) h with
      | some y => rw [uni_l e3] at hx ⊢; exact hx
      | none =>
        rw [uni_r e3] at hx ⊢
        unfold AC at hx; rw [upd_ne e1] at hx; exact hx
  · rintro o S' ⟨L', xs', hL', rfl, ho⟩ hdom
    -- what the store reads behind the call
    have rd : ∀ h x, h ≠ gl → (uni (uni (TL' g gA gL gt L') (BX b1 b2 gt i)) (GA gR b0 xs')) h = some x → mrg (upd (upd (uni (uni (TL' g gA gL gt L) (BX b1 b2 gt i)) (GA gR b0 [])) gd .dfr) gl rec) (uni (TL' g gA gL gt L) (uni (BX b1 b2 gt i) (AC gR b0 gl rec []))) (uni (TL' g gA gL gt L') (uni (BX b1 b2 gt i) (AC gR b0 gl rec xs'))) h = some x := by
      intro h x e1 hx
      have : uni (TL' g gA gL gt L') (uni (BX b1 b2 gt i) (AC gR b0 gl rec xs')) h = some x := by
        rw [← uni_assoc]
        cases e3 : uni (TL' g gA gL gt L') (BX b1 b2 gt i) h with
        | some y => rw [uni_l e3] at hx ⊢; exact hx
        | none =>
          rw [uni_r e3] at hx ⊢
          unfold AC; rw [upd_ne e1]; exact hx
      simp only [mrg, this]
    have nT : ∀ {h : Nat} {L' : MK → Option PV}, uni (TL' g gA gL gt L) (BX b1 b2 gt i) h = none → uni (TL' g gA gL gt L') (BX b1 b2 gt i) h = none := fun hh => by
      obtain ⟨k1, k2⟩ := uni_none.1 hh
      exact uni_none.2 ⟨TR_upd k1, k2⟩
    have rgl : mrg (upd (upd (uni (uni (TL' g gA gL gt L) (BX b1 b2 gt i)) (GA gR b0 [])) gd .dfr) gl rec) (uni (TL' g gA gL gt L) (uni (BX b1 b2 gt i) (AC gR b0 gl rec []))) (uni (TL' g gA gL gt L') (uni (BX b1 b2 gt i) (AC gR b0 gl rec xs'))) gl = some rec := by
      have : uni (TL' g gA gL gt L') (uni (BX b1 b2 gt i) (AC gR b0 gl rec xs')) gl = some rec := by
        rw [← uni_assoc, uni_r (nT hgl0)]; unfold AC; exact upd_same _ _ _
      simp only [mrg, this]
    have rgd : mrg (upd (upd (uni (uni (TL' g gA gL gt L) (BX b1 b2 gt i)) (GA gR b0 [])) gd .dfr) gl rec) (uni (TL' g gA gL gt L) (uni (BX b1 b2 gt i) (AC gR b0 gl rec []))) (uni (TL' g gA gL gt L') (uni (BX b1 b2 gt i) (AC gR b0 gl rec xs'))) gd = some .dfr := by
      have k1 : uni (TL' g gA gL gt L') (uni (BX b1 b2 gt i) (AC gR b0 gl rec xs')) gd = none := by
        rw [← uni_assoc, uni_r (nT hgd0)]; exact AC_none.2 ⟨hgd3.1, hgd3.2, hne⟩
      have k2 : uni (TL' g gA gL gt L) (uni (BX b1 b2 gt i) (AC gR b0 gl rec [])) gd = none := by
        rw [← uni_assoc, uni_r hgd0]; exact AC_none.2 ⟨hgd3.1, hgd3.2, hne⟩
      simp only [mrg, k1, k2]
      rw [upd_ne hne, upd_same]; rfl
    cases hls : listsX g i with
    | some ls =>
      rw [hls] at ho
      obtain ⟨rfl, rfl⟩ := ho
      subst hrec
      refine ⟨_, _, _, _, _, _, _, _, _, rgl, by simp, ?_, hret L' xs' hL' hls⟩
      intro h x hx
      by_cases e1 : h = gd
      · subst e1
        rw [upd_same] at hx; cases hx
        rw [upd_ne hne]; exact rgd
      · rw [upd_ne e1] at hx
        have e2 : h ≠ gl := by
          rintro rfl
          rw [uni_r (nT hgl0), GA_none.2 hgl3] at hx; cases hx
        rw [upd_ne e2]; exact rd h x e2 hx
    | none =>
      rw [hls] at ho
      obtain ⟨k, rfl⟩ := ho
      refine hpan L' k _ hL' hls ?_
      intro h x hx
      by_cases e1 : h = gd
      · subst e1
        rw [upd_same] at hx; cases hx
        exact rgd
      · rw [upd_ne e1] at hx
        have e2 : h ≠ gl := by
          rintro rfl
          rw [nT hgl0] at hx; cases hx
        exact rd h x e2 (uni_l hx)

end Go.Proofs.Ytohldellkddmoaa.L

namespace Go.Proofs.Ytohldellkddmoaa.L
open Go
set_option linter.unusedSimpArgs false
set_option linter.unnecessarySimpa false
set_option linter.unusedVariables false
set_option maxRecDepth 10000

theorem roundA_AC {gR b0 gl l : Nat} {fn : FuncId} {t0 t : List PV} {ps : Array Tmp} {asg bd : Code} {gd : Nat} {xs : List (List ByteArray)} {x : List ByteArray}
    (h : ∀ bz, T PP (some l) bd (fun e _ S _ => match e with | .normal => sle S (upd (GA gR b0 (xs ++ [x])) gl bz) | _ => False) t (upd (GA gR b0 xs) gl bz) []) :
    roundA PP l gl bd (fun o S' => o = .ret (.bool true) ∧ S' = AC gR b0 gl (.loop .ready none fn t0 ps asg bd gd) (xs ++ [x])) .normal t (AC gR b0 gl (.loop .ready none fn t0 ps asg bd gd) xs) [] := by
  refine ⟨_, _, _, _, _, _, _, upd_same (GA gR b0 xs) gl _, ?_⟩
  show T PP (some l) bd _ t (upd (upd (GA gR b0 xs) gl _) gl _) []
  rw [upd_upd]
  refine T.mono (h _) fun e t' S D hx => ?_
  cases e with
  | normal =>
    have hx' : sle S (upd (GA gR b0 (xs ++ [x])) gl _) := hx
    refine ⟨_, _, _, _, _, _, _, _, _, hx' gl _ (upd_same _ _ _), ?_, rfl, rfl⟩
    intro k y hy
    unfold AC at hy
    by_cases e : k = gl
    · subst e; rw [upd_same] at hy ⊢; exact hy
    · rw [upd_ne e] at hy ⊢
      exact hx' k y (by rw [upd_ne e]; exact hy)
  | _ => exact hx.elim

attribute [local irreducible] T TL roundA

/-- what gathering comes to -/
def GathR (g : List HeirT) (gA gL gt b1 b2 i : Nat) (o : Out) (S' : Store) : Prop := ∃ L', goodL g L' ∧ S' = uni (TL' g gA gL gt L') (BX b1 b2 gt i) ∧ match listsX g i with
  | some ls => o = .ret (LLS ls)
  | none => ∃ k, o = .pan (stuckV k)

/-- the same, what is handed back not yet frozen -/
def GathRow (g : List HeirT) (gA gL gt b1 b2 i : Nat) (o : Out) (S' : Store) : Prop := ∃ L', goodL g L' ∧ match listsX g i with
  | some ls => ∃ gR, uni (TL' g gA gL gt L') (BX b1 b2 gt i) gR = none ∧ S' = uni (uni (TL' g gA gL gt L') (BX b1 b2 gt i)) (upd E gR (.row ls.length 1 24 (ls.map eL))) ∧ o = .ret (.row gR ls.length 0 ls.length 1)
  | none => S' = uni (TL' g gA gL gt L') (BX b1 b2 gt i) ∧ ∃ k, o = .pan (stuckV k)

theorem appendSeq_spec (g : List HeirT) (hg : Heirs g) (gA gL gt b1 b2 : Nat) (d : Dis gA gL gt) (hb : b1 ≠ b2) (i : Nat) (hi : i < g.length) (L : MK → Option PV) (hL : goodL g L) (hd : Dj (TL' g gA gL gt L) (BX b1 b2 gt i))
    (ih : ∀ k, k < i → ∀ L, goodL g L → Fn PP 53 [.ptr gt 0 0 0 3, .int .i64 k] (TL' g gA gL gt L) (LineR g gA gL gt ((lin g k).map LS))) :
    Fn PP 75 [.nils, .fn (.func 76) [] [.ptr b1 0 0 0 1, .ptr b2 0 0 0 1]] (uni (TL' g gA gL gt L) (BX b1 b2 gt i)) (GathRow g gA gL gt b1 b2 i) := by
  refine Fn_end (Fn_of_TD GT_ok Go.Proofs.Try.func75 rfl (by rfl) (by rfl) ?_)
  refine T_nilrow 0 1 24 rfl fun gR hgR => ?_
  refine go0 ?_; intros
  refine newW_intro fun b0 hb0 => ?_
  have h0R : b0 ≠ gR := ne_name (upd_same _ _ _) hb0
  have h0 : uni (TL' g gA gL gt L) (BX b1 b2 gt i) b0 = none := by rw [upd_ne h0R] at hb0; exact hb0
  have hS : upd (upd (uni (TL' g gA gL gt L) (BX b1 b2 gt i)) gR (.row 0 1 24 [])) b0 (.row 0 1 0 [[.row gR 0 0 0 1]]) = uni (uni (TL' g gA gL gt L) (BX b1 b2 gt i)) (GA gR b0 []) := by
    unfold GA
    rw [← upd_uni_r h0, ← upd_uni_r hgR, uni_E]; rfl
  refine go0 ?_; intros
  refine stop (T_rangeFunc ?_)
  conv => whnf
  intro fn gd gl hgd hgl hne
  refine rf_gather g hg gA gL gt b1 b2 d hb i hi L hL hd ih hgR h0 h0R hS hgd hgl hne rfl ?_ ?_ ?_
  · intro l xs x hx
    have n1 : gl ≠ b0 := ne_name (upd_same _ _ _) hgl
    have n2 : gl ≠ gR := ne_name (by rw [upd_ne (Ne.symm h0R)]; exact upd_same _ _ _) hgl
    refine go0 ?_; intros
    refine roundA_AC fun bz => ?_
    have cB : (upd (GA gR b0 xs) gl bz) b0 = some (.row 0 1 0 [[.row gR xs.length 0 xs.length 1]]) := by rw [upd_ne (Ne.symm n1)]; exact upd_same _ _ _
    have cR : (upd (GA gR b0 xs) gl bz) gR = some (.row xs.length 1 24 (xs.map eL)) := by rw [upd_ne (Ne.symm n2)]; unfold GA; rw [upd_ne (Ne.symm h0R), upd_same]
    refine go0 ?_; intros
    refine .inl ?_
    refine go0 ?_; intros
    refine srcW_list (And.intro (by simp [solidsW, solidW]; rfl) ?_)
    refine go0 ?_; intros
    refine rowW_intro cR ?_
    refine And.intro (by simp) (And.intro rfl (And.intro (show (xs.length + 1) * 24 ≤ 140737488355328 by omega) ?_))
    refine go0 ?_; intros
    refine And.intro ⟨liveW_row (upd_same _ _ _), trivial⟩ ?_
    refine stW_intro (xs := [[.row gR xs.length 0 xs.length 1]]) (by rw [upd_ne h0R]; exact cB) rfl (Nat.le_refl 1) ?_
    rintro new rfl
    refine go0 ?_
    intro k y hy
    by_cases e1 : k = b0
    · subst e1
      rw [upd_ne (Ne.symm n1)] at hy
      unfold GA at hy
      rw [upd_same] at hy ⊢
      rw [← hy]; simp
    · rw [upd_ne e1]
      by_cases e2 : k = gR
      · subst e2
        rw [upd_ne (Ne.symm n2)] at hy
        unfold GA at hy
        rw [upd_ne e1, upd_same] at hy
        rw [upd_same, ← hy]; simp
      · rw [upd_ne e2]
        by_cases e3 : k = gl
        · subst e3; rw [upd_same] at hy ⊢; exact hy
        · rw [upd_ne e3, GA_none.2 ⟨e2, e1⟩] at hy; cases hy
  · intro L' ls hL' hls
    have nT : ∀ {h : Nat}, uni (TL' g gA gL gt L) (BX b1 b2 gt i) h = none → uni (TL' g gA gL gt L') (BX b1 b2 gt i) h = none := fun hh => by
      obtain ⟨k1, k2⟩ := uni_none.1 hh
      exact uni_none.2 ⟨TR_upd k1, k2⟩
    have m1 : gd ≠ b0 := ne_name (upd_same _ _ _) hgd
    have m2 : gd ≠ gR := ne_name (by rw [upd_ne (Ne.symm h0R)]; exact upd_same _ _ _) hgd
    have cB : (upd (uni (uni (TL' g gA gL gt L') (BX b1 b2 gt i)) (GA gR b0 ls)) gd AO.dfr) b0 = some (.row 0 1 0 [[.row gR ls.length 0 ls.length 1]]) := by
      rw [upd_ne (Ne.symm m1), uni_r (nT h0)]; exact upd_same _ _ _
    show T PP none _ _ _ _ _
    refine go0 ?_; intros
    have x1 : uni (uni (TL' g gA gL gt L') (BX b1 b2 gt i)) (GA gR b0 ls) gd = none := by
      have hgd' : uni (uni (TL' g gA gL gt L) (BX b1 b2 gt i)) (GA gR b0 []) gd = none := by rw [← hS]; exact hgd
      exact uni_none.2 ⟨nT (uni_none.1 hgd').1, GA_none.2 ⟨m2, m1⟩⟩
    have x2 : uni (uni (TL' g gA gL gt L') (BX b1 b2 gt i)) (GA gR b0 ls) gR = some (.row ls.length 1 24 (ls.map eL)) := by
      rw [uni_r (nT hgR)]; unfold GA; rw [upd_ne (Ne.symm h0R), upd_same]
    refine And.intro (by unfold dfrW; exact upd_same _ _ _) ?_
    conv => whnf
    refine ⟨uni (uni (TL' g gA gL gt L') (BX b1 b2 gt i)) (GA gR b0 ls), ?_, OView.weak (S' := uni (uni (TL' g gA gL gt L') (BX b1 b2 gt i)) (upd E gR (.row ls.length 1 24 (ls.map eL)))) ?_ (OView.same ⟨L', hL', by rw [hls]; exact ⟨gR, nT hgR, rfl, rfl⟩⟩)⟩
    · intro h x hx
      have e : h ≠ gd := by rintro rfl; rw [x1] at hx; cases hx
      unfold del
      rw [if_neg e, upd_ne e]; exact hx
    · intro h x hx
      cases e : uni (TL' g gA gL gt L') (BX b1 b2 gt i) h with
      | some y => rw [uni_l e] at hx ⊢; exact hx
      | none =>
        rw [uni_r e] at hx ⊢
        by_cases e2 : h = gR
        · subst e2
          rw [upd_same] at hx
          rw [← hx]; unfold GA; rw [upd_ne (Ne.symm h0R), upd_same]
        · rw [upd_ne e2] at hx; cases hx
  · intro L' k S' hL' hls hsle
    have nT : ∀ {h : Nat}, uni (TL' g gA gL gt L) (BX b1 b2 gt i) h = none → uni (TL' g gA gL gt L') (BX b1 b2 gt i) h = none := fun hh => by
      obtain ⟨k1, k2⟩ := uni_none.1 hh
      exact uni_none.2 ⟨TR_upd k1, k2⟩
    have hgd' : uni (uni (TL' g gA gL gt L) (BX b1 b2 gt i)) (GA gR b0 []) gd = none := by rw [← hS]; exact hgd
    have x1 : uni (TL' g gA gL gt L') (BX b1 b2 gt i) gd = none := nT (uni_none.1 hgd').1
    conv => whnf
    refine And.intro (by unfold dfrW; exact hsle gd _ (upd_same _ _ _)) ?_
    conv => whnf
    refine ⟨uni (TL' g gA gL gt L') (BX b1 b2 gt i), ?_, OView.same ⟨L', hL', by rw [hls]; exact ⟨rfl, k, rfl⟩⟩⟩
    intro h x hx
    have e : h ≠ gd := by rintro rfl; rw [x1] at hx; cases hx
    unfold del
    rw [if_neg e]; exact hsle h x (by rw [upd_ne e]; exact hx)

theorem collect_row (g : List HeirT) (hg : Heirs g) (gA gL gt b1 b2 : Nat) (d : Dis gA gL gt) (hb : b1 ≠ b2) (i : Nat) (hi : i < g.length) (L : MK → Option PV) (hL : goodL g L) (hd : Dj (TL' g gA gL gt L) (BX b1 b2 gt i))
    (ih : ∀ k, k < i → ∀ L, goodL g L → Fn PP 53 [.ptr gt 0 0 0 3, .int .i64 k] (TL' g gA gL gt L) (LineR g gA gL gt ((lin g k).map LS))) :
    Fn PP 58 [.fn (.func 76) [] [.ptr b1 0 0 0 1, .ptr b2 0 0 0 1]] (uni (TL' g gA gL gt L) (BX b1 b2 gt i)) (GathRow g gA gL gt b1 b2 i) := by
  refine Fn_of_T GT_ok Go.Proofs.Try.func58 rfl (by rfl) (by rfl) ?_
  refine go0 ?_; intros
  refine callW_intro (appendSeq_spec g hg gA gL gt b1 b2 d hb i hi L hL hd ih) (sle_refl _) ?_
  rintro o S' hR -
  unfold ansW
  rw [mrg_all]
  obtain ⟨L', hL', ho⟩ := hR
  cases hls : listsX g i with
  | some ls =>
    rw [hls] at ho
    obtain ⟨gR, h1, rfl, rfl⟩ := ho
    refine go0 ?_; intros
    exact ⟨_, sle_refl _, L', hL', by rw [hls]; exact ⟨gR, h1, rfl, rfl⟩⟩
  | none =>
    rw [hls] at ho
    obtain ⟨rfl, k, rfl⟩ := ho
    conv => whnf
    exact ⟨rfl, _, sle_refl _, L', hL', by rw [hls]; exact ⟨rfl, k, rfl⟩⟩

theorem collect_spec (g : List HeirT) (hg : Heirs g) (gA gL gt b1 b2 : Nat) (d : Dis gA gL gt) (hb : b1 ≠ b2) (i : Nat) (hi : i < g.length) (L : MK → Option PV) (hL : goodL g L) (hd : Dj (TL' g gA gL gt L) (BX b1 b2 gt i))
    (ih : ∀ k, k < i → ∀ L, goodL g L → Fn PP 53 [.ptr gt 0 0 0 3, .int .i64 k] (TL' g gA gL gt L) (LineR g gA gL gt ((lin g k).map LS))) :
    Fn PP 58 [.fn (.func 76) [] [.ptr b1 0 0 0 1, .ptr b2 0 0 0 1]] (uni (TL' g gA gL gt L) (BX b1 b2 gt i)) (GathR g gA gL gt b1 b2 i) := by
  refine Fn_end (fn_view (collect_row g hg gA gL gt b1 b2 d hb i hi L hL hd ih) ?_)
  rintro o S' ⟨L', hL', ho⟩
  cases hls : listsX g i with
  | some ls =>
    rw [hls] at ho
    obtain ⟨gR, h1, rfl, rfl⟩ := ho
    refine OView.freeze (by rw [uni_r h1, upd_same]) (fz_row (by simp)) (OView.weak (S' := uni (TL' g gA gL gt L') (BX b1 b2 gt i)) ?_ (OView.same ⟨L', hL', rfl, by rw [hls]⟩))
    intro h x hx
    have e : h ≠ gR := by rintro rfl; rw [h1] at hx; cases hx
    unfold del
    rw [if_neg e]; exact uni_l hx
  | none =>
    rw [hls] at ho
    obtain ⟨rfl, k, rfl⟩ := ho
    exact OView.same ⟨L', hL', rfl, by rw [hls]; exact ⟨k, rfl⟩⟩

end Go.Proofs.Ytohldellkddmoaa.L

