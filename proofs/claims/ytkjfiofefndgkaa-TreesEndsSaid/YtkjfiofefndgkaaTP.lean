/- The plain law: who waits for whom. No program in sight. -/
import Derived.Test.YtkjfiofefndgkaaTE
namespace Go.Proofs.Ytkjfiofefndgkaa
set_option linter.unusedVariables false
set_option linter.unusedSimpArgs false

/-- Does a message count for book k? -/
def hits (k : Nat) (x : Msg) : Bool := if x.ans then x.to == k else x.frm == k
def kid (k : Nat) (s : Option (Option Nat × Nat)) : Nat := match s with
  | some (some q, _) => if q = k then 1 else 0
  | _ => 0
def kids (k : Nat) (st : Nat → Option (Option Nat × Nat)) : Nat := kid k (st 0) + kid k (st 1) + kid k (st 2) + kid k (st 3) + kid k (st 4)
def due (A : PS) (k : Nat) : Nat := A.way.countP (hits k) + kids k A.st
def owed (s : Option (Option Nat × Nat)) : Nat := match s with
  | some (_, d) => d
  | none => 0

structure Inv (A : PS) : Prop where
  cnt : ∀ k, k < 5 → due A k = owed (A.st k)
  rank : ∃ r : Nat → Nat, ∀ j q d, j < 5 → A.st j = some (some q, d) → r q < r j
  root : ∀ j d, j < 5 → A.st j = some (none, d) → j = 0
  par : ∀ j q d, j < 5 → A.st j = some (some q, d) → q < 5
  way : ∀ x ∈ A.way, x.frm < 5 ∧ x.to < 5

theorem kid_le_kids {st : Nat → Option (Option Nat × Nat)} {j q d : Nat} (hj : j < 5) (h : st j = some (some q, d)) : 1 ≤ kids q st := by
  have hk : kid q (st j) = 1 := by simp [kid, h]
  have h' : j = 0 ∨ j = 1 ∨ j = 2 ∨ j = 3 ∨ j = 4 := by omega
  unfold kids
  rcases h' with rfl | rfl | rfl | rfl | rfl <;> omega

theorem kids_set {st : Nat → Option (Option Nat × Nat)} {i k : Nat} (hi : i < 5) (v : Option (Option Nat × Nat)) : kids k (setSt st i v) + kid k (st i) = kids k st + kid k v := by
  have h' : i = 0 ∨ i = 1 ∨ i = 2 ∨ i = 3 ∨ i = 4 := by omega
  unfold kids setSt
  rcases h' with rfl | rfl | rfl | rfl | rfl <;> simp <;> omega

theorem countP_erase {α : Type} (p : α → Bool) : ∀ (l : List α) (n : Nat) (x : α), l[n]? = some x → (l.eraseIdx n).countP p + (if p x = true then 1 else 0) = l.countP p
  | [], n, x, h => by simp at h
  | y :: l, 0, x, h => by
    simp only [List.getElem?_cons_zero, Option.some.injEq] at h
    subst h
    rw [List.eraseIdx_cons_zero, List.countP_cons]
  | y :: l, n + 1, x, h => by
    simp only [List.getElem?_cons_succ] at h
    have := countP_erase p l n x h
    rw [List.eraseIdx_cons_succ, List.countP_cons, List.countP_cons]; omega

theorem countP_snoc {α : Type} (p : α → Bool) (l : List α) (x : α) : (l ++ [x]).countP p = l.countP p + (if p x = true then 1 else 0) := by
  rw [List.countP_append, List.countP_cons, List.countP_nil]; omega

theorem setSt_same (st : Nat → Option (Option Nat × Nat)) (i : Nat) (v : Option (Option Nat × Nat)) : setSt st i v i = v := by simp [setSt]
theorem setSt_ne {st : Nat → Option (Option Nat × Nat)} {i k : Nat} (v : Option (Option Nat × Nat)) (h : k ≠ i) : setSt st i v k = st k := by simp [setSt, h]

/-- A book sends. -/
theorem Inv.send {A : PS} (h : Inv A) {i j : Nat} {q : Option Nat} {d : Nat} (hi : i < 5) (hj : j < 5) (hs : A.st i = some (q, d)) :
    Inv { st := setSt A.st i (some (q, d + 1)), way := A.way ++ [⟨i, j, false⟩] } := by
  obtain ⟨r, hr⟩ := h.rank
  refine ⟨fun k hk => ?_, ⟨r, fun j' q' d' hj' e => ?_⟩, fun j' d' hj' e => ?_, fun j' q' d' hj' e => ?_, fun x hx => ?_⟩
  · have h1 := h.cnt k hk
    have h2 := kids_set (st := A.st) (k := k) hi (some (q, d + 1))
    have h3 : kid k (some (q, d + 1)) = kid k (A.st i) := by rw [hs]; cases q <;> rfl
    unfold due at h1 ⊢
    simp only [countP_snoc, hits, Bool.false_eq_true, if_false, beq_iff_eq]
    by_cases e : k = i
    · subst e; rw [setSt_same, if_pos rfl]; rw [hs] at h1; simp only [owed] at h1 ⊢; omega
    · rw [setSt_ne _ e, if_neg (fun e' => e e'.symm)]; omega
  · dsimp only at e
    by_cases e' : j' = i
    · subst e'; rw [setSt_same] at e
      simp only [Option.some.injEq, Prod.mk.injEq] at e
      exact hr j' q' d hj' (by rw [hs, e.1])
    · rw [setSt_ne _ e'] at e; exact hr j' q' d' hj' e
  · dsimp only at e
    by_cases e' : j' = i
    · subst e'; rw [setSt_same] at e
      simp only [Option.some.injEq, Prod.mk.injEq] at e
      exact h.root j' d hj' (by rw [hs, e.1])
    · rw [setSt_ne _ e'] at e; exact h.root j' d' hj' e
  · dsimp only at e
    by_cases e' : j' = i
    · subst e'; rw [setSt_same] at e
      simp only [Option.some.injEq, Prod.mk.injEq] at e
      exact h.par j' q' d hj' (by rw [hs, e.1])
    · rw [setSt_ne _ e'] at e; exact h.par j' q' d' hj' e
  · rcases List.mem_append.1 hx with hx | hx
    · exact h.way x hx
    · simp only [List.mem_singleton] at hx; subst hx; exact ⟨hi, hj⟩

/-- A book that isn't busy has no one who waits for it, and nothing of it is on its way. -/
theorem Inv.idle {A : PS} (h : Inv A) {k : Nat} (hk : k < 5) (hs : A.st k = none) : due A k = 0 := by
  rw [h.cnt k hk, hs]; rfl

/-- A book rests. -/
theorem Inv.rest {A : PS} (h : Inv A) {i : Nat} (hi : i < 5) : Inv (restA i A) := by
  obtain ⟨r, hr⟩ := h.rank
  unfold restA
  split
  · rename_i hs
    refine ⟨fun k hk => ?_, ⟨r, fun j' q' d' hj' e => ?_⟩, fun j' d' hj' e => ?_, fun j' q' d' hj' e => ?_, h.way⟩
    · have h1 := h.cnt k hk
      have h2 := kids_set (st := A.st) (k := k) hi none
      have h3 : kid k (A.st i) = 0 := by rw [hs]; rfl
      have h4 : kid k none = 0 := rfl
      unfold due at h1 ⊢
      simp only
      by_cases e : k = i
      · subst e; rw [setSt_same]; rw [hs] at h1; simp only [owed] at h1 ⊢; omega
      · rw [setSt_ne _ e]; omega
    all_goals
      dsimp only at e
      by_cases e' : j' = i
      · subst e'; rw [setSt_same] at e; cases e
      · rw [setSt_ne _ e'] at e
        first | exact hr j' q' d' hj' e | exact h.root j' d' hj' e | exact h.par j' q' d' hj' e
  · rename_i q hs
    refine ⟨fun k hk => ?_, ⟨r, fun j' q' d' hj' e => ?_⟩, fun j' d' hj' e => ?_, fun j' q' d' hj' e => ?_, fun x hx => ?_⟩
    · have h1 := h.cnt k hk
      have h2 := kids_set (st := A.st) (k := k) hi none
      have h3 : kid k (A.st i) = if q = k then 1 else 0 := by rw [hs]; rfl
      have h4 : kid k none = 0 := rfl
      unfold due at h1 ⊢
      simp only [countP_snoc, hits, if_true, beq_iff_eq]
      by_cases e : k = i
      · subst e; rw [setSt_same]; rw [hs] at h1; simp only [owed] at h1 ⊢
        omega
      · rw [setSt_ne _ e]; omega
    all_goals try (
      dsimp only at e
      by_cases e' : j' = i
      · subst e'; rw [setSt_same] at e; cases e
      · rw [setSt_ne _ e'] at e
        first | exact hr j' q' d' hj' e | exact h.root j' d' hj' e | exact h.par j' q' d' hj' e)
    rcases List.mem_append.1 hx with hx | hx
    · exact h.way x hx
    · simp only [List.mem_singleton] at hx; subst hx; exact ⟨hi, h.par i q 0 hi hs⟩
  · exact h

theorem hit_pos {A : PS} {n k : Nat} {x : Msg} (hx : A.way[n]? = some x) (hh : hits k x = true) : 1 ≤ due A k := by
  have : 0 < A.way.countP (hits k) := List.countP_pos_iff.2 ⟨x, List.mem_of_getElem? hx, hh⟩
  unfold due; omega

/-- An answer is waited for. -/
theorem Inv.waited {A : PS} (h : Inv A) {n f t : Nat} (hx : A.way[n]? = some ⟨f, t, true⟩) : ∃ q d, A.st t = some (q, d + 1) := by
  have ht := (h.way _ (List.mem_of_getElem? hx)).2
  have h1 := hit_pos hx (k := t) (by simp [hits])
  rw [h.cnt t ht] at h1
  cases hs : A.st t with
  | none => rw [hs] at h1; simp [owed] at h1
  | some x =>
    obtain ⟨q, d⟩ := x
    rw [hs] at h1
    cases d with
    | zero => simp [owed] at h1
    | succ d => exact ⟨q, d, rfl⟩

/-- A message comes. -/
theorem Inv.comes {A : PS} (h : Inv A) (n : Nat) : Inv (comesA n A) := by
  unfold comesA
  cases hx : A.way[n]? with
  | none => exact h
  | some x =>
    obtain ⟨f, t, an⟩ := x
    have hft : f < 5 ∧ t < 5 := h.way _ (List.mem_of_getElem? hx)
    obtain ⟨r, hr⟩ := h.rank
    have hwe : ∀ x ∈ A.way.eraseIdx n, x.frm < 5 ∧ x.to < 5 := fun x hx => h.way x (List.mem_of_mem_eraseIdx hx)
    cases an with
    | true =>
      obtain ⟨q, d, hs⟩ := h.waited hx
      simp only [if_true, hs]
      refine Inv.rest ?_ hft.2
      refine ⟨fun k hk => ?_, ⟨r, fun j' q' d' hj' e => ?_⟩, fun j' d' hj' e => ?_, fun j' q' d' hj' e => ?_, hwe⟩
      · have h1 := h.cnt k hk
        have h2 := kids_set (st := A.st) (k := k) hft.2 (some (q, d))
        have h3 : kid k (some (q, d)) = kid k (A.st t) := by rw [hs]; cases q <;> rfl
        have h4 := countP_erase (hits k) A.way n _ hx
        simp only [hits, if_true, beq_iff_eq] at h4
        unfold due at h1 ⊢
        simp only
        by_cases e : k = t
        · subst e; rw [setSt_same]; rw [hs] at h1; rw [if_pos rfl] at h4; simp only [owed] at h1 ⊢; omega
        · rw [setSt_ne _ e]; rw [if_neg (fun e' => e e'.symm)] at h4; omega
      · dsimp only at e
        by_cases e' : j' = t
        · subst e'; rw [setSt_same] at e
          simp only [Option.some.injEq, Prod.mk.injEq] at e
          exact hr j' q' (d + 1) hj' (by rw [hs, e.1])
        · rw [setSt_ne _ e'] at e; exact hr j' q' d' hj' e
      · dsimp only at e
        by_cases e' : j' = t
        · subst e'; rw [setSt_same] at e
          simp only [Option.some.injEq, Prod.mk.injEq] at e
          exact h.root j' (d + 1) hj' (by rw [hs, e.1])
        · rw [setSt_ne _ e'] at e; exact h.root j' d' hj' e
      · dsimp only at e
        by_cases e' : j' = t
        · subst e'; rw [setSt_same] at e
          simp only [Option.some.injEq, Prod.mk.injEq] at e
          exact h.par j' q' (d + 1) hj' (by rw [hs, e.1])
        · rw [setSt_ne _ e'] at e; exact h.par j' q' d' hj' e
    | false =>
      simp only [Bool.false_eq_true, if_false]
      have h4 := fun k => countP_erase (hits k) A.way n _ hx
      simp only [hits, Bool.false_eq_true, if_false, beq_iff_eq] at h4
      cases hs : A.st t with
      | none =>
        simp only
        have hid := h.idle hft.2 hs
        have hk0 : ∀ j q d, j < 5 → A.st j = some (some q, d) → q ≠ t := by
          intro j q d hj e e1
          subst e1
          have := kid_le_kids hj e
          unfold due at hid; omega
        have hf : f ≠ t := by
          intro e1
          have := hit_pos hx (k := t) (by simp [hits, e1])
          omega
        refine ⟨fun k hk => ?_, ⟨fun j => if j = t then r f + 1 else r j, fun j' q' d' hj' e => ?_⟩, fun j' d' hj' e => ?_, fun j' q' d' hj' e => ?_, hwe⟩
        · have h1 := h.cnt k hk
          have h2 := kids_set (st := A.st) (k := k) hft.2 (some (some f, 0))
          have h3 : kid k (A.st t) = 0 := by rw [hs]; rfl
          have h5 : kid k (some (some f, 0)) = if f = k then 1 else 0 := rfl
          have h6 := h4 k
          unfold due at h1 ⊢
          simp only
          by_cases e : k = t
          · subst e; rw [setSt_same]; rw [hs] at h1; simp only [owed] at h1 ⊢
            rw [if_neg hf] at h5 h6; omega
          · rw [setSt_ne _ e]; omega
        · dsimp only at e
          by_cases e' : j' = t
          · subst e'; rw [setSt_same] at e
            simp only [Option.some.injEq, Prod.mk.injEq] at e
            rw [← e.1]
            simp only [if_true, if_neg hf]; omega
          · rw [setSt_ne _ e'] at e
            have h1 := hr j' q' d' hj' e
            have h2 := hk0 j' q' d' hj' e
            simp only [if_neg e', if_neg h2]; exact h1
        · dsimp only at e
          by_cases e' : j' = t
          · subst e'; rw [setSt_same] at e
            simp at e
          · rw [setSt_ne _ e'] at e; exact h.root j' d' hj' e
        · dsimp only at e
          by_cases e' : j' = t
          · subst e'; rw [setSt_same] at e
            simp only [Option.some.injEq, Prod.mk.injEq] at e
            rw [← e.1]; exact hft.1
          · rw [setSt_ne _ e'] at e; exact h.par j' q' d' hj' e
      | some y =>
        simp only
        refine ⟨fun k hk => ?_, ⟨r, hr⟩, h.root, h.par, fun x hx => ?_⟩
        · have h1 := h.cnt k hk
          have h6 := h4 k
          unfold due at h1 ⊢
          simp only [countP_snoc, hits, if_true, beq_iff_eq]
          omega
        · rcases List.mem_append.1 hx with hx | hx
          · exact hwe x hx
          · simp only [List.mem_singleton] at hx; subst hx; exact ⟨hft.2, hft.1⟩

/-- A book with the least rank among the busy ones, if there is one. -/
theorem least_busy {P : Nat → Prop} (r : Nat → Nat) : ∀ (n : Nat), (∃ j, j < 5 ∧ P j ∧ r j ≤ n) → ∃ j, j < 5 ∧ P j ∧ ∀ i, i < 5 → P i → r j ≤ r i
  | 0, ⟨j, hj, hp, h0⟩ => ⟨j, hj, hp, fun i _ _ => by omega⟩
  | n + 1, ⟨j, hj, hp, h0⟩ => by
    by_cases h : ∃ j, j < 5 ∧ P j ∧ r j ≤ n
    · exact least_busy r n h
    · refine ⟨j, hj, hp, fun i hi hpi => ?_⟩
      have : ¬ r i ≤ n := fun e => h ⟨i, hi, hpi, e⟩
      omega

/-- Once the root isn't busy, no book is, and nothing is on its way. -/
theorem Inv.done {A : PS} (h : Inv A) (h0 : A.st 0 = none) : (∀ k, k < 5 → A.st k = none) ∧ A.way = [] := by
  have hall : ∀ k, k < 5 → A.st k = none := by
    intro k hk
    cases hs : A.st k with
    | none => rfl
    | some x =>
      exfalso
      obtain ⟨r, hr⟩ := h.rank
      obtain ⟨j, hj, ⟨y, hy⟩, hmin⟩ := least_busy (P := fun j => ∃ y, A.st j = some y) r (r k) ⟨k, hk, ⟨x, hs⟩, Nat.le_refl _⟩
      obtain ⟨p, d⟩ := y
      cases p with
      | none =>
        have := h.root j d hj hy
        subst this
        rw [h0] at hy; cases hy
      | some q =>
        have hq := h.par j q d hj hy
        have h1 := hr j q d hj hy
        have h2 := kid_le_kids hj hy
        have h3 := h.cnt q hq
        unfold due at h3
        cases hsq : A.st q with
        | none => rw [hsq] at h3; simp only [owed] at h3; omega
        | some z => have := hmin q hq ⟨z, hsq⟩; omega
  refine ⟨hall, ?_⟩
  cases hw : A.way with
  | nil => rfl
  | cons x l =>
    exfalso
    have hx : A.way[0]? = some x := by rw [hw]; rfl
    have hft := h.way x (by rw [hw]; exact List.mem_cons_self)
    cases ha : x.ans with
    | true =>
      have := hit_pos hx (k := x.to) (by simp [hits, ha])
      rw [h.idle hft.2 (hall _ hft.2)] at this; omega
    | false =>
      have := hit_pos hx (k := x.frm) (by simp [hits, ha])
      rw [h.idle hft.1 (hall _ hft.1)] at this; omega

theorem owed_le {A : PS} (h : Inv A) {k : Nat} (hk : k < 5) : owed (A.st k) ≤ A.way.length + 5 := by
  rw [← h.cnt k hk]
  have h1 : A.way.countP (hits k) ≤ A.way.length := List.countP_le_length
  have h2 : ∀ s, kid k s ≤ 1 := by
    intro s; unfold kid; split
    · split <;> omega
    · omega
  have := h2 (A.st 0); have := h2 (A.st 1); have := h2 (A.st 2); have := h2 (A.st 3); have := h2 (A.st 4)
  unfold due kids; omega

theorem rest_way (i : Nat) (A : PS) : (restA i A).way.length ≤ A.way.length + 1 := by
  unfold restA; split <;> simp

theorem comes_way {n : Nat} {A : PS} : (comesA n A).way.length ≤ A.way.length + 1 := by
  unfold comesA
  cases hx : A.way[n]? with
  | none => simp
  | some x =>
    have hlt := (List.getElem?_eq_some_iff.1 hx).1
    have he : (A.way.eraseIdx n).length = A.way.length - 1 := by rw [List.length_eraseIdx, if_pos hlt]
    simp only
    split
    · split
      · refine Nat.le_trans (rest_way _ _) ?_
        simp only; omega
      · omega
    · split
      · simp only; omega
      · simp; omega

/-! ### the rounds in which nothing more is sent -/
def weigh (x : Msg) : Nat := if x.ans then 1 else 2
def busyN (s : Option (Option Nat × Nat)) : Nat := if s.isSome then 1 else 0
def heavy (l : List Msg) : Nat := (l.map weigh).sum
def left (A : PS) : Nat := heavy A.way + busyN (A.st 0) + busyN (A.st 1) + busyN (A.st 2) + busyN (A.st 3) + busyN (A.st 4)

theorem heavy_append (l m : List Msg) : heavy (l ++ m) = heavy l + heavy m := by simp [heavy]
theorem heavy_erase : ∀ (l : List Msg) (n : Nat) (x : Msg), l[n]? = some x → heavy (l.eraseIdx n) + weigh x = heavy l
  | [], n, x, h => by simp at h
  | y :: l, 0, x, h => by
    simp only [List.getElem?_cons_zero, Option.some.injEq] at h
    subst h
    simp [heavy]; omega
  | y :: l, n + 1, x, h => by
    simp only [List.getElem?_cons_succ] at h
    have := heavy_erase l n x h
    simp only [heavy, List.eraseIdx_cons_succ, List.map_cons, List.sum_cons] at this ⊢; omega

theorem busy_set {st : Nat → Option (Option Nat × Nat)} {i : Nat} (hi : i < 5) (v : Option (Option Nat × Nat)) (h : Nat) :
    (h + busyN (setSt st i v 0) + busyN (setSt st i v 1) + busyN (setSt st i v 2) + busyN (setSt st i v 3) + busyN (setSt st i v 4)) + busyN (st i) =
      (h + busyN (st 0) + busyN (st 1) + busyN (st 2) + busyN (st 3) + busyN (st 4)) + busyN v := by
  have h' : i = 0 ∨ i = 1 ∨ i = 2 ∨ i = 3 ∨ i = 4 := by omega
  unfold setSt
  rcases h' with rfl | rfl | rfl | rfl | rfl <;> simp <;> omega

theorem rest_left {i : Nat} (hi : i < 5) (A : PS) : left (restA i A) ≤ left A := by
  unfold restA
  split
  · rename_i hs
    have h1 := busy_set (st := A.st) hi none (heavy A.way)
    rw [hs] at h1
    simp only [busyN, Option.isSome_none, Bool.false_eq_true, if_false, Option.isSome_some, if_true] at h1
    unfold left busyN; simp only; omega
  · rename_i q hs
    have h1 := busy_set (st := A.st) hi none (heavy (A.way ++ [⟨i, q, true⟩]))
    rw [hs] at h1
    have h2 : heavy (A.way ++ [⟨i, q, true⟩]) = heavy A.way + 1 := by rw [heavy_append]; rfl
    simp only [busyN, Option.isSome_none, Bool.false_eq_true, if_false, Option.isSome_some, if_true] at h1
    unfold left busyN; simp only; rw [h2] at h1 ⊢; omega
  · exact Nat.le_refl _

theorem comes_left {n : Nat} {A : PS} (h : Inv A) {x : Msg} (hx : A.way[n]? = some x) : left (comesA n A) + 1 ≤ left A := by
  obtain ⟨f, t, an⟩ := x
  have hft : f < 5 ∧ t < 5 := h.way _ (List.mem_of_getElem? hx)
  have he := heavy_erase A.way n _ hx
  unfold comesA
  rw [hx]
  cases an with
  | true =>
    obtain ⟨q, d, hs⟩ := h.waited hx
    simp only [if_true, hs]
    have h1 := rest_left hft.2 { st := setSt A.st t (some (q, d)), way := A.way.eraseIdx n }
    have h2 := busy_set (st := A.st) hft.2 (some (q, d)) (heavy (A.way.eraseIdx n))
    rw [hs] at h2
    simp only [weigh, if_true] at he
    simp only [busyN, Option.isSome_some, if_true] at h2
    unfold left busyN at h1 ⊢; simp only at h1 h2; omega
  | false =>
    simp only [weigh, Bool.false_eq_true, if_false] at he ⊢
    cases hs : A.st t with
    | none =>
      simp only
      have h2 := busy_set (st := A.st) hft.2 (some (some f, 0)) (heavy (A.way.eraseIdx n))
      rw [hs] at h2
      simp only [busyN, Option.isSome_none, Bool.false_eq_true, if_false, Option.isSome_some, if_true] at h2
      unfold left busyN; simp only; omega
    | some y =>
      simp only
      have h2 : heavy (A.way.eraseIdx n ++ [⟨t, f, true⟩]) = heavy (A.way.eraseIdx n) + 1 := by rw [heavy_append]; rfl
      unfold left; simp only; rw [h2]; omega

/-- All five rest, one behind the other. -/
def restAll (A : PS) : PS := restA 4 (restA 3 (restA 2 (restA 1 (restA 0 A))))

theorem rest_ne {i k : Nat} (A : PS) (h : k ≠ i) : (restA i A).st k = A.st k := by
  unfold restA; split <;> simp [setSt, h]
theorem rest_self (i : Nat) (A : PS) (q : Option Nat) : (restA i A).st i ≠ some (q, 0) := by
  unfold restA
  split
  · simp [setSt]
  · simp [setSt]
  · rename_i h1 h2
    intro e
    cases q with
    | none => exact h1 e
    | some q => exact h2 q e

theorem restAll_no (A : PS) : ∀ k, k < 5 → ∀ q, (restAll A).st k ≠ some (q, 0) := by
  intro k hk q
  have h' : k = 0 ∨ k = 1 ∨ k = 2 ∨ k = 3 ∨ k = 4 := by omega
  unfold restAll
  rcases h' with rfl | rfl | rfl | rfl | rfl
  · rw [rest_ne _ (by decide), rest_ne _ (by decide), rest_ne _ (by decide), rest_ne _ (by decide)]; exact rest_self _ _ _
  · rw [rest_ne _ (by decide), rest_ne _ (by decide), rest_ne _ (by decide)]; exact rest_self _ _ _
  · rw [rest_ne _ (by decide), rest_ne _ (by decide)]; exact rest_self _ _ _
  · rw [rest_ne _ (by decide)]; exact rest_self _ _ _
  · exact rest_self _ _ _

theorem restAll_inv {A : PS} (h : Inv A) : Inv (restAll A) :=
  ((((h.rest (by decide)).rest (by decide)).rest (by decide)).rest (by decide)).rest (by decide)
theorem restAll_left (A : PS) : left (restAll A) ≤ left A := by
  unfold restAll
  exact Nat.le_trans (rest_left (by decide) _) (Nat.le_trans (rest_left (by decide) _) (Nat.le_trans (rest_left (by decide) _) (Nat.le_trans (rest_left (by decide) _) (rest_left (by decide) _))))
theorem restAll_way (A : PS) : (restAll A).way.length ≤ A.way.length + 5 := by
  unfold restAll
  have h0 := rest_way 0 A
  have h1 := rest_way 1 (restA 0 A)
  have h2 := rest_way 2 (restA 1 (restA 0 A))
  have h3 := rest_way 3 (restA 2 (restA 1 (restA 0 A)))
  have h4 := rest_way 4 (restA 3 (restA 2 (restA 1 (restA 0 A))))
  omega

/-- Where nothing is on its way and no book may rest, none is busy. -/
theorem Inv.quiet {A : PS} (h : Inv A) (hw : A.way = []) (hn : ∀ k, k < 5 → ∀ q, A.st k ≠ some (q, 0)) : ∀ k, k < 5 → A.st k = none := by
  intro k hk
  cases hs : A.st k with
  | none => rfl
  | some x =>
    exfalso
    obtain ⟨r, hr⟩ := h.rank
    -- the busy one of the greatest rank
    have hB : ∃ B, ∀ j, j < 5 → r j ≤ B := by
      refine ⟨r 0 + r 1 + r 2 + r 3 + r 4, fun j hj => ?_⟩
      have h' : j = 0 ∨ j = 1 ∨ j = 2 ∨ j = 3 ∨ j = 4 := by omega
      rcases h' with rfl | rfl | rfl | rfl | rfl <;> omega
    obtain ⟨B, hB⟩ := hB
    obtain ⟨j, hj, ⟨y, hy⟩, hmin⟩ := least_busy (P := fun j => ∃ y, A.st j = some y) (fun j => B - r j) (B - r k) ⟨k, hk, ⟨x, hs⟩, Nat.le_refl _⟩
    have hk0 : kids j A.st = 0 := by
      have hkid : ∀ i, i < 5 → kid j (A.st i) = 0 := by
        intro i hi
        unfold kid
        split
        · rename_i q d e
          by_cases e1 : q = j
          · subst e1
            have h1 := hr i q d hi e
            have h2 := hmin i hi ⟨_, e⟩
            have := hB i hi; have := hB q hj
            omega
          · rw [if_neg e1]
        · rfl
      unfold kids
      have := hkid 0 (by decide); have := hkid 1 (by decide); have := hkid 2 (by decide); have := hkid 3 (by decide); have := hkid 4 (by decide)
      omega
    have hc := h.cnt j hj
    obtain ⟨p, d⟩ := y
    unfold due at hc
    rw [hw, hk0, hy] at hc
    simp only [List.countP_nil, owed] at hc
    exact hn j hj p (by rw [hy, ← hc])

end Go.Proofs.Ytkjfiofefndgkaa
