/- The plain law of TreesPlays: what the program's table and the document's row answer is the same, and stays the same. -/
import Derived.Test.YtkjfiofefndgkaaTN
import Derived.Test.YtkjfiofefndgkaaTX
import Derived.Test.YtkjfiofefndgkaaTS
namespace Go.Proofs.Ytkjfiofefndgkaa
set_option linter.unusedVariables false
set_option linter.unusedSimpArgs false
open Go.RowKit

/-- The row is rising and has what the table has. -/
structure Sim (A R : Tab) : Prop where
  up : R.Pairwise fun p q => p.1 < q.1
  same : ∀ n, alGet A n = alGet R n
  may : ∀ n, mayB n = false → alGet R n = none

theorem findIx_get : ∀ (R : Tab) (n : Int), R[findIx R n]?.map (·.2) = alGet R n
  | [], n => rfl
  | q :: R, n => by
    have ih := findIx_get R n
    rw [alGet_cons]
    unfold findIx at ih ⊢
    rw [List.findIdx_cons]
    by_cases h : q.1 = n
    · simp [h]
    · simp [h, ih]
theorem findIx_lt (R : Tab) (n : Int) : findIx R n < R.length ↔ (alGet R n).isSome = true := by
  rw [← findIx_get]
  by_cases h : findIx R n < R.length
  · simp [h]
  · simp [h, List.getElem?_eq_none (Nat.le_of_not_lt h)]
theorem findIx_key {R : Tab} {n : Int} {q : Int × ByteArray × Int} (h : R[findIx R n]? = some q) : q.1 = n := by
  have hlt : findIx R n < R.length := (List.getElem?_eq_some_iff.1 h).1
  have := List.findIdx_getElem (p := fun q : Int × ByteArray × Int => decide (q.1 = n)) (xs := R) (w := hlt)
  rw [List.getElem?_eq_getElem hlt] at h
  simp only [Option.some.injEq] at h
  have e : R[findIx R n] = q := h
  unfold findIx at e
  rw [e] at this
  simpa using this

theorem get_of_mem {R : Tab} (h : R.Pairwise fun p q => p.1 < q.1) {q : Int × ByteArray × Int} (hq : q ∈ R) : alGet R q.1 = some q.2 := by
  induction R with
  | nil => cases hq
  | cons y R ih =>
    rw [alGet_cons]
    rcases List.mem_cons.1 hq with rfl | hq
    · simp
    · have := (List.pairwise_cons.1 h).1 q hq
      rw [if_neg (by omega)]
      exact ih (List.pairwise_cons.1 h).2 hq

/-- A new ticket in its place. -/
theorem putL_get (R : Tab) (n : Int) (x : ByteArray × Int) (k : Int) (hn : alGet R n = none) : alGet (putL R (n, x)) k = if k = n then some x else alGet R k := by
  unfold putL
  rw [alGet_append, alGet_cons]
  have e : alGet R k = (alGet (R.take (putIx R n)) k).or (alGet (R.drop (putIx R n)) k) := by rw [← alGet_append, List.take_append_drop]
  by_cases h : k = n
  · subst h
    rw [if_pos rfl, if_pos rfl]
    have : alGet (R.take (putIx R k)) k = none := by
      rw [e] at hn
      cases hg : alGet (R.take (putIx R k)) k with
      | none => rfl
      | some y => rw [hg] at hn; simp at hn
    simp only [this]; rfl
  · have h' : ¬ n = k := fun x => h x.symm
    rw [if_neg h, e]
    simp only [h', if_false]

theorem putL_up {R : Tab} (h : R.Pairwise fun p q => p.1 < q.1) (n : Int) (x : ByteArray × Int) (hn : alGet R n = none) : (putL R (n, x)).Pairwise fun p q => p.1 < q.1 := by
  unfold putL
  have hne : ∀ q ∈ R, q.1 ≠ n := fun q hq e => by have := alGet_none.1 hn q hq; exact this e
  have h1 : ∀ q ∈ R.take (putIx R n), q.1 < n := by
    intro q hq
    obtain ⟨i, hi, e⟩ := List.mem_iff_getElem.1 hq
    have hi' : i < putIx R n := by simp at hi; omega
    have hiR : i < R.length := by simp at hi; omega
    have hqi : R[i]? = some q := by rw [List.getElem?_eq_getElem hiR]; simp at e; rw [e]
    have := putIx_before hi' hqi
    have := hne q (List.mem_of_mem_take hq)
    omega
  have h2 : ∀ q ∈ R.drop (putIx R n), n < q.1 := by
    intro q hq
    by_cases hp : putIx R n < R.length
    · rw [List.drop_eq_getElem_cons hp] at hq
      have h0 := putIx_at (R := R) (n := n) (List.getElem?_eq_getElem hp)
      rcases List.mem_cons.1 hq with rfl | hq
      · exact h0
      · have hpw : (R.drop (putIx R n)).Pairwise fun p q => p.1 < q.1 := h.sublist (List.drop_sublist _ _)
        rw [List.drop_eq_getElem_cons hp] at hpw
        have := (List.pairwise_cons.1 hpw).1 q hq
        omega
    · rw [List.drop_of_length_le (by omega)] at hq; cases hq
  rw [List.pairwise_append]
  refine ⟨h.sublist (List.take_sublist _ _), List.pairwise_cons.2 ⟨fun q hq => h2 q hq, h.sublist (List.drop_sublist _ _)⟩, fun a ha b hb => ?_⟩
  have := h1 a ha
  rcases List.mem_cons.1 hb with rfl | hb
  · exact this
  · have := h2 b hb; omega

theorem bump_keys (R : Tab) (i : Nat) (c : Int) : (bumpAt R i c).map (·.1) = R.map (·.1) := by
  unfold bumpAt
  split
  · rename_i q hq
    rw [List.map_set]
    have hi : i < R.length := (List.getElem?_eq_some_iff.1 hq).1
    rw [List.getElem?_eq_getElem hi] at hq
    simp only [Option.some.injEq] at hq
    refine List.ext_getElem? fun j => ?_
    rw [List.getElem?_set]
    by_cases hj : i = j
    · subst hj; simp [hi, hq]
    · simp [hj]
  · rfl
theorem up_iff (R : Tab) : (R.Pairwise fun p q => p.1 < q.1) ↔ (R.map (·.1)).Pairwise (· < ·) := by rw [List.pairwise_map]

theorem set_get : ∀ (R : Tab) (n : Int) (q : Int × ByteArray × Int) (d k : Int), R[findIx R n]? = some q → alGet (R.set (findIx R n) (q.1, q.2.1, d)) k = if k = n then some (q.2.1, d) else alGet R k
  | [], n, q, d, k, h => by simp at h
  | y :: R, n, q, d, k, h => by
    have hk := findIx_key h
    by_cases hy : y.1 = n
    · have e : findIx (y :: R) n = 0 := by unfold findIx; rw [List.findIdx_cons]; simp [hy]
      rw [e] at h ⊢
      simp only [List.getElem?_cons_zero, Option.some.injEq] at h
      subst h
      simp only [List.set_cons_zero, alGet_cons, hy]
      by_cases e2 : k = n
      · subst e2; simp
      · have : ¬ n = k := fun x => e2 x.symm
        simp [e2, this]
    · have e : findIx (y :: R) n = findIx R n + 1 := by unfold findIx; rw [List.findIdx_cons]; simp [hy]
      rw [e] at h ⊢
      simp only [List.getElem?_cons_succ] at h
      have ih := set_get R n q d k h
      simp only [List.set_cons_succ, alGet_cons, ih]
      by_cases e2 : k = n
      · subst e2; simp [hy]
      · simp [e2]

theorem erase_get : ∀ (R : Tab) (n k : Int), R.Pairwise (fun p q => p.1 < q.1) → findIx R n < R.length → alGet (R.eraseIdx (findIx R n)) k = if k = n then none else alGet R k
  | [], n, k, _, h => by simp at h
  | y :: R, n, k, hp, h => by
    by_cases hy : y.1 = n
    · have e : findIx (y :: R) n = 0 := by unfold findIx; rw [List.findIdx_cons]; simp [hy]
      rw [e, List.eraseIdx_cons_zero, alGet_cons]
      by_cases e2 : k = n
      · subst e2
        rw [if_pos rfl]
        refine alGet_none.2 fun q hq => ?_
        have := (List.pairwise_cons.1 hp).1 q hq
        omega
      · rw [if_neg e2, if_neg (by rw [hy]; exact fun x => e2 x.symm)]
    · have e : findIx (y :: R) n = findIx R n + 1 := by unfold findIx; rw [List.findIdx_cons]; simp [hy]
      rw [e] at h ⊢
      have ih := erase_get R n k (List.pairwise_cons.1 hp).2 (by simpa using h)
      rw [List.eraseIdx_cons_succ, alGet_cons, alGet_cons, ih]
      by_cases e2 : k = n
      · subst e2; simp [hy]
      · simp [e2]

/-! ### the six calls -/
theorem Sim.there {A R : Tab} (h : Sim A R) (n : Int) : findIx R n < R.length ↔ (alGet A n).isSome = true := by rw [h.same, findIx_lt]

theorem Sim.start {A R : Tab} (h : Sim A R) (n : Int) : startR A n = rstartR R n ∧ Sim (startA A n) (rstartA R n) ∧ (rstartA R n).length ≤ R.length + 1 := by
  unfold startR rstartR startA rstartA
  cases hm : mayB n with
  | false => exact ⟨rfl, by simpa using h, by simp⟩
  | true =>
    simp only [Bool.true_eq_false, if_false]
    by_cases hf : findIx R n < R.length
    · have := (h.there n).1 hf
      simp only [hf, this, if_true]
      exact ⟨trivial, h, by omega⟩
    · have hA : ¬ (alGet A n).isSome = true := fun e => hf ((h.there n).2 e)
      simp only [hf, hA, if_false, Bool.false_eq_true]
      have hn : alGet R n = none := by rw [← h.same]; simpa using hA
      refine ⟨trivial, ⟨putL_up h.up _ _ hn, fun k => ?_, fun k hk => ?_⟩, by unfold putL; simp; omega⟩
      · rw [putL_get R n _ k hn, get_snoc A n _ k (by rw [h.same]; exact hn), h.same]
      · rw [putL_get R n _ k hn, if_neg (fun e => by rw [e, hm] at hk; cases hk)]; exact h.may k hk

theorem Sim.got {A R : Tab} (h : Sim A R) (n : Int) (p : ByteArray) : gotR A n p = rgotR R n p ∧ Sim (gotA A n p) (rgotA R n p) ∧ (rgotA R n p).length ≤ R.length + 1 := by
  unfold gotR rgotR gotA rgotA
  cases hm : mayB n with
  | false => exact ⟨rfl, by simpa using h, by simp⟩
  | true =>
    cases hk : nameOk p with
    | false => exact ⟨rfl, by simpa using h, by simp⟩
    | true =>
    simp only [Bool.true_eq_false, if_false]
    by_cases hf : findIx R n < R.length
    · have := (h.there n).1 hf
      simp only [hf, this, if_true]
      exact ⟨trivial, h, by omega⟩
    · have hA : ¬ (alGet A n).isSome = true := fun e => hf ((h.there n).2 e)
      simp only [hf, hA, if_false, Bool.false_eq_true]
      have hn : alGet R n = none := by rw [← h.same]; simpa using hA
      refine ⟨trivial, ⟨putL_up h.up _ _ hn, fun k => ?_, fun k hk => ?_⟩, by unfold putL; simp; omega⟩
      · rw [putL_get R n _ k hn, get_snoc A n _ k (by rw [h.same]; exact hn), h.same]
      · rw [putL_get R n _ k hn, if_neg (fun e => by rw [e, hm] at hk; cases hk)]; exact h.may k hk

theorem Sim.bump {A R : Tab} (h : Sim A R) (n : Int) (hm : mayB n = true) {q : Int × ByteArray × Int} (hq : R[findIx R n]? = some q) (c : Int) : Sim (setT A n (q.2.2 + c)) (bumpAt R (findIx R n) c) := by
  have hA : alGet A n = some q.2 := by rw [h.same, ← findIx_get, hq]; rfl
  refine ⟨?_, fun k => ?_, fun k hk => ?_⟩
  · rw [up_iff, bump_keys, ← up_iff]; exact h.up
  · rw [get_setT, hA]
    unfold bumpAt
    rw [hq]
    simp only
    rw [set_get R n q _ k hq, h.same]; rfl
  · unfold bumpAt
    rw [hq]
    simp only
    rw [set_get R n q _ k hq, if_neg (fun e => by rw [e, hm] at hk; cases hk)]
    exact h.may k hk
theorem bump_length (R : Tab) (i : Nat) (c : Int) : (bumpAt R i c).length = R.length := by unfold bumpAt; split <;> simp

theorem Sim.sent {A R : Tab} (h : Sim A R) (n : Int) : sentR A n = rsentR R n ∧ Sim (sentA A n) (rsentA R n) ∧ (rsentA R n).length ≤ R.length + 1 := by
  unfold sentR rsentR sentA rsentA
  cases hm : mayB n with
  | false => exact ⟨rfl, by simpa using h, by simp⟩
  | true =>
    simp only [Bool.true_eq_false, if_false]
    by_cases hf : findIx R n < R.length
    · obtain ⟨q, hq⟩ : ∃ q, R[findIx R n]? = some q := ⟨_, List.getElem?_eq_getElem hf⟩
      have hA : alGet A n = some q.2 := by rw [h.same, ← findIx_get, hq]; rfl
      simp only [hf, hA, if_true, Option.isSome_some]
      exact ⟨trivial, h.bump n hm hq 1, by rw [bump_length]; omega⟩
    · have hA : alGet A n = none := by
        have : ¬ (alGet A n).isSome = true := fun e => hf ((h.there n).2 e)
        simpa using this
      simp only [hf, hA, if_false, Option.isSome_none, Bool.false_eq_true]
      exact ⟨trivial, h, by omega⟩

theorem Sim.signal {A R : Tab} (h : Sim A R) (n : Int) : signalR A n = rsignalR R n ∧ Sim (signalA A n) (rsignalA R n) ∧ (rsignalA R n).length ≤ R.length + 1 := by
  unfold signalR rsignalR signalA rsignalA
  cases hm : mayB n with
  | false => exact ⟨rfl, by simpa using h, by simp⟩
  | true =>
    simp only [Bool.true_eq_false, if_false]
    cases hq : R[findIx R n]? with
    | some q =>
      have hA : alGet A n = some q.2 := by rw [h.same, ← findIx_get, hq]; rfl
      simp only [hA]
      by_cases h0 : q.2.2 = 0
      · simp only [h0, if_true]
        exact ⟨trivial, h, by omega⟩
      · simp only [h0, if_false]
        exact ⟨trivial, h.bump n hm hq (-1), by rw [bump_length]; omega⟩
    | none =>
      have hA : alGet A n = none := by rw [h.same, ← findIx_get, hq]; rfl
      simp only [hA]
      exact ⟨trivial, h, by omega⟩

theorem Sim.rest {A R : Tab} (h : Sim A R) (n : Int) : restR A n = rrestR R n ∧ Sim (restT A n) (rrestT R n) ∧ (rrestT R n).length ≤ R.length + 1 := by
  unfold restR rrestR restT rrestT
  cases hm : mayB n with
  | false =>
    have hn : R[findIx R n]? = none := by
      have := h.may n hm
      rw [← findIx_get] at this
      simpa using this
    rw [hn]
    exact ⟨rfl, by simpa using h, by simp⟩
  | true =>
    simp only [Bool.true_eq_false, if_false]
    cases hq : R[findIx R n]? with
    | some q =>
      have hA : alGet A n = some q.2 := by rw [h.same, ← findIx_get, hq]; rfl
      have hlt : findIx R n < R.length := (List.getElem?_eq_some_iff.1 hq).1
      simp only [hA]
      by_cases h0 : q.2.2 = 0
      · simp only [h0, if_true]
        refine ⟨trivial, ⟨h.up.sublist (List.eraseIdx_sublist _ _), fun k => ?_, fun k hk => ?_⟩, by rw [List.length_eraseIdx]; split <;> omega⟩
        · rw [get_del, erase_get R n k h.up hlt, h.same]
        · rw [erase_get R n k h.up hlt]
          split
          · rfl
          · exact h.may k hk
      · simp only [h0, if_false]
        exact ⟨trivial, h, by omega⟩
    | none =>
      have hA : alGet A n = none := by rw [h.same, ← findIx_get, hq]; rfl
      simp only [hA]
      exact ⟨trivial, h, by omega⟩

theorem Sim.nil : Sim [] [] := ⟨List.Pairwise.nil, fun _ => rfl, fun _ _ => rfl⟩

/-- The busy tickets, sorted, are the row's. -/
theorem Sim.keys {A R : Tab} (h : Sim A R) (hA : (A.map (·.1)).Nodup) : (A.map (·.1)).mergeSort (fun x y => decide (x ≤ y)) = R.map (·.1) := by
  have hR : (R.map (·.1)).Nodup := ((up_iff R).1 h.up).imp fun h => by omega
  have hp : (A.map (·.1)).Perm (R.map (·.1)) := by
    refine (List.perm_ext_iff_of_nodup hA hR).2 fun x => ?_
    have key : ∀ (T : Tab), x ∈ T.map (·.1) ↔ alGet T x ≠ none := by
      intro T
      constructor
      · intro hx e
        obtain ⟨q, hq, rfl⟩ := List.mem_map.1 hx
        exact alGet_none.1 e q hq rfl
      · intro hx
        refine Decidable.byContradiction fun hn => hx (alGet_none.2 fun q hq e => hn (List.mem_map.2 ⟨q, hq, e⟩))
    rw [key, key, h.same]
  have e := mergeSort_of_perm_i hp
  refine e.trans ?_
  refine List.mergeSort_of_pairwise ?_
  exact ((up_iff R).1 h.up).imp fun h => by simp; omega
end Go.Proofs.Ytkjfiofefndgkaa
