/- The document's tables of tickets: a row of busy tickets, rising; what Find and put do. -/
import Derived.Test.YtkjfiofefndgkaaTM
import Derived.Test.YtkjfiofefndgkaaTC
namespace Go.Proofs.Ytkjfiofefndgkaa
set_option linter.unusedVariables false
set_option linter.unusedSimpArgs false
open Go.RowKit
open Go.ChangeMaps (setBlock)

def stV (q : Int × ByteArray × Int) : List Value := [.int .i64 q.1, .string q.2.1, .int .i64 q.2.2]
def stVals (R : Tab) : List Value := R.flatMap stV

theorem stVals_length (R : Tab) : (stVals R).length = R.length * 3 := by
  unfold stVals
  induction R with
  | nil => rfl
  | cons m l ih => simp only [List.flatMap_cons, List.length_append, ih, List.length_cons, stV, List.length_nil]; omega
theorem stVals_append (l m : Tab) : stVals (l ++ m) = stVals l ++ stVals m := by simp [stVals]
theorem stVals_one (l : Tab) : ∀ u ∈ stVals l, u.oneCell' = true := by
  intro u hu
  obtain ⟨x, hx, hu⟩ := List.mem_flatMap.1 hu
  simp [stV] at hu
  rcases hu with rfl | rfl | rfl <;> rfl
theorem stVals_at : ∀ (l : Tab) (i : Nat) (x : Int × ByteArray × Int), l[i]? = some x → (stVals l)[i * 3]? = some (.int .i64 x.1) ∧ (stVals l)[i * 3 + 1]? = some (.string x.2.1) ∧ (stVals l)[i * 3 + 2]? = some (.int .i64 x.2.2)
  | [], i, x, h => by simp at h
  | y :: l, 0, x, h => by
    simp only [List.getElem?_cons_zero, Option.some.injEq] at h
    subst h
    exact ⟨rfl, rfl, rfl⟩
  | y :: l, i + 1, x, h => by
    simp only [List.getElem?_cons_succ] at h
    have ih := stVals_at l i x h
    have e : stVals (y :: l) = stV y ++ stVals l := rfl
    have e1 : (i + 1) * 3 = (stV y).length + i * 3 := by simp [stV]; omega
    rw [e, e1]
    refine ⟨?_, ?_, ?_⟩
    · rw [List.getElem?_append_right (by omega)]; simpa using ih.1
    · rw [List.getElem?_append_right (by omega)]; have := ih.2.1; simpa [Nat.add_assoc] using this
    · rw [List.getElem?_append_right (by omega)]; have := ih.2.2; simpa [Nat.add_assoc] using this

/-- The document's table at block r; 'own': its blocks. -/
structure RefIn (own : Nat → Prop) (w : World) (r : Nat) (R : Tab) : Prop where
  ex : ∃ v, w.heap[r]? = some (.cells #[v] 43 (0, 0)) ∧ w.ownsRow 0 57 3 v R.length (stVals R) ∧ ∀ k, v.ownBlock = some k → own k
  r : own r
  lt : ∀ k, own k → k < w.heap.size

def RefPost (own : Nat → Prop) (w : World) (r : Nat) (R : Tab) (v : Value) (e : Ending) (w' : World) : Prop :=
  e = .returned v ∧ Touch own w w' ∧ ∃ own' : Nat → Prop, RefIn own' w' r R ∧ ∀ k, own' k → own k ∨ w.heap.size ≤ k

theorem RefIn.same {own : Nat → Prop} {w : World} {r : Nat} {R : Tab} (h : RefIn own w r R) (v : Value) : RefPost own w r R v (.returned v) w :=
  ⟨rfl, Touch.refl _ _, own, h, fun _ => Or.inl⟩
theorem RefIn.keep {own S : Nat → Prop} {w w' : World} {r : Nat} {R : Tab} (h : RefIn own w r R) (ht : Touch S w w') (hd : ∀ k, own k → ¬ S k) : RefIn own w' r R := by
  obtain ⟨⟨v, h1, h2, h3⟩, hr, hlt⟩ := h
  exact ⟨⟨v, (ht.block r (lt_of_block h1) (hd _ hr)).trans h1, ownsRow_touch h2 ht (fun k hk => hd k (h3 k hk)), h3⟩, hr, fun k hk => Nat.lt_of_lt_of_le (hlt k hk) ht.size⟩
theorem RefIn.below {own : Nat → Prop} {w w' : World} {r : Nat} {R : Tab} (h : RefIn own w r R) (hb : Below w.heap.size w w') : RefIn own w' r R :=
  h.keep (S := fun _ => False) (Touch.of_below hb) (fun _ _ => id)

/-- The place of a ticket; the length: it isn't there. -/
def findIx (R : Tab) (n : Int) : Nat := R.findIdx fun q => q.1 = n
def findR (R : Tab) (n : Int) : Int := if findIx R n < R.length then (findIx R n : Int) else -1

theorem findIx_le (R : Tab) (n : Int) : findIx R n ≤ R.length := List.findIdx_le_length

/-- The row's cells. -/
theorem row_cells {w : World} {base : Nat} {v : Value} {R : Tab} (h : w.ownsRow base 57 3 v R.length (stVals R)) {i : Nat} (hi : i < R.length) :
    ∃ g cap q, v = .slice (some ⟨g, 0, none⟩) R.length cap ∧ R[i]? = some q ∧ w.cell? ⟨g, i * 3, none⟩ = some (.int .i64 q.1) ∧ w.cell? ⟨g, i * 3 + 1, none⟩ = some (.string q.2.1) ∧ w.cell? ⟨g, i * 3 + 2, none⟩ = some (.int .i64 q.2.2) ∧ R.length ≤ cap ∧ cap ≤ maxLen := by
  rcases h.2 with ⟨_, hn⟩ | ⟨g, cap, cur, rfl, hg, hh, h1, h2, h3, h4⟩
  · omega
  · obtain ⟨q, hq⟩ : ∃ q, R[i]? = some q := ⟨R[i], List.getElem?_eq_getElem hi⟩
    have hc : ∀ j, j < 3 → w.cell? ⟨g, i * 3 + j, none⟩ = (stVals R)[i * 3 + j]? := by
      intro j hj
      rw [← h4, List.getElem?_take_of_lt (by omega)]
      simp [World.cell?, hh]
    obtain ⟨a0, a1, a2⟩ := stVals_at R i q hq
    exact ⟨g, cap, q, rfl, hq, (hc 0 (by omega)).trans a0, (hc 1 (by omega)).trans a1, (hc 2 (by omega)).trans a2, h1, h2⟩

set_option maxHeartbeats 1000000 in
set_option maxRecDepth 100000 in
theorem Find_any {own : Nat → Prop} {w : World} {r : Nat} {R : Tab} (h : RefIn own w r R) (n : Int) (hl : R.length ≤ 1000000) :
    Calls Try.prog 25 #[.pointer (some ⟨r, 0, none⟩), .int .i64 n] w fun e w' => e = .returned (.int .i64 (findR R n)) ∧ w = w' := by
  obtain ⟨v, h1, h2, h3⟩ := h.ex
  have hc : w.cell? ⟨r, 0, none⟩ = some v := cell_of_one h1
  obtain ⟨A, N, C, rfl⟩ := ownsRow_slice h2
  have hN : N = R.length := by
    rcases h2.2 with ⟨e, h0⟩ | ⟨g, cap, cur, e, _⟩
    · simp only [Value.slice.injEq] at e; omega
    · simp only [Value.slice.injEq] at e; omega
  subst hN
  have H2 := Lib.hid h2
  have hle := findIx_le R n
  have HF : Hid (∀ j, j < findIx R n → ∀ q, R[j]? = some q → ¬ q.1 = n) := by
    intro j hj q hq e
    have := List.not_of_lt_findIdx (p := fun q : Int × ByteArray × Int => decide (q.1 = n)) (xs := R) (i := j) hj
    have hlt : j < R.length := by omega
    rw [List.getElem?_eq_getElem hlt] at hq
    simp only [Option.some.injEq] at hq
    rw [hq] at this
    simp [e] at this
  have HG : Hid (∀ q, R[findIx R n]? = some q → q.1 = n) := by
    intro q hq
    have hlt : findIx R n < R.length := (List.getElem?_eq_some_iff.1 hq).1
    have := List.findIdx_getElem (p := fun q : Int × ByteArray × Int => decide (q.1 = n)) (xs := R) (w := hlt)
    rw [List.getElem?_eq_getElem hlt] at hq
    simp only [Option.some.injEq] at hq
    have e : R[findIx R n] = q := hq
    unfold findIx at e
    rw [e] at this
    simpa using this
  unfold findR
  obtain ⟨f, hf⟩ : ∃ f, f = findIx R n := ⟨_, rfl⟩
  rw [← hf] at hle HF HG ⊢
  clear h h1 h2 h3 hf
  go_enter Try.func25, Try.ntmps25
  go_wp2_with fail
  go_loopw [5] (fun k wr => ∃ j : Nat, j ≤ f ∧ k = .int .i64 j ∧ w = wr) (fun k _ => f - (intOf k).toNat)
  case atStart => exact ⟨0, by omega, rfl, rfl⟩
  case round =>
    obtain ⟨j, hj, rfl, rfl⟩ := hrel
    by_cases hlt : j < R.length
    · obtain ⟨g, cap, q, e, hq, c0, c1, c2, hcap, hmax⟩ := row_cells H2.out hlt
      simp only [Value.slice.injEq] at e
      obtain ⟨rfl, _, rfl⟩ := e
      unfold maxLen at hmax
      by_cases hjf : j < f
      · have hne := HF.out j hjf q hq
        have hq1 : (q.1 == n) = false := by simp [hne]
        have HQ := Lib.hid hq; have HNE := Lib.hid hne; clear hq hne
        go_wp2_with fail
        go_roundw
        case rel => exact ⟨j + 1, by omega, by go_num, trivial⟩
        case measure => simp [intOf]; omega
      · obtain rfl : j = f := by omega
        have he := HG.out q hq
        have hq1 : (q.1 == n) = true := by simp [he]
        have HQ := Lib.hid hq; have HNE := Lib.hid he; clear hq he
        go_wp2_with fail
        go_ret
        exact ⟨rfl, rfl⟩
    · obtain rfl : j = f := by omega
      go_wp2_with fail
      go_ret
      exact ⟨rfl, rfl⟩

theorem Try.info57 : (Try.prog.info? 57).map (fun i => (i.zero, i.size, i.bytes)) = some (some (.agg #[.int .i64 0, .string ⟨#[]⟩, .int .i64 0]), 3, 32) := by kernel_rfl

/-- One more in a row. -/
theorem row_push {base : Nat} {w : World} {v : Value} {R : Tab} (h : w.ownsRow base 57 3 v R.length (stVals R)) (hb : base ≤ w.heap.size) (x : Int × ByteArray × Int) (hn : R.length ≤ 1000000) :
    ∃ A N C w', (Builtin.append_ #[41, 41] 41 #[v, .slice (some ⟨w.heap.size, 0, none⟩) 1 1]).run Try.prog (w.alloc (.cells #[.int .i64 x.1, .string x.2.1, .int .i64 x.2.2] 57)) = .ok (.slice A N C) w' ∧
      w'.ownsRow base 57 3 (.slice A N C) (R ++ [x]).length (stVals (R ++ [x])) ∧ Below base w w' := by
  obtain ⟨i0, hi, hz0, hz1, hz2⟩ := info_parts Try.info57
  obtain ⟨v', w', hrun, hown, hg, _⟩ := run_append_own (P := Try.prog) (w := w.alloc (.cells (stV x).toArray 57)) base 41 41 57 i0 _ 3 32 Try.underlying41 hi hz0 hz1 hz2 rfl (by decide) v R.length (stVals R) (h.alloc _)
    ⟨w.heap.size, 0, none⟩ 1 1 (stV x) rfl (by
      intro j u hj
      have e : (⟨w.heap.size, 0, none⟩ : Addr).add j = ⟨w.heap.size, j, none⟩ := by cases j <;> simp [Addr.add]
      rw [e, World.cell?_alloc_new]
      simpa using hj) (by intro u hu; simp [stV] at hu; rcases hu with rfl | rfl | rfl <;> rfl) (by unfold maxLen; omega) (by omega) (by simp; omega)
  obtain ⟨A, N, C, rfl⟩ := ownsRow_slice hown
  refine ⟨A, N, C, w', hrun, ?_, ⟨hg.os, hg.tape, hg.output, by have := hg.size; simp at this; omega, fun k hk => ?_⟩⟩
  · rw [stVals_append]; simpa [stVals] using hown
  · rw [hg.block k (by simp; omega) (fun e => by have := h.lt k e.symm; omega)]
    exact Below.heap_alloc _ _ _ (by omega)

/-- Where a ticket is put. -/
def putIx (R : Tab) (n : Int) : Nat := R.findIdx fun q => n < q.1
def putL (R : Tab) (s : Int × ByteArray × Int) : Tab := R.take (putIx R s.1) ++ s :: R.drop (putIx R s.1)
def outAt (R : Tab) (s : Int × ByteArray × Int) (k i : Nat) : Tab := if k < i then R.take k ++ s :: (R.drop k).take (i - k) else R.take i

theorem outAt_length (R : Tab) (s : Int × ByteArray × Int) (k i : Nat) (hi : i ≤ R.length) : (outAt R s k i).length ≤ i + 1 := by
  unfold outAt; split <;> simp <;> omega
theorem outAt_before {R : Tab} {s q : Int × ByteArray × Int} {k i : Nat} (h : i < k) (hq : R[i]? = some q) : outAt R s k (i + 1) = outAt R s k i ++ [q] := by
  unfold outAt
  rw [if_neg (by omega), if_neg (by omega), List.take_add_one, hq]; rfl
theorem outAt_at {R : Tab} {s q : Int × ByteArray × Int} {i : Nat} (hq : R[i]? = some q) : outAt R s i (i + 1) = outAt R s i i ++ [s] ++ [q] := by
  unfold outAt
  have hlt : i < R.length := (List.getElem?_eq_some_iff.1 hq).1
  rw [if_pos (by omega), if_neg (by omega), show i + 1 - i = 1 by omega, List.drop_eq_getElem_cons hlt]
  rw [List.getElem?_eq_getElem hlt] at hq
  simp only [Option.some.injEq] at hq
  simp [hq]
theorem outAt_behind {R : Tab} {s q : Int × ByteArray × Int} {k i : Nat} (h : k < i) (hq : R[i]? = some q) : outAt R s k (i + 1) = outAt R s k i ++ [q] := by
  unfold outAt
  rw [if_pos (by omega), if_pos (by omega), show i + 1 - k = (i - k) + 1 by omega, List.take_add_one, List.getElem?_drop, show k + (i - k) = i by omega, hq]
  simp
theorem outAt_end {R : Tab} {s : Int × ByteArray × Int} {k : Nat} (h : k < R.length) : outAt R s k R.length = R.take k ++ s :: R.drop k := by
  unfold outAt
  rw [if_pos h, List.take_of_length_le (l := R.drop k) (by simp)]
theorem outAt_last {R : Tab} {s : Int × ByteArray × Int} : outAt R s R.length R.length ++ [s] = R.take R.length ++ s :: R.drop R.length := by
  unfold outAt
  rw [if_neg (by omega)]; simp

end Go.Proofs.Ytkjfiofefndgkaa
