/- The document's tables of tickets: put. -/
import Derived.Test.YtkjfiofefndgkaaTU
import Derived.Deep.DeepCutAuto
namespace Go.Proofs.Ytkjfiofefndgkaa
set_option linter.unusedVariables false
set_option linter.unusedSimpArgs false
open Go.RowKit
open Go.ChangeMaps (setBlock)

/-- In the loop of put, behind j places. -/
def PutRel (B p : Nat) (R : Tab) (s : Int × ByteArray × Int) (W : World) (vo vd : Value) (j : Nat) (w : World) : Prop :=
  vd = .bool (decide (p < j)) ∧ (∃ A N C, vo = .slice A N C) ∧ w.ownsRow B 57 3 vo (outAt R s p j).length (stVals (outAt R s p j)) ∧ Below B W w

theorem putIx_before {R : Tab} {n : Int} {j : Nat} {q : Int × ByteArray × Int} (h : j < putIx R n) (hq : R[j]? = some q) : ¬ n < q.1 := by
  intro e
  have := List.not_of_lt_findIdx (p := fun q : Int × ByteArray × Int => decide (n < q.1)) (xs := R) (i := j) h
  have hlt : j < R.length := (List.getElem?_eq_some_iff.1 hq).1
  rw [List.getElem?_eq_getElem hlt] at hq
  simp only [Option.some.injEq] at hq
  rw [hq] at this
  simp [e] at this
theorem putIx_at {R : Tab} {n : Int} {q : Int × ByteArray × Int} (hq : R[putIx R n]? = some q) : n < q.1 := by
  have hlt : putIx R n < R.length := (List.getElem?_eq_some_iff.1 hq).1
  have := List.findIdx_getElem (p := fun q : Int × ByteArray × Int => decide (n < q.1)) (xs := R) (w := hlt)
  rw [List.getElem?_eq_getElem hlt] at hq
  simp only [Option.some.injEq] at hq
  have e : R[putIx R n] = q := hq
  unfold putIx at e
  rw [e] at this
  simpa using this

theorem ownsRow_low {w : World} {base e size n : Nat} {v : Value} {xs : List Value} (h : w.ownsRow base e size v n xs) : w.ownsRow 0 e size v n xs :=
  ⟨h.1, h.2.imp id fun ⟨g, cap, cur, hv, _, r⟩ => ⟨g, cap, cur, hv, Nat.zero_le _, r⟩⟩

/-- A new row stands in the table's block. -/
theorem ref_stored {own : Nat → Prop} {w wr : World} {r base : Nat} {R R' : Tab} {v vo : Value} (h : RefIn own w r R) (h1 : w.heap[r]? = some (.cells #[v] 43 (0, 0))) (ht : Touch own w wr) (hbase : w.heap.size ≤ base)
    (ho : wr.ownsRow base 57 3 vo R'.length (stVals R')) (u : Value) (hr : wr.heap[r]? = some (.cells #[v] 43 (0, 0))) : RefPost own w r R' u (.returned u) (wr.setCell ⟨r, 0, none⟩ vo) := by
  have hrl := h.lt r h.r
  refine ⟨rfl, ht.setCell _ _ (fun _ => h.r), fun k => k = r ∨ vo.ownBlock = some k, ⟨⟨vo, ?_, ?_, fun k hk => Or.inr hk⟩, Or.inl rfl, fun k hk => ?_⟩, fun k hk => ?_⟩
  · have := heap_setCell_same wr r 0 _ _ vo hr
    simpa using this
  · refine ownsRow_setCell_other (ownsRow_low ho) (fun e => ?_) vo
    have := ho.lt _ e
    simp only at this; omega
  · have : (wr.setCell ⟨r, 0, none⟩ vo).heap.size = wr.heap.size := by simp [World.setCell]
    rw [this]
    rcases hk with rfl | hk
    · have := ht.size; omega
    · exact (ho.lt k hk).2
  · rcases hk with rfl | hk
    · exact Or.inl h.r
    · have := (ho.lt k hk).1; right; omega

theorem below_drewN {B : Nat} {a w : World} (h : Below B a w) (n : Nat) : Below B a (w.drewN n) := ⟨h.os, h.tape, h.output, h.size, h.block⟩

set_option maxHeartbeats 2000000 in
set_option maxRecDepth 100000 in
theorem put_any {own : Nat → Prop} {w : World} {r : Nat} {R : Tab} (h : RefIn own w r R) (tk dd : Int) (pp : ByteArray) (hl : R.length ≤ 1000) :
    Calls Try.prog 28 #[.pointer (some ⟨r, 0, none⟩), .agg #[.int .i64 tk, .string pp, .int .i64 dd]] w (RefPost own w r (putL R (tk, pp, dd)) (.tuple #[])) := by
  obtain ⟨v, h1, h2, h3⟩ := h.ex
  obtain ⟨A, N, C, rfl⟩ := ownsRow_slice h2
  have hN : N = R.length := by
    rcases h2.2 with ⟨e, h0⟩ | ⟨g, cap, cur, e, _⟩
    · simp only [Value.slice.injEq] at e; omega
    · simp only [Value.slice.injEq] at e; omega
  subst hN
  have H := Lib.hid h
  have hrlt := lt_of_block h1
  obtain ⟨B, hB⟩ : ∃ B, B = w.heap.size := ⟨_, rfl⟩
  obtain ⟨W, hW⟩ : ∃ W, W = w.alloc (.cells #[.int .i64 tk, .string pp, .int .i64 dd] 57) := ⟨_, rfl⟩
  have hWs : W.heap.size = B + 1 := by rw [hW, hB]; exact World.size_alloc _ _
  have HS : Hid (∀ wr, Below (B + 1) W wr → wr.cell? ⟨B, 0, none⟩ = some (.int .i64 tk) ∧ wr.cell? ⟨B, 1, none⟩ = some (.string pp) ∧ wr.cell? ⟨B, 2, none⟩ = some (.int .i64 dd) ∧ wr.cell? ⟨r, 0, none⟩ = some (.slice A R.length C) ∧ wr.frozen? ⟨r, 0, none⟩ = false ∧
      (∀ j, j < R.length → ∃ g q, A = some ⟨g, 0, none⟩ ∧ R[j]? = some q ∧ wr.cell? ⟨g, j * 3, none⟩ = some (.int .i64 q.1) ∧ wr.cell? ⟨g, j * 3 + 1, none⟩ = some (.string q.2.1) ∧ wr.cell? ⟨g, j * 3 + 2, none⟩ = some (.int .i64 q.2.2) ∧ R.length ≤ C ∧ C ≤ maxLen)) := by
    intro wr hb
    have hnew : wr.heap[B]? = some (.cells #[.int .i64 tk, .string pp, .int .i64 dd] 57 (0, 0)) := by
      rw [hb.block B (by omega), hW, hB]; exact at_new _ _
    have hold : ∀ k, k < B → wr.heap[k]? = w.heap[k]? := fun k hk => by
      rw [hb.block k (by omega), hW]; exact Below.heap_alloc _ _ _ (by omega)
    refine ⟨by simp [World.cell?, hnew], by simp [World.cell?, hnew], by simp [World.cell?, hnew], cell_of_one ((hold r (by omega)).trans h1), by simp [World.frozen?, (hold r (by omega)).trans h1], fun j hj => ?_⟩
    obtain ⟨g, cap, q, e, hq, c0, c1, c2, hcap, hmax⟩ := row_cells h2 hj
    simp only [Value.slice.injEq] at e
    obtain ⟨rfl, _, rfl⟩ := e
    have hg : g < B := by have := (h2.lt g rfl).2; omega
    have hc : ∀ i, wr.cell? ⟨g, i, none⟩ = w.cell? ⟨g, i, none⟩ := fun i => by simp only [World.cell?]; rw [hold g hg]
    exact ⟨g, q, rfl, hq, (hc _).trans c0, (hc _).trans c1, (hc _).trans c2, hcap, hmax⟩
  have HE : Hid (∀ wr vo, Below (B + 1) W wr → wr.ownsRow (B + 1) 57 3 vo (putL R (tk, pp, dd)).length (stVals (putL R (tk, pp, dd))) → RefPost own w r (putL R (tk, pp, dd)) (.tuple #[]) (.returned (.tuple #[])) (wr.setCell ⟨r, 0, none⟩ vo)) := by
    intro wr vo hb ho
    exact ref_stored H.out h1 (by
      have hold : ∀ k, k < B → wr.heap[k]? = w.heap[k]? := fun k hk => by
        rw [hb.block k (by omega), hW]; exact Below.heap_alloc _ _ _ (by omega)
      refine ⟨?_, ?_, ?_, ?_, fun k hk _ => hold k (by omega)⟩
      · rw [hb.os, hW]; rfl
      · rw [hb.tape, hW]; rfl
      · rw [hb.output, hW]; rfl
      · have := hb.size; omega) (base := B + 1) (by omega) ho _ (by rw [hb.block r (by omega), hW]; exact (Below.heap_alloc _ _ _ (by omega)).trans h1)
  have hpl : putIx R tk ≤ R.length := List.findIdx_le_length
  have HB1 : Hid (∀ j q, j < putIx R tk → R[j]? = some q → ¬ tk < q.1) := fun j q hj hq => putIx_before hj hq
  have HB2 : Hid (∀ q, R[putIx R tk]? = some q → tk < q.1) := fun q hq => putIx_at hq
  have HPL : Hid (putL R (tk, pp, dd) = R.take (putIx R tk) ++ (tk, pp, dd) :: R.drop (putIx R tk)) := rfl
  obtain ⟨PL, hPL⟩ : ∃ PL, PL = putL R (tk, pp, dd) := ⟨_, rfl⟩
  obtain ⟨p, hp⟩ : ∃ p, p = putIx R tk := ⟨_, rfl⟩
  rw [← hPL] at HE HPL ⊢
  rw [← hp] at HB1 HB2 HPL hpl
  clear h hPL hp h1 h2 h3
  go_enter Try.func28, Try.ntmps28
  go_wp2_with fail
  rw [← hB, ← hW]
  have HW := Lib.hid hW; have HBB := Lib.hid hB; clear hW hB
  go_loopw [4, 5, 6] (fun vo vd k wr => ∃ j : Nat, j ≤ R.length ∧ k = .int .i64 j ∧ PutRel (B + 1) p R (tk, pp, dd) W vo vd j wr) (fun vo vd k _ => R.length - (intOf k).toNat)
  case atStart => exact ⟨0, by omega, rfl, rfl, ⟨_, _, _, rfl⟩, by simp [outAt, World.ownsRow, stVals], Below.refl _ _⟩
  case round =>
    obtain ⟨j, hj, rfl, rfl, ⟨A0, N0, C0, rfl⟩, hown, hbl⟩ := hrel
    obtain ⟨s0, s1, s2, hcr, hfr, hrow⟩ := HS.out wr hbl
    have hsz := hbl.size
    by_cases hlt : j < R.length
    · obtain ⟨g, q, rfl, hq, c0, c1, c2, hcap, hmax⟩ := hrow j hlt
      unfold maxLen at hmax
      rcases Nat.lt_trichotomy j p with hjp | rfl | hjp
      · rw [decide_eq_false (show ¬ p < j by omega)]
        have hn : decide (tk < q.1) = false := decide_eq_false (by have := HB1.out j q hjp hq; omega)
        have hlen := outAt_length R (tk, pp, dd) p j hj
        have HP : Hid (∀ nq, ∃ A N C w', (Builtin.append_ #[41, 41] 41 #[.slice A0 N0 C0, .slice (some ⟨wr.heap.size, 0, none⟩) 1 1]).run Try.prog ((wr.drewN nq).alloc (.cells #[.int .i64 q.1, .string q.2.1, .int .i64 q.2.2] 57)) = .ok (.slice A N C) w' ∧
            PutRel (B + 1) p R (tk, pp, dd) W (.slice A N C) (.bool false) (j + 1) w') := by
          intro nq
          obtain ⟨A1, N1, C1, w1, hrun, hown1, hb1⟩ := row_push (w := wr.drewN nq) hown (by show _ ≤ wr.heap.size; omega) q (by omega)
          rw [← outAt_before hjp hq] at hown1
          exact ⟨A1, N1, C1, w1, hrun, by rw [decide_eq_false]; omega, ⟨_, _, _, rfl⟩, hown1, (below_drewN hbl nq).trans hb1⟩
        clear hown hq hrow
        go_wp2_with fail
        go_quiet (fail)
        obtain ⟨A1, N1, C1, w1, hrun, HO⟩ := HP.out nq
        have HR := Lib.hid hrun; clear hrun HP
        go_wp2_with (at_builtin; refine wpList_append_eq rfl _ _ _ rfl _ _ rfl rfl HR.out ?_)
        go_roundw
        case rel => exact ⟨j + 1, by omega, by go_num, HO⟩
        case measure => simp [intOf]; omega
      · rw [decide_eq_false (show ¬ j < j by omega)]
        have hn : decide (tk < q.1) = true := decide_eq_true (by have := HB2.out q hq; omega)
        have hlen := outAt_length R (tk, pp, dd) j j hj
        have HP : Hid (∀ nq, ∃ A N C w', (Builtin.append_ #[41, 41] 41 #[.slice A0 N0 C0, .slice (some ⟨wr.heap.size, 0, none⟩) 1 1]).run Try.prog ((wr.drewN nq).alloc (.cells #[.int .i64 tk, .string pp, .int .i64 dd] 57)) = .ok (.slice A N C) w' ∧
            Below (B + 1) W w' ∧ ∃ A2 N2 C2 w2, (Builtin.append_ #[41, 41] 41 #[.slice A N C, .slice (some ⟨w'.heap.size, 0, none⟩) 1 1]).run Try.prog (w'.alloc (.cells #[.int .i64 q.1, .string q.2.1, .int .i64 q.2.2] 57)) = .ok (.slice A2 N2 C2) w2 ∧
            PutRel (B + 1) j R (tk, pp, dd) W (.slice A2 N2 C2) (.bool true) (j + 1) w2) := by
          intro nq
          obtain ⟨A1, N1, C1, w1, hrun, hown1, hb1⟩ := row_push (w := wr.drewN nq) hown (by show _ ≤ wr.heap.size; omega) (tk, pp, dd) (by omega)
          have hbl1 := (below_drewN hbl nq).trans hb1
          obtain ⟨A2, N2, C2, w2, hrun2, hown2, hb2⟩ := row_push (w := w1) hown1 (by have := hbl1.size; omega) q (by simp; omega)
          rw [← outAt_at hq] at hown2
          exact ⟨A1, N1, C1, w1, hrun, hbl1, A2, N2, C2, w2, hrun2, by rw [decide_eq_true]; omega, ⟨_, _, _, rfl⟩, hown2, hbl1.trans hb2⟩
        have HQ := Lib.hid hq
        clear hown hq hrow
        go_wp2_with fail
        go_quiet (fail)
        obtain ⟨A1, N1, C1, w1, hrun, hbl1, A2, N2, C2, w2, hrun2, HO⟩ := HP.out nq
        have HR := Lib.hid hrun; have HR2 := Lib.hid hrun2; clear hrun hrun2 HP
        obtain ⟨s0', s1', s2', hcr', hfr', hrow'⟩ := HS.out w1 hbl1
        obtain ⟨g', q', e', hq', c0', c1', c2', -, -⟩ := hrow' j hlt
        obtain rfl : g = g' := by simpa using e'
        obtain rfl : q = q' := by have := HQ.out; rw [hq'] at this; simpa using this.symm
        clear hq' hrow'
        go_wp2_with (first | (at_builtin; refine wpList_append_eq rfl _ _ _ rfl _ _ rfl rfl HR.out ?_) | (at_builtin; refine wpList_append_eq rfl _ _ _ rfl _ _ rfl rfl HR2.out ?_))
        go_roundw
        case rel => exact ⟨j + 1, by omega, by go_num, HO⟩
        case measure => simp [intOf]; omega
      · rw [decide_eq_true (show p < j by omega)]
        have hlen := outAt_length R (tk, pp, dd) p j hj
        have HP : Hid (∀ nq, ∃ A N C w', (Builtin.append_ #[41, 41] 41 #[.slice A0 N0 C0, .slice (some ⟨wr.heap.size, 0, none⟩) 1 1]).run Try.prog ((wr.drewN nq).alloc (.cells #[.int .i64 q.1, .string q.2.1, .int .i64 q.2.2] 57)) = .ok (.slice A N C) w' ∧
            PutRel (B + 1) p R (tk, pp, dd) W (.slice A N C) (.bool true) (j + 1) w') := by
          intro nq
          obtain ⟨A1, N1, C1, w1, hrun, hown1, hb1⟩ := row_push (w := wr.drewN nq) hown (by show _ ≤ wr.heap.size; omega) q (by omega)
          rw [← outAt_behind hjp hq] at hown1
          exact ⟨A1, N1, C1, w1, hrun, by rw [decide_eq_true]; omega, ⟨_, _, _, rfl⟩, hown1, (below_drewN hbl nq).trans hb1⟩
        clear hown hq hrow
        go_wp2_with fail
        go_quiet (fail)
        obtain ⟨A1, N1, C1, w1, hrun, HO⟩ := HP.out nq
        have HR := Lib.hid hrun; clear hrun HP
        go_wp2_with (at_builtin; refine wpList_append_eq rfl _ _ _ rfl _ _ rfl rfl HR.out ?_)
        go_roundw
        case rel => exact ⟨j + 1, by omega, by go_num, HO⟩
        case measure => simp [intOf]; omega
    · obtain rfl : j = R.length := by omega
      by_cases hp : p < R.length
      · rw [decide_eq_true hp]
        rw [outAt_end hp, ← HPL.out] at hown
        have HF := Lib.hid (HE.out wr _ hbl hown)
        clear hown hrow
        go_wp2_with fail
        go_end0
        exact HF.out
      · obtain rfl : p = R.length := by omega
        rw [decide_eq_false hp]
        have hlen := outAt_length R (tk, pp, dd) R.length R.length hj
        obtain ⟨A1, N1, C1, w1, hrun, hown1, hb1⟩ := row_push hown (by omega) (tk, pp, dd) (by omega)
        rw [outAt_last, ← HPL.out] at hown1
        have hbl1 := hbl.trans hb1
        have HF := Lib.hid (HE.out w1 _ hbl1 hown1)
        obtain ⟨s0', s1', s2', hcr', hfr', hrow'⟩ := HS.out w1 hbl1
        have HR := Lib.hid hrun
        clear hown hrow hown1 hrow' hrun
        go_wp2_with (at_builtin; refine wpList_append_eq rfl _ _ _ rfl _ _ rfl rfl HR.out ?_)
        go_end0
        exact HF.out
end Go.Proofs.Ytkjfiofefndgkaa
