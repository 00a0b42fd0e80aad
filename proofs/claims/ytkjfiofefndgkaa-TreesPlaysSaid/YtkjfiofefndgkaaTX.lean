/- The document's calls of a table of tickets: Sent, Signal, Rest. -/
import Derived.Test.YtkjfiofefndgkaaTW
import Derived.StillTailTactics
namespace Go.Proofs.Ytkjfiofefndgkaa
set_option linter.unusedVariables false
set_option linter.unusedSimpArgs false
open Go.RowKit
open Go.ChangeMaps (setBlock)

theorem stVals_set : ∀ (R : Tab) (i : Nat) (q : Int × ByteArray × Int) (d : Int), R[i]? = some q → stVals (R.set i (q.1, q.2.1, d)) = (stVals R).set (i * 3 + 2) (.int .i64 d)
  | [], i, q, d, h => by simp at h
  | y :: R, 0, q, d, h => by
    simp only [List.getElem?_cons_zero, Option.some.injEq] at h
    subst h; rfl
  | y :: R, i + 1, q, d, h => by
    simp only [List.getElem?_cons_succ] at h
    have ih := stVals_set R i q d h
    have e : stVals (y :: R) = stV y ++ stVals R := rfl
    have e2 : stVals ((y :: R).set (i + 1) (q.1, q.2.1, d)) = stV y ++ stVals (R.set i (q.1, q.2.1, d)) := rfl
    rw [e, e2, ih]
    have e1 : (i + 1) * 3 + 2 = (stV y).length + (i * 3 + 2) := by simp [stV]; omega
    rw [e1, List.set_append_right _ _ (by omega)]
    congr 2; omega

/-- A busy ticket's cell is written. -/
theorem RefIn.put {own : Nat → Prop} {w : World} {r : Nat} {R : Tab} (h : RefIn own w r R) {i : Nat} (hi : i < R.length) :
    ∃ g cap q, w.cell? ⟨r, 0, none⟩ = some (.slice (some ⟨g, 0, none⟩) R.length cap) ∧ R[i]? = some q ∧ w.cell? ⟨g, i * 3, none⟩ = some (.int .i64 q.1) ∧ w.cell? ⟨g, i * 3 + 1, none⟩ = some (.string q.2.1) ∧ w.cell? ⟨g, i * 3 + 2, none⟩ = some (.int .i64 q.2.2) ∧
      w.frozen? ⟨g, i * 3 + 2, none⟩ = false ∧ R.length ≤ cap ∧ cap ≤ maxLen ∧ ∀ nq d v, RefPost own w r (R.set i (q.1, q.2.1, d)) v (.returned v) ((w.drewN nq).setCell ⟨g, i * 3 + 2, none⟩ (.int .i64 d)) := by
  obtain ⟨v, h1, h2, h3⟩ := h.ex
  obtain ⟨g, cap, q, rfl, hq, c0, c1, c2, hcap, hmax⟩ := row_cells h2 hi
  rcases h2.2 with ⟨e, _⟩ | ⟨g', cap', cur, e, hg, hh, k1, k2, k3, k4⟩
  · simp at e
  simp only [Value.slice.injEq, Option.some.injEq, Addr.mk.injEq, and_true, true_and] at e
  obtain ⟨rfl, rfl⟩ := e
  have hgr : g ≠ r := fun e => by rw [e, h1] at hh; simp at hh
  refine ⟨g, cap, q, cell_of_one h1, hq, c0, c1, c2, by simp [World.frozen?, hh], hcap, hmax, fun nq d v => ⟨rfl, ?_, own, ⟨⟨_, ?_, ?_, h3⟩, h.r, fun k hk => ?_⟩, fun k => Or.inl⟩⟩
  · exact ((Touch.refl own w).drewN nq).setCell _ _ (fun _ => h3 g rfl)
  · rw [Below.heap_setCell _ _ _ _ (fun e => hgr e.symm)]; exact h1
  · refine ⟨by rw [stVals_length, List.length_set], Or.inr ⟨g, cap, cur.set! (i * 3 + 2) (.int .i64 d), by rw [List.length_set], Nat.zero_le _, ?_, by rw [List.length_set]; exact k1, k2, by simpa using k3, ?_⟩⟩
    · have := heap_setCell_same (w.drewN nq) g (i * 3 + 2) cur _ (.int .i64 d) hh
      simpa using this
    · rw [stVals_set R i q d hq, ← k4, List.length_set]
      simp only [Array.set!_eq_setIfInBounds, Array.toList_setIfInBounds]
      rw [List.take_set]
  · have : ((w.drewN nq).setCell ⟨g, i * 3 + 2, none⟩ (.int .i64 d)).heap.size = w.heap.size := by simp [World.setCell]
    rw [this]; exact h.lt k hk

theorem RefPost.drew {own : Nat → Prop} {w w' : World} {r : Nat} {R : Tab} {v : Value} {e : Ending} (h : RefPost own w r R v e w') : RefPost own w r R v e w'.drew := by
  obtain ⟨he, hT, own', ⟨⟨v, h1, h2, h3⟩, hr, hlt⟩, hk⟩ := h
  exact ⟨he, hT.drew, own', ⟨⟨v, h1, h2, h3⟩, hr, hlt⟩, hk⟩

def rsentR (R : Tab) (n : Int) : Int := if mayB n = false then 2 else if findIx R n < R.length then 0 else 12
def bumpAt (R : Tab) (i : Nat) (c : Int) : Tab := match R[i]? with | some q => R.set i (q.1, q.2.1, q.2.2 + c) | none => R
def rsentA (R : Tab) (n : Int) : Tab := if mayB n = false then R else if findIx R n < R.length then bumpAt R (findIx R n) 1 else R

set_option maxHeartbeats 2000000 in
set_option maxRecDepth 100000 in
theorem rsent_in {own : Nat → Prop} {w : World} {r : Nat} {R : Tab} (h : RefIn own w r R) (n : Int) (hl : R.length ≤ 1000) (hd : ∀ (i : Nat) (q : Int × ByteArray × Int), R[i]? = some q → 0 ≤ q.2.2 ∧ q.2.2 < 4611686018427387904) :
    Calls Try.prog 17 #[.pointer (some ⟨r, 0, none⟩), .int .i64 n] w (RefPost own w r (rsentA R n) (.int .i64 (rsentR R n))) := by
  unfold rsentA rsentR
  cases hm : mayB n with
  | false =>
    have HS := Lib.hid (h.same (.int .i64 2))
    have h' := may_out hm
    clear h hm hd
    rw [if_pos rfl, if_pos rfl]
    by_cases h1 : n < 1
    · clear h'
      go_enter Try.func17, Try.ntmps17
      go_wp2_with fail
      go_ret
      exact HS.out
    · have h2 : 9007199254740992 < n := by omega
      clear h'
      go_enter Try.func17, Try.ntmps17
      go_wp2_with fail
      go_ret
      exact HS.out
  | true =>
    obtain ⟨h1, h2⟩ := may_in hm
    clear hm
    rw [if_neg (show ¬ (true = false) by decide), if_neg (show ¬ (true = false) by decide)]
    by_cases hf : findIx R n < R.length
    · have HF := Lib.hid (find_there h n hl hf)
      rw [if_pos hf, if_pos hf]
      obtain ⟨f, hf'⟩ : ∃ f, f = findIx R n := ⟨_, rfl⟩
      rw [← hf'] at HF hf ⊢
      obtain ⟨g, cap, q, hc, hq, c0, c1, c2, hfr, hcap, hmax, hst⟩ := h.put hf
      obtain ⟨d0, d1⟩ := hd f q hq
      have HS : Hid (RefPost own w r (bumpAt R f 1) (.int .i64 0) (.returned (.int .i64 0)) (w.setCell ⟨g, f * 3 + 2, none⟩ (.int .i64 (q.2.2 + 1)))) := by
        show RefPost _ _ _ _ _ _ _
        unfold bumpAt
        rw [hq]
        exact hst 0 (q.2.2 + 1) (.int .i64 0)
      unfold maxLen at hmax
      clear h hf' hst hd hq
      go_enter Try.func17, Try.ntmps17
      go_wp2_with (go_at_call 25; refine HF.out.mono ?_; rintro e w' ⟨rfl, rfl⟩)
      go_still_tail 16, (by kernel_rfl)
      go_wp2_with fail
      go_ret
      exact HS.out.drew
    · have HF := Lib.hid (find_none h n hl hf)
      have HS := Lib.hid (h.same (.int .i64 12))
      rw [if_neg hf, if_neg hf]
      clear h hf hd
      go_enter Try.func17, Try.ntmps17
      go_wp2_with (go_at_call 25; refine HF.out.mono ?_; rintro e w' ⟨rfl, rfl⟩)
      go_ret
      exact HS.out

def rsignalR (R : Tab) (n : Int) : Int := if mayB n = false then 2 else match R[findIx R n]? with | some q => if q.2.2 = 0 then 12 else 0 | none => 12
def rsignalA (R : Tab) (n : Int) : Tab := if mayB n = false then R else match R[findIx R n]? with | some q => if q.2.2 = 0 then R else bumpAt R (findIx R n) (-1) | none => R

set_option maxHeartbeats 2000000 in
set_option maxRecDepth 100000 in
theorem rsignal_in {own : Nat → Prop} {w : World} {r : Nat} {R : Tab} (h : RefIn own w r R) (n : Int) (hl : R.length ≤ 1000) (hd : ∀ (i : Nat) (q : Int × ByteArray × Int), R[i]? = some q → 0 ≤ q.2.2 ∧ q.2.2 < 4611686018427387904) :
    Calls Try.prog 19 #[.pointer (some ⟨r, 0, none⟩), .int .i64 n] w (RefPost own w r (rsignalA R n) (.int .i64 (rsignalR R n))) := by
  unfold rsignalA rsignalR
  cases hm : mayB n with
  | false =>
    have HS := Lib.hid (h.same (.int .i64 2))
    have h' := may_out hm
    clear h hm hd
    rw [if_pos rfl, if_pos rfl]
    by_cases h1 : n < 1
    · clear h'
      go_enter Try.func19, Try.ntmps19
      go_wp2_with fail
      go_ret
      exact HS.out
    · have h2 : 9007199254740992 < n := by omega
      clear h'
      go_enter Try.func19, Try.ntmps19
      go_wp2_with fail
      go_ret
      exact HS.out
  | true =>
    obtain ⟨h1, h2⟩ := may_in hm
    clear hm
    rw [if_neg (show ¬ (true = false) by decide), if_neg (show ¬ (true = false) by decide)]
    by_cases hf : findIx R n < R.length
    · have HF := Lib.hid (find_there h n hl hf)
      obtain ⟨f, hf'⟩ : ∃ f, f = findIx R n := ⟨_, rfl⟩
      rw [← hf'] at HF hf ⊢
      obtain ⟨g, cap, q, hc, hq, c0, c1, c2, hfr, hcap, hmax, hst⟩ := h.put hf
      obtain ⟨d0, d1⟩ := hd f q hq
      unfold maxLen at hmax
      rw [hq]
      simp only
      by_cases h0 : q.2.2 = 0
      · rw [if_pos h0, if_pos h0]
        have HS := Lib.hid (h.same (.int .i64 12))
        have e0 : (q.2.2 == 0) = true := by simp [h0]
        clear h hf' hst hd hq h0
        go_enter Try.func19, Try.ntmps19
        go_wp2_with (go_at_call 25; refine HF.out.mono ?_; rintro e w' ⟨rfl, rfl⟩)
        go_ret
        exact HS.out
      · rw [if_neg h0, if_neg h0]
        have HS : Hid (RefPost own w r (bumpAt R f (-1)) (.int .i64 0) (.returned (.int .i64 0)) (w.setCell ⟨g, f * 3 + 2, none⟩ (.int .i64 (q.2.2 - 1)))) := by
          show RefPost _ _ _ _ _ _ _
          unfold bumpAt
          rw [hq]
          exact hst 0 (q.2.2 - 1) (.int .i64 0)
        have e0 : (q.2.2 == 0) = false := by simp [h0]
        clear h hf' hst hd hq h0
        go_enter Try.func19, Try.ntmps19
        go_wp2_with (go_at_call 25; refine HF.out.mono ?_; rintro e w' ⟨rfl, rfl⟩)
        go_still_tail 16, (by kernel_rfl)
        go_wp2_with fail
        go_ret
        exact HS.out.drew
    · have HF := Lib.hid (find_none h n hl hf)
      have HS := Lib.hid (h.same (.int .i64 12))
      rw [List.getElem?_eq_none (by omega)]
      clear h hf hd
      go_enter Try.func19, Try.ntmps19
      go_wp2_with (go_at_call 25; refine HF.out.mono ?_; rintro e w' ⟨rfl, rfl⟩)
      go_ret
      exact HS.out

def rrestR (R : Tab) (n : Int) : Value := match R[findIx R n]? with
  | some q => if q.2.2 = 0 then .tuple #[.string q.2.1, .bool (!q.2.1.toList.isEmpty)] else .tuple #[.string ⟨#[]⟩, .bool false]
  | none => .tuple #[.string ⟨#[]⟩, .bool false]
def rrestT (R : Tab) (n : Int) : Tab := match R[findIx R n]? with | some q => if q.2.2 = 0 then R.eraseIdx (findIx R n) else R | none => R

/-- What is kept of the first j, without the one at f. -/
def keptAt (R : Tab) (f j : Nat) : Tab := if f < j then R.take f ++ (R.drop (f + 1)).take (j - (f + 1)) else R.take j

theorem keptAt_length (R : Tab) (f j : Nat) (hj : j ≤ R.length) : (keptAt R f j).length ≤ j := by
  unfold keptAt; split <;> simp <;> omega
theorem keptAt_skip {R : Tab} {f : Nat} : keptAt R f (f + 1) = keptAt R f f := by
  unfold keptAt
  rw [if_pos (by omega), if_neg (by omega)]; simp
theorem keptAt_take {R : Tab} {q : Int × ByteArray × Int} {f j : Nat} (h : j ≠ f) (hq : R[j]? = some q) : keptAt R f (j + 1) = keptAt R f j ++ [q] := by
  unfold keptAt
  by_cases hf : f < j
  · rw [if_pos (by omega), if_pos hf, show j + 1 - (f + 1) = (j - (f + 1)) + 1 by omega, List.take_add_one, List.getElem?_drop, show f + 1 + (j - (f + 1)) = j by omega, hq]
    simp
  · rw [if_neg (by omega), if_neg hf, List.take_add_one, hq]; rfl
theorem keptAt_end {R : Tab} {f : Nat} (h : f < R.length) : keptAt R f R.length = R.eraseIdx f := by
  unfold keptAt
  rw [if_pos h, List.take_of_length_le (l := R.drop (f + 1)) (by simp), List.eraseIdx_eq_take_drop_succ]

def RestRel (B f : Nat) (R : Tab) (W : World) (vo : Value) (j : Nat) (w : World) : Prop :=
  (∃ A N C, vo = .slice A N C) ∧ w.ownsRow B 57 3 vo (keptAt R f j).length (stVals (keptAt R f j)) ∧ Below B W w

set_option maxHeartbeats 2000000 in
set_option maxRecDepth 100000 in
theorem rrest_in {own : Nat → Prop} {w : World} {r : Nat} {R : Tab} (h : RefIn own w r R) (n : Int) (hl : R.length ≤ 1000) :
    Calls Try.prog 21 #[.pointer (some ⟨r, 0, none⟩), .int .i64 n] w (RefPost own w r (rrestT R n) (rrestR R n)) := by
  unfold rrestT rrestR
  by_cases hf : findIx R n < R.length
  · have HF := Lib.hid (find_there h n hl hf)
    obtain ⟨f, hf'⟩ : ∃ f, f = findIx R n := ⟨_, rfl⟩
    rw [← hf'] at HF hf ⊢
    obtain ⟨g, cap, q, hc, hq, c0, c1, c2, hfr, hcap, hmax, -⟩ := h.put hf
    rw [hq]
    simp only
    by_cases h0 : q.2.2 = 0
    · rw [if_pos h0, if_pos h0]
      have e0 : (q.2.2 != 0) = false := by simp [h0]
      obtain ⟨B, hB⟩ : ∃ B, B = w.heap.size := ⟨_, rfl⟩
      have HS : Hid (∀ wr, Below B w wr → wr.cell? ⟨r, 0, none⟩ = some (.slice (some ⟨g, 0, none⟩) R.length cap) ∧ wr.frozen? ⟨r, 0, none⟩ = false ∧
          ∀ j, j < R.length → ∃ q, R[j]? = some q ∧ wr.cell? ⟨g, j * 3, none⟩ = some (.int .i64 q.1) ∧ wr.cell? ⟨g, j * 3 + 1, none⟩ = some (.string q.2.1) ∧ wr.cell? ⟨g, j * 3 + 2, none⟩ = some (.int .i64 q.2.2)) := by
        intro wr hb
        obtain ⟨v, k1, k2, k3⟩ := (h.below (hB ▸ hb)).ex
        obtain ⟨v0, h1, _⟩ := h.ex
        have hcw : wr.cell? ⟨r, 0, none⟩ = w.cell? ⟨r, 0, none⟩ := hb.cell (by have := lt_of_block h1; show r < B; omega)
        have hv : v = .slice (some ⟨g, 0, none⟩) R.length cap := by
          have := (cell_of_one k1).symm.trans (hcw.trans hc)
          simpa using this
        subst hv
        refine ⟨hcw.trans hc, by simp [World.frozen?, k1], fun j hj => ?_⟩
        obtain ⟨g', cap', q', e, hq', a0, a1, a2, _, _⟩ := row_cells k2 hj
        simp only [Value.slice.injEq, Option.some.injEq, Addr.mk.injEq, and_true, true_and] at e
        obtain ⟨rfl, rfl⟩ := e
        exact ⟨q', hq', a0, a1, a2⟩
      have HE : Hid (∀ wr vo v, Below B w wr → wr.ownsRow B 57 3 vo (R.eraseIdx f).length (stVals (R.eraseIdx f)) → RefPost own w r (R.eraseIdx f) v (.returned v) (wr.setCell ⟨r, 0, none⟩ vo)) := by
        intro wr vo v hb ho
        obtain ⟨v0, h1, _⟩ := h.ex
        exact ref_stored h h1 (Touch.of_below (hB ▸ hb)) (base := B) (by omega) ho _ ((hb.block r (by have := lt_of_block h1; omega)).trans h1)
      obtain ⟨P, hP⟩ : ∃ P, P = q.2.1 := ⟨_, rfl⟩
      rw [← hP] at c1 ⊢
      unfold maxLen at hmax
      have HH : Hid (B ≤ w.heap.size) := by rw [hB]; exact Nat.le_refl _
      clear h hf' h0 hq hP hB
      go_enter Try.func21, Try.ntmps21
      go_wp2_with (go_at_call 25; refine HF.out.mono ?_; rintro e w' ⟨rfl, rfl⟩)
      go_loopw [8, 9] (fun vo k wr => ∃ j : Nat, j ≤ R.length ∧ k = .int .i64 j ∧ RestRel B f R w vo j wr) (fun vo k _ => R.length - (intOf k).toNat)
      case atStart => exact ⟨0, by omega, rfl, ⟨_, _, _, rfl⟩, by simp [keptAt, World.ownsRow, stVals], Below.refl _ _⟩
      case round =>
        obtain ⟨j, hj, rfl, ⟨A0, N0, C0, rfl⟩, hown, hbl⟩ := hrel
        obtain ⟨hcr, hfrr, hrow⟩ := HS.out wr hbl
        have hBw : B ≤ wr.heap.size := Nat.le_trans HH.out hbl.size
        by_cases hlt : j < R.length
        · obtain ⟨q', hq', a0, a1, a2⟩ := hrow j hlt
          have hlen := keptAt_length R f j hj
          by_cases hjf : j = f
          · subst hjf
            have HO : Hid (RestRel B j R w (.slice A0 N0 C0) (j + 1) wr) := ⟨⟨_, _, _, rfl⟩, by rw [keptAt_skip]; exact hown, hbl⟩
            clear hown hrow hq'
            go_wp2_with fail
            go_roundw
            case rel => exact ⟨j + 1, by omega, by go_num, HO.out⟩
            case measure => simp [intOf]; omega
          · have hjf' : ((j : Int) != (f : Int)) = true := by simp; omega
            obtain ⟨A1, N1, C1, w1, hrun, hown1, hb1⟩ := row_push hown hBw q' (by omega)
            rw [← keptAt_take hjf hq'] at hown1
            have HR := Lib.hid hrun
            have HO : Hid (RestRel B f R w (.slice A1 N1 C1) (j + 1) w1) := ⟨⟨_, _, _, rfl⟩, hown1, hbl.trans hb1⟩
            clear hown hrow hq' hrun hown1 hb1 hjf
            go_wp2_with (at_builtin; refine wpList_append_eq rfl _ _ _ rfl _ _ rfl rfl HR.out ?_)
            go_roundw
            case rel => exact ⟨j + 1, by omega, by go_num, HO.out⟩
            case measure => simp [intOf]; omega
        · obtain rfl : j = R.length := by omega
          rw [keptAt_end hf] at hown
          have HF := Lib.hid (HE.out wr _ (.tuple #[.string P, .bool (!P.toList.isEmpty)]) hbl hown)
          clear hown hrow
          go_wp2_with fail
          go_ret2
          exact HF.out
    · rw [if_neg h0, if_neg h0]
      have e0 : (q.2.2 != 0) = true := by simp [h0]
      have HS := Lib.hid (h.same (.tuple #[.string ⟨#[]⟩, .bool false]))
      unfold maxLen at hmax
      clear h hf' h0 hq
      go_enter Try.func21, Try.ntmps21
      go_wp2_with (go_at_call 25; refine HF.out.mono ?_; rintro e w' ⟨rfl, rfl⟩)
      go_ret2
      exact HS.out
  · have HF := Lib.hid (find_none h n hl hf)
    have HS := Lib.hid (h.same (.tuple #[.string ⟨#[]⟩, .bool false]))
    rw [List.getElem?_eq_none (by omega)]
    clear h hf
    go_enter Try.func21, Try.ntmps21
    go_wp2_with (go_at_call 25; refine HF.out.mono ?_; rintro e w' ⟨rfl, rfl⟩)
    go_ret2
    exact HS.out
end Go.Proofs.Ytkjfiofefndgkaa
