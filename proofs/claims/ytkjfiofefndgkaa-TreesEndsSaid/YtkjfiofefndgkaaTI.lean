/- The law: once the root is idle nothing is on its way and no book is busy: the walk. -/
import Derived.Test.YtkjfiofefndgkaaTH
namespace Go.Proofs.Ytkjfiofefndgkaa
set_option linter.unusedVariables false
set_option linter.unusedSimpArgs false
open Go.RowKit
open Go.ChangeMaps (setBlock)

/-- The argument: a row of steps. -/
def StepRow (w : World) (A : Option Addr) (len cap : Nat) (z : Nat → Int × Int × Int) : Prop :=
  len ≤ cap ∧ cap ≤ maxLen ∧ (len = 0 ∨ ∃ g o, A = some ⟨g, o, none⟩ ∧ g < w.heap.size ∧ ∀ i, i < len →
    w.cell? ⟨g, o + i * 3, none⟩ = some (.int .i64 (z i).1) ∧ w.cell? ⟨g, o + (i * 3 + 1), none⟩ = some (.int .i64 (z i).2.1) ∧ w.cell? ⟨g, o + (i * 3 + 2), none⟩ = some (.int .u8 (z i).2.2) ∧ 0 ≤ (z i).2.2 ∧ (z i).2.2 < 256)

/-- Behind k steps: the root is busy. -/
def DoneRel (base bp : Nat) (W : World) (k : Nat) (w : World) : Prop :=
  ∃ A : PS, PlayIs base bp A w ∧ Inv A ∧ (∃ x, A.st 0 = some x) ∧ A.way.length ≤ 2 * k ∧ Below base W w

set_option maxHeartbeats 2000000 in
set_option maxRecDepth 100000 in
theorem TreesDone_any (A : Option Addr) (len cap : Nat) (z : Nat → Int × Int × Int) (W : World) (hr : StepRow W A len cap z) :
    Calls Try.prog 3 #[.slice A len cap] W (BoolPost W true) := by
  have HR := Lib.hid hr; clear hr
  go_enter Try.func3, Try.ntmps3
  go_wp2_with fail
  obtain ⟨B, hB⟩ : ∃ B, B = W.heap.size := ⟨_, rfl⟩
  have hp0 : PartAt B B (W.alloc (Obj.cells #[Value.pointer none, Value.pointer none, Value.pointer none, Value.pointer none, Value.pointer none, Value.slice none 0 0] 28)) (fun _ => ⟨0, 0, 0, none⟩) 0 :=
    part_start (Nat.le_refl _) (by rw [hB]; exact at_new _ _) _
  have hb0 : Below B W (W.alloc (Obj.cells #[Value.pointer none, Value.pointer none, Value.pointer none, Value.pointer none, Value.pointer none, Value.slice none 0 0] 28)) := (Below.refl _ _).alloc (by omega) _
  rw [← hB]
  have HB := Lib.hid hB; clear hB
  go_loopw [10] (fun i wr => ∃ (k : Nat) (b : Nat → Bk), k ≤ 5 ∧ i = .int .i64 k ∧ PartAt B B wr b k ∧ Below B W wr) (fun i _ => 5 - (intOf i).toNat)
  case atStart => exact ⟨0, _, by omega, rfl, hp0, hb0⟩
  case round =>
    obtain ⟨k, b, hk5, rfl, hp, hbl⟩ := hrel
    clear hp0 hb0
    by_cases hlt : k < 5
    · go_wp2_with fail
      have HF : Hid (∀ w', TreesAt w' (wr.heap.size + 1) wr.heap.size [] → Touch (fun _ => False) wr.drew w' →
          PartAt B B (w'.setCell ⟨B, k, none⟩ (.pointer (some ⟨wr.heap.size + 1, 0, none⟩))) (setB b k ⟨wr.heap.size + 1, wr.heap.size, wr.heap.size + 1, none⟩) (k + 1) ∧
          Below B W (w'.setCell ⟨B, k, none⟩ (.pointer (some ⟨wr.heap.size + 1, 0, none⟩))) ∧ w'.cell? ⟨B, k, none⟩ = some (.pointer none) ∧ w'.frozen? ⟨B, k, none⟩ = false) := by
        intro w' h1 h2
        obtain ⟨f1, f2, f3, f4⟩ := hp.step (w' := w') hlt h1 ⟨h2.os, h2.tape, h2.output, h2.size, h2.block⟩
        exact ⟨f1, hbl.trans f2, f3, f4⟩
      clear hp hbl
      go_region_with (go_at_call 7; refine (New_any _).mono ?_; rintro e w' ⟨rfl, h1, h2⟩; obtain ⟨f1, f2, f3, f4⟩ := HF.out w' h1 h2; clear h1 h2)
      all_goals
        go_wp2_with fail
        go_roundw
        case rel => exact ⟨k + 1, _, by omega, by go_num, f1, f2⟩
        case measure => simp [intOf]; omega
    · obtain rfl : k = 5 := by omega
      obtain ⟨b', v, hp', hst⟩ := hp.play
      clear hp
      go_wp2_with fail
      refine (wakes_any _).mono ?_
      rintro e w1 ⟨rfl, h1⟩
      have hp1 := hp'.kept h1
      have hc0 := hp1.cell (k := 0) (by decide)
      have hT0 := hp1.tree 0 (by decide)
      rw [Bk.L_none (hst 0 (by decide))] at hT0
      have hbl1 : Below B W w1 := hbl.trans (h1.mono (by have := lt_of_block hp'.top; omega))
      clear hp' hbl
      go_wp2_with fail
      refine (Start_ok 1 _ _ _ _ hT0 may1 rfl).mono ?_
      rintro e w2 ⟨rfl, h2, t2⟩
      obtain ⟨hs0, hb2⟩ := PlayIs.start hp1 hst h2 t2
      have hbl2 := hbl1.trans hb2.below
      clear hp1 hT0 hst h1 h2 t2 hb2 hbl1 hc0
      obtain ⟨q1, q2, q3⟩ := HR.out
      obtain ⟨n, hn, hn1, hn2, hn3⟩ : ∃ n : Nat, (if (120 : Int) < (len : Int) then (120 : Int) else (len : Int)) = (n : Int) ∧ n ≤ len ∧ n ≤ 120 ∧ n ≤ cap := by
        by_cases h : (120 : Int) < (len : Int)
        · exact ⟨120, by rw [if_pos h]; rfl, by omega, by omega, by omega⟩
        · exact ⟨len, by rw [if_neg h], by omega, by omega, by omega⟩
      unfold maxLen at q2
      have Q3 := Lib.hid q3; clear q3
      have hlo : B ≤ w2.heap.size := hs0.base_le
      go_wp2_with fail
      have HS : Hid (DoneRel B B W 0 w2) := ⟨start0, hs0, start0_inv, ⟨_, rfl⟩, Nat.le_refl _, hbl2⟩
      clear hs0 hbl2 hn hlo
      go_loopw [37] (fun i wr => ∃ k : Nat, k ≤ n ∧ i = .int .i64 k ∧ DoneRel B B W k wr) (fun i _ => n - (intOf i).toNat)
      case atStart => exact ⟨0, Nat.zero_le _, rfl, HS.out⟩
      case round =>
        clear HS
        obtain ⟨k, hkn, rfl, A1, hp, hI, hroot, hwl, hbl⟩ := hrel
        by_cases hlt : k < n
        · have hlen0 : len ≠ 0 := by omega
          obtain ⟨g, o, rfl, hg, hz⟩ := Q3.out.resolve_left hlen0
          obtain ⟨z0, z1, z2, b0, b1⟩ := hz k (by omega)
          obtain ⟨D, hD⟩ : ∃ D, D = (z k).1 := ⟨_, rfl⟩
          obtain ⟨At, hAt⟩ : ∃ At, At = (z k).2.1 := ⟨_, rfl⟩
          obtain ⟨To, hTo⟩ : ∃ To, To = (z k).2.2 := ⟨_, rfl⟩
          rw [← hD] at z0; rw [← hAt] at z1; rw [← hTo] at z2 b0 b1
          clear hD hAt hTo hz
          have hgB : g < B := by rw [HB.out]; exact hg
          replace z0 := (hbl.cell (p := ⟨g, o + k * 3, none⟩) hgB).trans z0
          replace z1 := (hbl.cell (p := ⟨g, o + (k * 3 + 1), none⟩) hgB).trans z1
          replace z2 := (hbl.cell (p := ⟨g, o + (k * 3 + 2), none⟩) hgB).trans z2
          have y1 : wr.cell? ⟨g, o + k * 3 + 1, none⟩ = some (.int .i64 At) := z1
          have y2 : wr.cell? ⟨g, o + k * 3 + 2, none⟩ = some (.int .u8 To) := z2
          have hpb := hp.below ((Below.refl _ wr).alloc (Nat.le_refl _) (.cells #[.int .i64 D, .int .i64 At, .int .u8 To] 34))
          have hbox : (wr.alloc (.cells #[.int .i64 D, .int .i64 At, .int .u8 To] 34)).heap[wr.heap.size]? = some (.cells #[.int .i64 D, .int .i64 At, .int .u8 To] 34 (0, 0)) := at_new _ _
          have hblb : Below B W (wr.alloc (.cells #[.int .i64 D, .int .i64 At, .int .u8 To] 34)) := hbl.alloc hp.base_le _
          go_wp2_with fail
          refine (step_any B B A1 _ D At To hpb hI b0 b1 (by omega)).mono ?_
          rintro e w3 ⟨rfl, hp3, f3⟩
          have hbox3 := f3.box _ _ _ hbox
          have hbl3 := hblb.trans f3.below
          have hI3 := stepP_inv hI D At To
          have hw3 := stepP_way A1 D At To
          obtain ⟨c0, c2⟩ : w3.cell? ⟨wr.heap.size, 0, none⟩ = some (.int .i64 D) ∧ w3.cell? ⟨wr.heap.size, 2, none⟩ = some (.int .u8 To) := by
            simp [World.cell?, hbox3]
          obtain ⟨j, hj, hj5⟩ : ∃ j : Nat, To % 5 = (j : Int) ∧ j < 5 := ⟨(To % 5).toNat, by omega, by omega⟩
          clear hpb hp hbox hblb f3 hbl z0 z1 z2 y1 y2 hbox3
          by_cases hq : (bits BinOp.and IntKind.i64 D 3 == 2) = true
          · go_wp2_with fail
            refine (rest_any B B j _ _ hp3 hj5 (by omega)).mono ?_
            rintro e w4 ⟨rfl, hp4, f4⟩
            have hbl4 := hbl3.trans f4.below
            have hI4 := hI3.rest hj5
            have hw4 := rest_way j (stepP D At To A1)
            clear hp3 f4 c0 c2 hbl3
            obtain ⟨b5, v5, hp5, hst5⟩ := hp4
            have hc5 := hp5.cell (k := 0) (by decide)
            have hT5 := hp5.tree 0 (by decide)
            cases hr0 : (restA j (stepP D At To A1)).st 0 with
            | some x =>
              obtain ⟨xq, xd⟩ := x
              rw [Bk.L_some ((hst5 0 (by decide)).trans hr0)] at hT5
              have HB5 := Lib.hid (Busy_any 1 _ _ _ _ hT5 (wf_of_may may1))
              have HE : Hid (DoneRel B B W (k + 1) w4) := ⟨_, ⟨b5, v5, hp5, hst5⟩, hI4, ⟨_, hr0⟩, by omega, hbl4⟩
              clear hp5 hst5 hr0 hT5
              go_wp2_with (go_at_call 12; refine HB5.out.mono ?_; rintro e w' ⟨rfl, rfl⟩)
              go_roundw
              case rel => exact ⟨k + 1, by omega, by go_num, HE.out⟩
              case measure => simp [intOf]; omega
            | none =>
              obtain ⟨hall, hway⟩ := (hI4).done hr0
              rw [Bk.L_none ((hst5 0 (by decide)).trans hr0)] at hT5
              have HB5 : Hid (Calls Try.prog 12 #[.pointer (some ⟨(b5 0).t, 0, none⟩), .int .i64 1] w4 fun e w' => e = .returned (.bool false) ∧ w4 = w') := Busy_any 1 _ _ _ _ hT5 (wf_of_may may1)
              have HBs : Hid (∀ i, i < 5 → Calls Try.prog 12 #[.pointer (some ⟨(b5 i).t, 0, none⟩), .int .i64 1] w4 fun e w' => e = .returned (.bool false) ∧ w4 = w') := by
                intro i hi
                have := hp5.tree i hi
                rw [Bk.L_none ((hst5 i hi).trans (hall i hi))] at this
                exact Busy_any 1 _ _ _ _ this (wf_of_may may1)
              have HC5 : Hid (∀ i, i < 5 → (w4).cell? ⟨B, i, none⟩ = some (.pointer (some ⟨(b5 i).t, 0, none⟩))) := fun i hi => hp5.cell hi
              have hown := hp5.own
              obtain ⟨hcw, -⟩ := hp5.way?
              rw [hway] at hown
              obtain ⟨A', C', rfl⟩ : ∃ A' C', v5 = .slice A' 0 C' := by
                rcases hown.2 with ⟨rfl, _⟩ | ⟨g', cap', cur', rfl, _⟩
                · exact ⟨_, _, rfl⟩
                · exact ⟨_, _, rfl⟩
              have HW5 := Lib.hid hcw
              clear hp5 hst5 hr0 hT5 hall hway hown
              go_wp2_with (go_at_call 12; refine HB5.out.mono ?_; rintro e w' ⟨rfl, rfl⟩)
              clear hj hq hcw
              go_loopw [61] (fun i wx => wx = w4 ∧ ∃ m : Nat, m ≤ 5 ∧ i = .int .i64 m) (fun i _ => 5 - (intOf i).toNat)
              case atStart => exact ⟨rfl, 0, by omega, rfl⟩
              case round =>
                obtain ⟨rfl, m, hm, rfl⟩ := hrel
                by_cases hm5 : m < 5
                · have hcm := HC5.out m hm5
                  have HBm := Lib.hid (HBs.out m hm5)
                  go_wp2_with (go_at_call 12; refine HBm.out.mono ?_; rintro e w' ⟨rfl, rfl⟩)
                  go_roundw
                  case rel => exact ⟨trivial, m + 1, by omega, by go_num⟩
                  case measure => simp [intOf]; omega
                · have hcw := HW5.out
                  go_wp2_with fail
                  go_ret
                  exact ⟨rfl, by rw [← HB.out]; exact hbl4⟩
          · have hq' : (bits BinOp.and IntKind.i64 D 3 == 2) = false := by simpa using hq
            clear hq
            obtain ⟨b5, v5, hp5, hst5⟩ := hp3
            have hc5 := hp5.cell (k := 0) (by decide)
            have hT5 := hp5.tree 0 (by decide)
            cases hr0 : (stepP D At To A1).st 0 with
            | some x =>
              obtain ⟨xq, xd⟩ := x
              rw [Bk.L_some ((hst5 0 (by decide)).trans hr0)] at hT5
              have HB5 := Lib.hid (Busy_any 1 _ _ _ _ hT5 (wf_of_may may1))
              have HE : Hid (DoneRel B B W (k + 1) w3) := ⟨_, ⟨b5, v5, hp5, hst5⟩, hI3, ⟨_, hr0⟩, by omega, hbl3⟩
              clear hp5 hst5 hr0 hT5
              go_wp2_with (go_at_call 12; refine HB5.out.mono ?_; rintro e w' ⟨rfl, rfl⟩)
              go_roundw
              case rel => exact ⟨k + 1, by omega, by go_num, HE.out⟩
              case measure => simp [intOf]; omega
            | none =>
              obtain ⟨hall, hway⟩ := (hI3).done hr0
              rw [Bk.L_none ((hst5 0 (by decide)).trans hr0)] at hT5
              have HB5 : Hid (Calls Try.prog 12 #[.pointer (some ⟨(b5 0).t, 0, none⟩), .int .i64 1] w3 fun e w' => e = .returned (.bool false) ∧ w3 = w') := Busy_any 1 _ _ _ _ hT5 (wf_of_may may1)
              have HBs : Hid (∀ i, i < 5 → Calls Try.prog 12 #[.pointer (some ⟨(b5 i).t, 0, none⟩), .int .i64 1] w3 fun e w' => e = .returned (.bool false) ∧ w3 = w') := by
                intro i hi
                have := hp5.tree i hi
                rw [Bk.L_none ((hst5 i hi).trans (hall i hi))] at this
                exact Busy_any 1 _ _ _ _ this (wf_of_may may1)
              have HC5 : Hid (∀ i, i < 5 → (w3).cell? ⟨B, i, none⟩ = some (.pointer (some ⟨(b5 i).t, 0, none⟩))) := fun i hi => hp5.cell hi
              have hown := hp5.own
              obtain ⟨hcw, -⟩ := hp5.way?
              rw [hway] at hown
              obtain ⟨A', C', rfl⟩ : ∃ A' C', v5 = .slice A' 0 C' := by
                rcases hown.2 with ⟨rfl, _⟩ | ⟨g', cap', cur', rfl, _⟩
                · exact ⟨_, _, rfl⟩
                · exact ⟨_, _, rfl⟩
              have HW5 := Lib.hid hcw
              clear hp5 hst5 hr0 hT5 hall hway hown
              go_wp2_with (go_at_call 12; refine HB5.out.mono ?_; rintro e w' ⟨rfl, rfl⟩)
              clear hj hq' hcw
              go_loopw [61] (fun i wx => wx = w3 ∧ ∃ m : Nat, m ≤ 5 ∧ i = .int .i64 m) (fun i _ => 5 - (intOf i).toNat)
              case atStart => exact ⟨rfl, 0, by omega, rfl⟩
              case round =>
                obtain ⟨rfl, m, hm, rfl⟩ := hrel
                by_cases hm5 : m < 5
                · have hcm := HC5.out m hm5
                  have HBm := Lib.hid (HBs.out m hm5)
                  go_wp2_with (go_at_call 12; refine HBm.out.mono ?_; rintro e w' ⟨rfl, rfl⟩)
                  go_roundw
                  case rel => exact ⟨trivial, m + 1, by omega, by go_num⟩
                  case measure => simp [intOf]; omega
                · have hcw := HW5.out
                  go_wp2_with fail
                  go_ret
                  exact ⟨rfl, by rw [← HB.out]; exact hbl3⟩
        · go_wp2_with fail
          go_ret
          exact ⟨rfl, by rw [← HB.out]; exact hbl⟩
end Go.Proofs.Ytkjfiofefndgkaa
