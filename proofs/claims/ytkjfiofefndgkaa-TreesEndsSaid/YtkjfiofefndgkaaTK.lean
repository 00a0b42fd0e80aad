/- The law: once nothing more is sent and all has come the root is idle: the walk. -/
import Derived.Test.YtkjfiofefndgkaaTI
namespace Go.Proofs.Ytkjfiofefndgkaa
set_option linter.unusedVariables false
set_option linter.unusedSimpArgs false
open Go.RowKit
open Go.ChangeMaps (setBlock)

theorem step_left {A : PS} (h : Inv A) (D At To : Int) : left (stepP D At To A) ≤ left A + 2 := by
  unfold stepP
  split
  · split
    · omega
    · rename_i q d hs
      split
      · omega
      · have h1 := busy_set (st := A.st) (i := (max 0 At).toNat % 5) (by omega) (some (q, d + 1)) (heavy A.way)
        have h2 : heavy (A.way ++ [⟨(max 0 At).toNat % 5, To.toNat % 5, false⟩]) = heavy A.way + 2 := by rw [heavy_append]; rfl
        rw [hs] at h1
        simp only [busyN, Option.isSome_some, if_true] at h1
        unfold left busyN; simp only; rw [h2]; omega
  · split
    · omega
    · rename_i hw
      have hpos : 0 < A.way.length := by
        cases hA : A.way with
        | nil => exact absurd hA hw
        | cons x l => simp
      have := comes_left h (List.getElem?_eq_getElem (Nat.mod_lt (max 0 At).toNat hpos))
      omega

/-- The zero step: the first message comes. -/
theorem step0 {A : PS} (h : Inv A) (hw : A.way ≠ []) : left (stepP 0 0 0 A) + 1 ≤ left A := by
  have hb : ¬ (bits BinOp.and IntKind.i64 0 1 == 1) = true := by decide
  unfold stepP
  rw [if_neg hb, if_neg hw]
  have hpos : 0 < A.way.length := by
    cases hA : A.way with
    | nil => exact absurd hA hw
    | cons x l => simp
  exact comes_left h (List.getElem?_eq_getElem (Nat.mod_lt _ hpos))

/-- The first n books have rested. -/
def restN : Nat → PS → PS
  | 0, A => A
  | n + 1, A => restA n (restN n A)
theorem restN_way (A : PS) : ∀ n, (restN n A).way.length ≤ A.way.length + n
  | 0 => Nat.le_refl _
  | n + 1 => Nat.le_trans (rest_way n _) (by have := restN_way A n; omega)

def EndRel (base bp : Nat) (W : World) (k l : Nat) (w : World) : Prop :=
  ∃ A : PS, PlayIs base bp A w ∧ Inv A ∧ left A ≤ l ∧ A.way.length ≤ 6 * k ∧ Below base W w

def RestRel (base bp : Nat) (W : World) (A : PS) (n : Nat) (w : World) : Prop := PlayIs base bp (restN n A) w ∧ Below base W w

set_option maxHeartbeats 2000000 in
set_option maxRecDepth 100000 in
theorem TreesEnds_any (A : Option Addr) (len cap : Nat) (z : Nat → Int × Int × Int) (W : World) (hr : StepRow W A len cap z) :
    Calls Try.prog 4 #[.slice A len cap] W (BoolPost W true) := by
  have HR := Lib.hid hr; clear hr
  go_enter Try.func4, Try.ntmps4
  go_wp2_with fail
  obtain ⟨B, hB⟩ : ∃ B, B = W.heap.size := ⟨_, rfl⟩
  have hp0 : PartAt B B (W.alloc (Obj.cells #[Value.pointer none, Value.pointer none, Value.pointer none, Value.pointer none, Value.pointer none, Value.slice none 0 0] 28)) (fun _ => ⟨0, 0, 0, none⟩) 0 :=
    part_start (Nat.le_refl _) (by rw [hB]; exact at_new _ _) _
  have hb0 : Below B W (W.alloc (Obj.cells #[Value.pointer none, Value.pointer none, Value.pointer none, Value.pointer none, Value.pointer none, Value.slice none 0 0] 28)) := (Below.refl _ _).alloc (by omega) _
  rw [← hB]
  have HB := Lib.hid hB; clear hB
  go_loopw [11] (fun i wr => ∃ (k : Nat) (b : Nat → Bk), k ≤ 5 ∧ i = .int .i64 k ∧ PartAt B B wr b k ∧ Below B W wr) (fun i _ => 5 - (intOf i).toNat)
  case atStart => exact ⟨0, _, by omega, rfl, hp0, hb0⟩
  case round =>
    obtain ⟨k, b, hk5, rfl, hp, hbl⟩ := hrel
    clear hp0 hb0
    by_cases hlt : k < 5
    · go_wp2_with fail
      have HF : Hid (∀ w', TreesAt w' (wr.heap.size + 1) wr.heap.size [] → Touch (fun _ => False) wr.drew w' →
          PartAt B B (w'.setCell ⟨B, k, none⟩ (.pointer (some ⟨wr.heap.size + 1, 0, none⟩))) (setB b k ⟨wr.heap.size + 1, wr.heap.size, wr.heap.size + 1, none⟩) (k + 1) ∧
          Below B W (w'.setCell ⟨B, k, none⟩ (.pointer (some ⟨wr.heap.size + 1, 0, none⟩))) ∧ w'.cell? ⟨B, k, none⟩ = some (.pointer none) ∧ w'.frozen? ⟨B, k, none⟩ = false) := by
        intro w' h1 h2
        obtain ⟨f1, f2, f3, f4⟩ := hp.step (w' := w') hlt h1 ⟨h2.os, h2.tape, h2.output, h2.size, h2.block⟩
        exact ⟨f1, hbl.trans f2, f3, f4⟩
      clear hp hbl
      go_region_with (go_at_call 7; refine (New_any _).mono ?_; rintro e w' ⟨rfl, h1, h2⟩; obtain ⟨f1, f2, f3, f4⟩ := HF.out w' h1 h2; clear h1 h2)
      all_goals
        go_wp2_with fail
        go_roundw
        case rel => exact ⟨k + 1, _, by omega, by go_num, f1, f2⟩
        case measure => simp [intOf]; omega
    · obtain rfl : k = 5 := by omega
      obtain ⟨b', v, hp', hst⟩ := hp.play
      clear hp
      go_wp2_with fail
      refine (wakes_any _).mono ?_
      rintro e w1 ⟨rfl, h1⟩
      have hp1 := hp'.kept h1
      have hc0 := hp1.cell (k := 0) (by decide)
      have hT0 := hp1.tree 0 (by decide)
      rw [Bk.L_none (hst 0 (by decide))] at hT0
      have hbl1 : Below B W w1 := hbl.trans (h1.mono (by have := lt_of_block hp'.top; omega))
      clear hp' hbl
      go_wp2_with fail
      refine (Start_ok 1 _ _ _ _ hT0 may1 rfl).mono ?_
      rintro e w2 ⟨rfl, h2, t2⟩
      obtain ⟨hs0, hb2⟩ := PlayIs.start hp1 hst h2 t2
      have hbl2 := hbl1.trans hb2.below
      clear hp1 hT0 hst h1 h2 t2 hb2 hbl1 hc0
      obtain ⟨q1, q2, q3⟩ := HR.out
      obtain ⟨n, hn, hn1, hn2, hn3⟩ : ∃ n : Nat, (if (100 : Int) < (len : Int) then (100 : Int) else (len : Int)) = (n : Int) ∧ n ≤ len ∧ n ≤ 100 ∧ n ≤ cap := by
        by_cases h : (100 : Int) < (len : Int)
        · exact ⟨100, by rw [if_pos h]; rfl, by omega, by omega, by omega⟩
        · exact ⟨len, by rw [if_neg h], by omega, by omega, by omega⟩
      unfold maxLen at q2
      have Q3 := Lib.hid q3; clear q3
      have hlo : B ≤ w2.heap.size := hs0.base_le
      go_wp2_with fail
      have HS : Hid (EndRel B B W 0 1 w2) := ⟨start0, hs0, start0_inv, by decide, by decide, hbl2⟩
      clear hs0 hbl2 hn hlo
      go_loopw [38] (fun i wr => ∃ k : Nat, k ≤ n ∧ i = .int .i64 k ∧ EndRel B B W k (1 + 2 * k) wr) (fun i _ => n - (intOf i).toNat)
      case atStart => exact ⟨0, Nat.zero_le _, rfl, HS.out⟩
      case round =>
        clear HS
        obtain ⟨k, hkn, rfl, A1, hp, hI, hlf, hwl, hbl⟩ := hrel
        by_cases hlt : k < n
        · have hlen0 : len ≠ 0 := by omega
          obtain ⟨g, o, rfl, hg, hz⟩ := Q3.out.resolve_left hlen0
          obtain ⟨z0, z1, z2, b0, b1⟩ := hz k (by omega)
          obtain ⟨D, hD⟩ : ∃ D, D = (z k).1 := ⟨_, rfl⟩
          obtain ⟨At, hAt⟩ : ∃ At, At = (z k).2.1 := ⟨_, rfl⟩
          obtain ⟨To, hTo⟩ : ∃ To, To = (z k).2.2 := ⟨_, rfl⟩
          rw [← hD] at z0; rw [← hAt] at z1; rw [← hTo] at z2 b0 b1
          clear hD hAt hTo hz
          have hgB : g < B := by rw [HB.out]; exact hg
          replace z0 := (hbl.cell (p := ⟨g, o + k * 3, none⟩) hgB).trans z0
          replace z1 := (hbl.cell (p := ⟨g, o + (k * 3 + 1), none⟩) hgB).trans z1
          replace z2 := (hbl.cell (p := ⟨g, o + (k * 3 + 2), none⟩) hgB).trans z2
          have y1 : wr.cell? ⟨g, o + k * 3 + 1, none⟩ = some (.int .i64 At) := z1
          have y2 : wr.cell? ⟨g, o + k * 3 + 2, none⟩ = some (.int .u8 To) := z2
          have hpb := hp.below ((Below.refl _ wr).alloc (Nat.le_refl _) (.cells #[.int .i64 D, .int .i64 At, .int .u8 To] 34))
          have hblb : Below B W (wr.alloc (.cells #[.int .i64 D, .int .i64 At, .int .u8 To] 34)) := hbl.alloc hp.base_le _
          go_wp2_with fail
          refine (step_any B B A1 _ D At To hpb hI b0 b1 (by omega)).mono ?_
          rintro e w3 ⟨rfl, hp3, f3⟩
          have hw3 := stepP_way A1 D At To
          have hl3 := step_left hI D At To
          have HE : Hid (EndRel B B W (k + 1) (1 + 2 * (k + 1)) w3) := ⟨_, hp3, stepP_inv hI D At To, by omega, by omega, hblb.trans f3.below⟩
          clear hpb hp hblb f3 hbl z0 z1 z2 y1 y2 hp3 hw3 hl3
          go_wp2_with fail
          go_roundw
          case rel => exact ⟨k + 1, by omega, by go_num, HE.out⟩
          case measure => simp [intOf]; omega
        · have HS2 : Hid (EndRel B B W (100 + 0) (201 - 0) wr) := ⟨A1, hp, hI, by omega, by omega, hbl⟩
          clear hp hI hlf hwl hbl
          go_wp2_with fail
          go_loopw [47] (fun i wr => ∃ m : Nat, m ≤ 201 ∧ i = .int .i64 m ∧ EndRel B B W (100 + m) (201 - m) wr) (fun i _ => 1000 - (intOf i).toNat)
          case atStart => exact ⟨0, by omega, rfl, HS2.out⟩
          case round =>
            clear HS2
            obtain ⟨m, hm, rfl, A2, hp, hI, hlf, hwl, hbl⟩ := hrel
            have HR2 : Hid (RestRel B B W A2 0 wr) := ⟨hp, hbl⟩
            clear hp hbl
            have hwN := restN_way A2
            have HWN := Lib.hid hwN; clear hwN
            have hm1 : m < 1000 := by omega
            have hmd : decide ((m : Int) < 1000) = true := by simp; omega
            go_wp2_with fail
            clear hmd
            go_loopw [49] (fun i wr => ∃ j : Nat, j ≤ 5 ∧ i = .int .i64 j ∧ RestRel B B W A2 j wr) (fun i _ => 5 - (intOf i).toNat)
            case atStart => exact ⟨0, by omega, rfl, HR2.out⟩
            case round =>
              clear HR2
              obtain ⟨j, hj, rfl, hp, hbl⟩ := hrel
              have hwj := HWN.out j
              by_cases hj5 : j < 5
              · go_wp2_with fail
                refine (rest_any B B j _ _ hp hj5 (by omega)).mono ?_
                rintro e w4 ⟨rfl, hp4, f4⟩
                have HE : Hid (RestRel B B W A2 (j + 1) w4) := ⟨hp4, hbl.trans f4.below⟩
                clear hp hbl hp4 f4
                go_wp2_with fail
                go_roundw
                case rel => exact ⟨j + 1, by omega, by go_num, HE.out⟩
                case measure => simp [intOf]; omega
              · obtain rfl : j = 5 := by omega
                have hp5 : PlayIs B B (restAll A2) wr := hp
                have hI5 := restAll_inv hI
                have hl5 := restAll_left A2
                have hw5 : (restAll A2).way.length ≤ A2.way.length + 5 := hwj
                have hno := restAll_no A2
                clear hp hwj
                obtain ⟨A5, hA5⟩ : ∃ A5, A5 = restAll A2 := ⟨_, rfl⟩
                rw [← hA5] at hp5 hI5 hl5 hw5 hno
                clear hA5
                by_cases hway : A5.way = []
                · have hall := hI5.quiet hway hno
                  obtain ⟨b5, v5, hp6, hst5⟩ := hp5
                  have HBs : Hid (∀ i, i < 5 → Calls Try.prog 12 #[.pointer (some ⟨(b5 i).t, 0, none⟩), .int .i64 1] wr fun e w' => e = .returned (.bool false) ∧ wr = w') := by
                    intro i hi
                    have := hp6.tree i hi
                    rw [Bk.L_none ((hst5 i hi).trans (hall i hi))] at this
                    exact Busy_any 1 _ _ _ _ this (wf_of_may may1)
                  have HC5 : Hid (∀ i, i < 5 → wr.cell? ⟨B, i, none⟩ = some (.pointer (some ⟨(b5 i).t, 0, none⟩))) := fun i hi => hp6.cell hi
                  have hown := hp6.own
                  obtain ⟨hcw, -⟩ := hp6.way?
                  rw [hway] at hown
                  obtain ⟨A', C', rfl⟩ : ∃ A' C', v5 = .slice A' 0 C' := by
                    rcases hown.2 with ⟨rfl, _⟩ | ⟨g', cap', cur', rfl, _⟩
                    · exact ⟨_, _, rfl⟩
                    · exact ⟨_, _, rfl⟩
                  have HW5 := Lib.hid hcw
                  clear hp6 hst5 hall hway hown hno hI5
                  simp only [Int.cast_ofNat_Int]
                  go_wp2_with fail
                  clear hcw
                  go_loopw [67] (fun i wx => wx = wr ∧ ∃ q : Nat, q ≤ 5 ∧ i = .int .i64 q) (fun i _ => 5 - (intOf i).toNat)
                  case atStart => exact ⟨rfl, 0, by omega, rfl⟩
                  case round =>
                    obtain ⟨rfl, q, hq, rfl⟩ := hrel
                    by_cases hq5 : q < 5
                    · have hcm := HC5.out q hq5
                      have HBm := Lib.hid (HBs.out q hq5)
                      go_wp2_with (go_at_call 12; refine HBm.out.mono ?_; rintro e w' ⟨rfl, rfl⟩)
                      go_roundw
                      case rel => exact ⟨trivial, q + 1, by omega, by go_num⟩
                      case measure => simp [intOf]; omega
                    · have hcw := HW5.out
                      go_wp2_with fail
                      go_ret
                      exact ⟨rfl, by rw [← HB.out]; exact hbl⟩
                · have hst := step0 hI5 hway
                  obtain ⟨b5, v5, hp6, hst5⟩ := hp5
                  obtain ⟨hcw, -⟩ := hp6.way?
                  have hlpos : 0 < A5.way.length := by
                    cases hA : A5.way with
                    | nil => exact absurd hA hway
                    | cons x l => simp
                  obtain ⟨g5, cap5, cur5, rfl, -⟩ := hp6.row hway
                  have hne5 : ((A5.way.length : Int) == 0) = false := by simp; omega
                  have HP6 : Hid (PlayIs B B A5 wr) := ⟨b5, _, hp6, hst5⟩
                  clear hp6 hst5 hno
                  go_wp2_with fail
                  refine (step_any B B A5 _ 0 0 0 HP6.out hI5 (by omega) (by omega) (by omega)).mono ?_
                  rintro e w5 ⟨rfl, hp7, f7⟩
                  have hw7 := stepP_way A5 0 0 0
                  have HE : Hid (EndRel B B W (100 + (m + 1)) (201 - (m + 1)) w5) := ⟨_, hp7, stepP_inv hI5 0 0 0, by omega, by omega, hbl.trans f7.below⟩
                  clear hp7 hw7 f7 hbl hcw hne5
                  go_wp2_with fail
                  go_roundw
                  case rel => exact ⟨m + 1, by omega, by go_num, HE.out⟩
                  case measure => simp [intOf]; omega

end Go.Proofs.Ytkjfiofefndgkaa
